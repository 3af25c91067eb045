import Derived.Test.YtiaaaghdkhnonaaGreatMo
import Derived.Test.YtiaaaghdkhnonaaGreatHo
import Derived.Test.YtiaaaghdkhnonaaGreatDx
namespace Go.Proofs.YtiaaaghdkhnonaaGreat
open Go.SL
theorem Qr {x n:Int} (h:0<n):-n<Int.tmod x n/\Int.tmod x n<n:=by
 have h1:=Int.tmod_lt_of_pos x h
 have h2:=Int.lt_tmod_of_pos x h
 exact⟨h2,h1⟩
theorem Z0 {x n:Int} (h:0<n) (h0:0<=x):0<=Int.tmod x n/\Int.tmod x n<n:=⟨Int.tmod_nonneg n h0,(Qr h).2⟩
structure A1 (s:Af):Prop where
 lo:0<=s.At
 hi:s.At<=s.L.length
 len:s.L.length<=600
def InR (n r:Int):Prop:=(1<=n->0<=r/\r<n)/\(n<1->r=0)
theorem A01 (x n:Int) (h:n<=4611686018427387904):Ok (F94 x n) (InR n):=by
 unfold F94
 refine c6 (λ h1=>?_) λ h1=>?_
 ·simp only [dE] at h1
  exact Ok.pure ⟨λ h2=>by omega,λ _=>rfl⟩
 ·simp only [dF] at h1
  refine (Ok.nzI (by omega)).bind λ _ _=>(Ok.nzI (by omega)).bind λ _ _=>Ok.pure ⟨λ _=>?_,λ h2=>by omega⟩
  have h2:=Qr (x:=x) (n:=n) (by omega)
  rw [A0 (by omega)]
  exact Z0 (by omega) (by omega)
theorem A4e {s:Af} (hs:A1 s) (n:Int) (h:n<=4611686018427387904):Ok (F44 s n) λ y=>A1 y.2/\InR n y.1:=by
 obtain⟨h1,h2,h3⟩:=hs
 unfold F44
 refine c6 (λ h4=>?_) λ h4=>?_
 ·exact Ok.pure ⟨⟨h1,h2,h3⟩,λ h5=>⟨by simp,by show (0:Int)<n;omega⟩,λ _=>rfl⟩
 ·simp only [dF] at h4
  have e:w64 (s.At+1)=s.At+1:=A0 (by omega)
  rw [e,A0 (n:=s.At+1-1) (by omega)]
  refine (cV (by omega) (by omega)).bind λ x _=>(A01 x n h).bind λ r hr=>Ok.pure ⟨⟨?_,?_,h3⟩,hr⟩
  ·show 0<=s.At+1;omega
  ·show s.At+1<=(s.L.length:Int);omega
theorem C4 {s:Af} (hs:A1 s) (n:Int) (h0:1<=n) (h:n<=4611686018427387904):Ok (F44 s n) λ y=>A1 y.2/\0<=y.1/\y.1<n:=
 (A4e hs n h).mono λ _ h=>⟨h.1,h.2.1 h0⟩
theorem Fu {s:Af} (hs:A1 s) (lo hi:Int) (h:lo<=hi) (h0:-1000000000000<=lo) (h1:hi<=1000000000000):Ok (F67 s lo hi) λ y=>A1 y.2/\lo<=y.1/\y.1<=hi:=by
 unfold F67
 have e:w64 (w64 (hi-lo)+1)=hi-lo+1:=by rw [A0 (n:=hi-lo) (by omega),A0 (by omega)]
 rw [e]
 refine (C4 hs _ (by omega) (by omega)).bind λ y hy=>Ok.pure ⟨hy.1,?_⟩
 have:=hy.2
 show lo<=w64 (lo+y.1)/\w64 (lo+y.1)<=hi
 rw [A0 (by omega)]
 omega
theorem Cv {s:Af} (hs:A1 s) (l:List Int) (h:1<=l.length) (h1:l.length<=1000):Ok (F20 s l) λ y=>A1 y.2/\y.1∈l:=by
 unfold F20
 refine (C4 hs _ (by omega) (by omega)).bind λ y hy=>?_
 have:=hy.2
 refine (cV (by omega) (by omega)).bind λ x hx=>Ok.pure ⟨hy.1,ae hx⟩
theorem A00 (l:List Int):Ok (F10 l) A1:=by
 unfold F10
 refine (Ok.cutI (by omega) (by omega) (by omega)).bind λ y hy=>Ok.pure ⟨by simp,by simp,?_⟩
 subst hy
 simp only [ce,aS]
 omega
def R9 (nb:Int) (ns nc:Nat) (x:Ak):Prop:=
 (0<=x.A/\x.A<nb)/\((x.Kind=1/\x.A<x.B/\x.B<nb)\/(x.Kind=2/\0<=x.B/\x.B<ns)\/(x.Kind=3/\0<=x.B/\x.B<nc))
def brs (l:List Ak) (k:Int) (i:Nat):List Ak:=l.filter λ x=>x.Kind==k&&x.B==(i:Int)
def Ajr (x:B1):Prop:=(1<=x.Rating/\x.Rating<=50000)/\(0<=x.Least/\x.Least<=x.Rating)/\0<=x.Start/\x.Start<=600
def Ak0 (i:Nat) (x:A7):Prop:=
 (0<=x.Load/\x.Load<=50000)/\(0<=x.Least/\x.Least<=x.Load)/\(0<=x.Bz/\x.Bz<=15)/\(-1<=x.Thruster/\x.Thruster<=7)/\x.Needs.length<=4 /\
 (∀ n,n∈x.Needs->0<=n/\n<(i:Int))/\∀ (j:Nat) a b,x.Needs[j]? = some a->x.Needs[j+1]? = some b->a<b
structure Ax (b:Aa):Prop where
 buses:1<=b.Am/\b.Am<=6
 brl:b.Ah.length<=24
 sol:b.Ae.length<=8
 col:b.Ag.length<=16
 phase:0<=b.Phase/\b.Phase<=1800
 freq:0<=b.Aq/\b.Aq<=6000
 br:∀ x,x∈b.Ah->R9 b.Am b.Ae.length b.Ag.length x
 one:∀ i,i<b.Ae.length->(brs b.Ah 2 i).length=1
 any:∀ i,i<b.Ag.length->brs b.Ah 3 i≠[]
 nodup:∀ i,((brs b.Ah 3 i).map (·.A)).Nodup
 so:∀ x,x∈b.Ae->Ajr x
 co:∀ (i:Nat) x,b.Ag[i]? = some x->Ak0 i x
theorem Hi (l m:List Ak) (k:Int) (i:Nat):brs (l++m) k i=brs l k i++brs m k i:=by unfold brs;rw [bu]
theorem Agt (x:Ak) (k:Int) (i:Nat):brs [x] k i=if x.Kind=k/\x.B=(i:Int) then [x] else []:=by
 unfold brs
 simp only [aT,List.filter_nil,ab,dG]
theorem Lb {l:List Ak} {k:Int} {i:Nat} (h:∀ x,x∈l->x.Kind=k->x.B≠(i:Int)):brs l k i=[]:=by
 unfold brs
 rw [cK]
 intro x hx
 simp only [ab,dG,not_and]
 exact h x hx
def Mi (nb:Int) (l:List Ak):Prop:=∀ x,x∈l->x.Kind=1/\0<=x.A/\x.A<x.B/\x.B<nb
structure Pf (nb:Int) (l:List Ak) (so:List B1):Prop where
 len:l.length<=4+so.length
 br:∀ x,x∈l->(0<=x.A/\x.A<nb)/\((x.Kind=1/\x.A<x.B/\x.B<nb)\/(x.Kind=2/\0<=x.B/\x.B<so.length))
 one:∀ i,i<so.length->(brs l 2 i).length=1
 so:∀ x,x∈so->Ajr x
structure R8 (nb:Int) (l:List Ak) (ns:Nat) (co:List A7):Prop where
 len:l.length<=4+ns+2*co.length
 br:∀ x,x∈l->R9 nb ns co.length x
 one:∀ i,i<ns->(brs l 2 i).length=1
 any:∀ i,i<co.length->brs l 3 i≠[]
 nodup:∀ i,((brs l 3 i).map (·.A)).Nodup
 co:∀ (i:Nat) x,co[i]? = some x->Ak0 i x/\x.Thruster<=7
theorem Pf.cons {nb:Int} {l:List Ak} {so:List B1} (h:Pf nb l so):R8 nb l so.length [] where
 len:=by have:=h.len;simp;omega
 br x hx:=by
  obtain⟨h1,h2⟩:=h.br x hx
  exact⟨h1,h2.imp id .inl⟩
 one:=h.one
 any i hi:=by simp at hi
 nodup i:=by
  rw [Lb]
  ·simp
  ·intro x hx h3
   obtain⟨_,h2⟩:=h.br x hx
   omega
 co i x hx:=by simp at hx
theorem Pf.add {nb:Int} {l:List Ak} {so:List B1} (h:Pf nb l so) {x:Ak} {y:B1} (hx:x.Kind=2/\x.B=so.length/\0<=x.A/\x.A<nb) (hy:Ajr y):Pf nb (l++[x]) (so++[y]) where
 len:=by have:=h.len;simp;omega
 br z hz:=by
  rcases am.1 hz with hz | hz
  ·obtain⟨h1,h2⟩:=h.br z hz
   refine⟨h1,?_⟩
   rw [aF]
   simp only [aL,bE]
   omega
  ·simp at hz;subst hz
   refine⟨hx.2.2,.inr ⟨hx.1,?_⟩⟩
   rw [aF]
   simp only [aL,bE]
   omega
 one i hi:=by
  rw [aF] at hi
  simp only [aL,bE] at hi
  rw [Hi,Agt,aF]
  by_cases e:i=so.length
  ·rw [Lb,if_pos ⟨hx.1,by omega⟩]
   ·rfl
   ·intro z hz h2
    obtain⟨_,h3⟩:=h.br z hz
    omega
  ·rw [h.one i (by omega),if_neg (by omega)];rfl
 so z hz:=by
  rcases am.1 hz with hz | hz
  ·exact h.so z hz
  ·simp at hz;subst hz;exact hy
theorem R8.add {nb:Int} {l m:List Ak} {ns:Nat} {co:List A7} (h:R8 nb l ns co) {y:A7} (hm:∀ x,x∈m->x.Kind=3/\x.B=co.length/\0<=x.A/\x.A<nb) (h1:m≠[]) (h2:m.length<=2) (h3:(m.map (·.A)).Nodup)
  (hy:Ak0 co.length y/\y.Thruster<=7):R8 nb (l++m) ns (co++[y]):=by
 have e1:brs m 3 co.length=m:=by
  unfold brs
  rw [cC]
  intro x hx
  obtain⟨g1,g2,_⟩:=hm x hx
  simp [g1,g2]
 have e2:∀ i,i≠co.length->brs m 3 i=[]:=λ i hi=>Lb λ x hx _ e=>by
  have:=(hm x hx).2.1
  omega
 have e3:brs l 3 co.length=[]:=Lb λ x hx h3 e=>by
  obtain⟨_,g⟩:=h.br x hx
  omega
 have hlen:(co++[y]).length=co.length+1:=by simp
 refine⟨?_,λ z hz=>?_,λ i hi=>?_,λ i hi=>?_,λ i=>?_,λ i x hx=>?_⟩
 ·have:=h.len
  rw [aF,hlen];omega
 ·rw [hlen]
  rcases am.1 hz with hz | hz
  ·obtain⟨g1,g2⟩:=h.br z hz
   exact⟨g1,by omega⟩
  ·obtain⟨g1,g2,g3⟩:=hm z hz
   exact⟨g3,by omega⟩
 ·have:brs m 2 i=[]:=Lb λ x hx h2=>by have:=(hm x hx).1;omega
  rw [Hi,this,aZ]
  exact h.one i hi
 ·rw [Hi]
  rw [hlen] at hi
  by_cases e:i=co.length
  ·subst e;rw [e1];simp [h1]
  ·have:=h.any i (by omega)
   simp [this]
 ·rw [Hi]
  by_cases e:i=co.length
  ·subst e;rw [e1,e3];simpa using h3
  ·rw [e2 i e,aZ];exact h.nodup i
 ·rw [b9] at hx
  split at hx
  ·exact h.co i x hx
  ·rename_i hi
   have:i=co.length:=by
    have:=(aa.1 hx).1
    simp at this;omega
   subst this
   simp at hx;subst hx;exact hy
theorem Mi.nil (nb:Int):Mi nb []:=λ x hx=>by cases hx
theorem Mi.add {nb:Int} {l:List Ak} (h:Mi nb l) {x:Ak} (hx:x.Kind=1/\0<=x.A/\x.A<x.B/\x.B<nb):Mi nb (l++[x]):=λ z hz=>by
 rcases am.1 hz with hz | hz
 ·exact h z hz
 ·simp at hz;subst hz;exact hx
theorem Mi.gens {nb:Int} {l:List Ak} (h:Mi nb l) (hl:l.length<=4):Pf nb l [] where
 len:=by simpa using hl
 br x hx:=by have:=h x hx;exact⟨by omega,.inl (by omega)⟩
 one i hi:=by simp at hi
 so x hx:=by cases hx
theorem Asb {y:Int×Af} (hy:1<=y.1/\y.1<=4) {s0:Af} (hs0:A1 s0) :
  Ok (whileN (Adn y) 1152921504606846976 (1,s0.L,s0.At,([]:List Ak))) (Eo (λ s=>A1 ⟨s.2.1,s.2.2.1⟩/\Mi y.1 s.2.2.2/\s.2.2.2.length<=3) (λ (_:Unit)=>False)):=by
 refine c9 (λ s=>(1<=s.1/\s.1<=4/\s.1<=y.1)/\A1 ⟨s.2.1,s.2.2.1⟩/\Mi y.1 s.2.2.2/\(s.2.2.2.length:Int)+1<=s.1) (λ s=>(y.1-s.1).toNat) _ _ ?_ ?_ ?_
 ·exact⟨by dsimp only;omega,hs0,Mi.nil _,by simp⟩
 ·dsimp only;omega
 ·rintro⟨i,L,a,l⟩ ⟨⟨h1,h2,h3⟩,h4,h5,h6⟩
  dsimp only at h1 h2 h3 h4 h5 h6
  unfold Adn
  refine c6 (λ h=>?_) (λ h=>?_)
  ·simp only [dE] at h
   have e:w64 (i+1)=i+1:=A0 (by omega)
   dsimp only
   rw [e]
   refine (C4 h4 6 (by omega) (by omega)).bind λ u hu=>c6 (λ _=>?_) (λ _=>?_)
   ·refine (C4 hu.1 i h1 (by omega)).bind λ v hv=>(cW (by simp;omega)).bind λ m hm=>c7 ?_
    subst hm
    have:=hv.2
    refine⟨⟨by dsimp only;omega,hv.1,h5.add ⟨rfl,by dsimp only;omega,by dsimp only;omega,by dsimp only;omega⟩,by simp;omega⟩,by dsimp only;omega⟩
   ·refine c7 ⟨⟨by dsimp only;omega,hu.1,h5,by dsimp only;omega⟩,by dsimp only;omega⟩
  ·exact cX ⟨h4,h5,by dsimp only;omega⟩
theorem Asa {y:Int×Af} (hy:1<=y.1/\y.1<=4) {s0:Af} (hs0:A1 s0) {k:Int} (hk:0<=k/\k<5) {l0:List Ak} (hl0:Pf y.1 l0 []) :
  Ok (whileN (Adm y) 1152921504606846976 (k,s0.L,s0.At,l0,([]:List B1))) (Eo (λ s=>A1 ⟨s.2.1,s.2.2.1⟩/\Pf y.1 s.2.2.2.1 s.2.2.2.2/\s.2.2.2.2.length<=4) (λ (_:Unit)=>False)):=by
 refine c9 (λ s=>(0<=s.1/\s.1+(s.2.2.2.2.length:Int)<=4)/\A1 ⟨s.2.1,s.2.2.1⟩/\Pf y.1 s.2.2.2.1 s.2.2.2.2) (λ s=>s.1.toNat) _ _ ?_ ?_ ?_
 ·exact⟨by simp;omega,hs0,hl0⟩
 ·dsimp only;omega
 ·rintro⟨i,L,a,l,so⟩ ⟨⟨h1,h2⟩,h4,h5⟩
  dsimp only at h1 h2 h4 h5
  unfold Adm
  refine c6 (λ h=>?_) (λ h=>?_)
  ·simp only [dE] at h
   have e:w64 (i-1)=i-1:=A0 (by omega)
   have hl:=h5.len
   dsimp only
   rw [e]
   refine (C4 h4 y.1 hy.1 (by omega)).bind λ u hu=>(cW (by simp;omega)).bind λ m hm=>?_
   refine (Cv hu.1 _ (by simp) (by simp)).bind λ v hv=>(Cv hv.1 _ (by simp) (by simp)).bind λ p hp=>(Cv hp.1 _ (by simp) (by simp)).bind λ q hq=>(cW (by simp;omega)).bind λ o ho=>c7 ?_
   subst hm;subst ho
   have g1:=hu.2
   have g2:v.1=10\/v.1=50\/v.1=100:=by simpa using hv.2
   have g3:p.1=0\/p.1=5\/p.1=v.1:=by simpa using hp.2
   have g4:q.1=0\/q.1=1\/q.1=3:=by simpa using hq.2
   refine⟨⟨by simp;omega,hq.1,h5.add ⟨rfl,rfl,g1⟩ ⟨by dsimp only;omega,by dsimp only;omega,by dsimp only;omega⟩⟩,by dsimp only;omega⟩
  ·exact cX ⟨h4,h5,by dsimp only;omega⟩
theorem Avm {x:Int} (h:0<=x) (h2:x<=50000):0<=w64 (Int.tdiv x 2)/\w64 (Int.tdiv x 2)<=x:=by
 have:Int.tdiv x 2=x / 2:=cF h
 rw [this,A0 (by omega)]
 omega
theorem Ap4 {x:Int} (h:0<=x) (h2:x<=50000):0<=w64 (Int.tdiv x 3)/\w64 (Int.tdiv x 3)<=x:=by
 have:Int.tdiv x 3=x / 3:=cF h
 rw [this,A0 (by omega)]
 omega
theorem Ar9 {y:Int×Af} (hy:1<=y.1/\y.1<=4) {s0:Af} (hs0:A1 s0) {k:Int} (hk:0<=k/\k<6) {ns:Nat} (hns:ns<=4) {l0:List Ak} (hl0:R8 y.1 l0 ns []) :
  Ok (whileN (Adl y) 1152921504606846976 (k,s0.L,s0.At,l0,([]:List A7))) (Eo (λ s=>A1 ⟨s.2.1,s.2.2.1⟩/\R8 y.1 s.2.2.2.1 ns s.2.2.2.2/\s.2.2.2.2.length<=5) (λ (_:Unit)=>False)):=by
 refine c9 (λ s=>(0<=s.1/\s.1+(s.2.2.2.2.length:Int)<=5)/\A1 ⟨s.2.1,s.2.2.1⟩/\R8 y.1 s.2.2.2.1 ns s.2.2.2.2) (λ s=>s.1.toNat) _ _ ?_ ?_ ?_
 ·exact⟨by simp;omega,hs0,hl0⟩
 ·dsimp only;omega
 ·rintro⟨i,L,a,l,co⟩ ⟨⟨h1,h2⟩,h4,h5⟩
  dsimp only at h1 h2 h4 h5
  unfold Adl
  refine c6 (λ h=>?_) (λ h=>?_)
  ·simp only [dE] at h
   have e:w64 (i-1)=i-1:=A0 (by omega)
   have hl:=h5.len
   dsimp only
   rw [e]
   refine (C4 h4 y.1 hy.1 (by omega)).bind λ u hu=>(cW (by simp;omega)).bind λ m hm=>?_
   subst hm
   have g1:=hu.2
   refine Ok.bind (P:=λ v=>A1 v.2) (cT (λ _=>(C4 hu.1 4 (by omega) (by omega)).mono λ _ h=>h.1) λ _=>hu.1) λ v hv=>?_
   refine Ok.inner (A:=λ (r:List Ak)=>∃ m,r=l++m/\(∀ x,x∈m->x.Kind=3/\x.B=co.length/\0<=x.A/\x.A<y.1)/\m≠[]/\m.length<=2/\(m.map (·.A)).Nodup) (B:=λ (_:Unit)=>False) ?_ (λ r hr=>?_) (λ _ h=>h.elim)
   ·unfold Aof
    refine c6 (λ hc=>?_) (λ hc=>?_)
    ·simp only [ab,dE] at hc
     have e2:w64 (u.1+1)=u.1+1:=A0 (by omega)
     rw [e2]
     refine (Ok.nzI (by omega)).bind λ _ _=>(cW (by simp;omega)).bind λ m hm=>d7 ?_
     subst hm
     have g2:=Z0 (x:=u.1+1) (n:=y.1) (by omega) (by omega)
     have g3:Int.tmod (u.1+1) y.1≠u.1:=by
      rw [Int.tmod_eq_emod_of_nonneg (by omega)]
      intro e3
      by_cases g4:u.1+1=y.1
      ·rw [g4,Int.emod_self] at e3;omega
      ·rw [Int.emod_eq_of_lt (by omega) (by omega)] at e3;omega
     refine⟨_,bB _ _ _,?_,by simp,by simp,?_⟩
     ·intro x hx
      simp at hx
      rcases hx with rfl | rfl
      ·exact⟨rfl,rfl,g1⟩
      ·exact⟨rfl,rfl,g2⟩
     ·simp
      exact λ h=>g3 h.symm
    ·exact d7 ⟨_,rfl,λ x hx=>by simp at hx;subst hx;exact⟨rfl,rfl,g1⟩,by simp,by simp,by simp⟩
   ·obtain⟨m,rfl,hm,hm1,hm2,hm3⟩:=hr
    refine (Cv hv _ (by simp) (by simp)).bind λ p hp=>(Cv hp.1 _ (by simp) (by simp)).bind λ q hq=>(C4 hq.1 3 (by omega) (by omega)).bind λ pr hpr=>(Fu hpr.1 (-1) 2 (by omega) (by omega) (by omega)).bind λ th hth=>?_
    have k1:p.1=0\/p.1=5\/p.1=20\/p.1=40:=by simpa using hp.2
    have k2:q.1=0\/q.1=w64 (Int.tdiv p.1 2)\/q.1=p.1:=by simpa using hq.2
    have k3:=Avm (x:=p.1) (by omega) (by omega)
    have k4:=hpr.2
    have k5:=hth.2
    refine Ok.bind (P:=λ v=>A1 v.2) (cT (λ _=>(C4 hth.1 4 (by omega) (by omega)).mono λ _ h=>h.1) λ _=>hth.1) λ w hw=>c6 (λ hc=>?_) (λ hc=>?_)
    ·simp only [At7,ab,dE] at hc
     refine (C4 hw _ (by omega) (by omega)).bind λ n hn=>(cW (by simp;omega)).bind λ o ho=>c7 ?_
     subst ho
     have k6:=hn.2
     refine⟨⟨by simp;omega,hn.1,h5.add hm hm1 hm2 hm3 ⟨⟨by dsimp only;omega,by dsimp only;omega,by dsimp only;omega,by dsimp only;omega,by simp,?_,?_⟩,by dsimp only;omega⟩⟩,by dsimp only;omega⟩
     ·intro z hz;simp at hz;subst hz;exact k6
     ·intro j a b ha hb
      simp at hb
    ·refine (cW (by simp;omega)).bind λ o ho=>c7 ?_
     subst ho
     refine⟨⟨by simp;omega,hw,h5.add hm hm1 hm2 hm3 ⟨⟨by dsimp only;omega,by dsimp only;omega,by dsimp only;omega,by dsimp only;omega,by simp,?_,?_⟩,by dsimp only;omega⟩⟩,by dsimp only;omega⟩
     ·intro z hz;simp at hz
     ·intro j a b ha hb;simp at ha
  ·exact cX ⟨h4,h5,by dsimp only;omega⟩
structure A4f (b:Aa):Prop where
 ok:Ax b
 buses:b.Am<=4
 brl:b.Ah.length<=18
 sol:b.Ae.length<=4
 col:b.Ag.length<=5
 thr:∀ x,x∈b.Ag->x.Thruster<=7
theorem Atp {s:Af} (hs:A1 s):Ok (F84 s) λ y=>A4f y.1/\A1 y.2:=by
 unfold F84
 refine (Fu hs 1 4 (by omega) (by omega) (by omega)).bind λ y1 h1=>(Cv h1.1 _ (by simp) (by simp)).bind λ y3 h3=>(Cv h3.1 _ (by simp) (by simp)).bind λ y5 h5=>?_
 refine (Asb h1.2 h5.1).andThen (λ s0 hs0=>?_) (λ _ h=>h.elim)
 refine Ok.bind (P:=λ v=>A1 v.2) (cT (λ _=>(C4 hs0.1 2 (by omega) (by omega)).mono λ _ h=>h.1) λ _=>hs0.1) λ y15 h15=>?_
 have hb:=h1.2
 refine Ok.andThen (A:=λ (l:List Ak)=>Mi y1.1 l/\l.length<=4) (B:=λ (_:Unit)=>False) ?_ (λ l hl=>?_) (λ _ h=>h.elim)
 ·unfold Aog
  refine c6 (λ hc=>?_) (λ hc=>d7 ⟨hs0.2.1,by omega⟩)
  simp only [ab,dE] at hc
  have e:w64 (y1.1-1)=y1.1-1:=A0 (by omega)
  rw [e]
  have:=hs0.2.2
  refine (cW (by simp;omega)).bind λ m hm=>d7 ?_
  subst hm
  exact⟨hs0.2.1.add ⟨rfl,by simp,by dsimp only;omega,by dsimp only;omega⟩,by simp;omega⟩
 ·refine (C4 h15 5 (by omega) (by omega)).bind λ y20 h20=>?_
  refine (Asa h1.2 h20.1 h20.2 (hl.1.gens hl.2)).andThen (λ s2 hs2=>?_) (λ _ h=>h.elim)
  refine (C4 hs2.1 6 (by omega) (by omega)).bind λ y35 h35=>?_
  refine (Ar9 h1.2 h35.1 h35.2 hs2.2.2 hs2.2.1.cons).andThen (λ s3 hs3=>Ok.pure ⟨?_,hs3.1⟩) (λ _ h=>h.elim)
  obtain⟨_,hc,hl5⟩:=hs3
  have hl4:=hs2.2.2
  have hlen:=hc.len
  have p3:y3.1=0\/y3.1=50\/y3.1=200\/y3.1=1800:=by simpa using h3.2
  have p5:y5.1=0\/y5.1=10\/y5.1=50:=by simpa using h5.2
  refine⟨⟨by dsimp only;omega,by dsimp only;omega,by dsimp only;omega,by dsimp only;omega,by dsimp only;omega,by dsimp only;omega,hc.br,hc.one,hc.any,hc.nodup,hs2.2.1.so,λ i x hx=>(hc.co i x hx).1⟩,by dsimp only;omega,by dsimp only;omega,hl4,hl5,λ x hx=>?_⟩
  obtain⟨i,hi⟩:=bI hx
  exact (hc.co i x hi).2
set_option linter.unusedVariables false
def Fw (p:Ab):Prop:=(1<=p.Kind/\p.Kind<=9)/\0<=p.Number/\p.Number<=63
def Aiq (x y:A6):Prop:=Dh x.From y.From=true\/x.From=y.From/\Dh x.To y.To=true
structure qU (l:List Ab) (L:List A6):Prop where
 len:L.length<=20
 mem:∀ x,x∈L->x.From∈l/\x.To∈l/\x.From≠x.To
 asc:L.Pairwise Aiq
def G7:List ByteArray:=[(⟨#[111,110,101]⟩:ByteArray),(⟨#[116,119,111]⟩:ByteArray),(⟨#[103,45,51]⟩:ByteArray),(⟨#[120]⟩:ByteArray)]
structure Xj (l:List Ab) (G:List Bn):Prop where
 len:G.length<=3
 mem:∀ g,g∈G->g.Name∈G7/\g.Parts≠[]/\Dr g.Parts/\(∀ p,p∈g.Parts->p∈l)/\g.Parts.length<=40
 dist:G.Pairwise λ a b=>a.Name≠b.Name
structure Ox (d:A4):Prop where
 asc:Dr d.Parts
 ok:∀ p,p∈d.Parts->Fw p
 len:d.Parts.length<=30
 links:qU d.Parts d.Links
 groups:Xj d.Parts d.Groups
theorem Ir (x y:Ab):((x.Kind==y.Kind)&&((x.Number==y.Number)&&true))=Ek x y:=by
 unfold Ek;rw [bG]
theorem Ud {l:List Ab} (hl:Dr l) {i j:Nat} {x y:Ab} (hx:l[i]? = some x) (hy:l[j]? = some y) (h:i<j):Dh x y=true:=by
 obtain⟨h1,rfl⟩:=aa.1 hx
 obtain⟨h2,rfl⟩:=aa.1 hy
 exact bS.1 hl i j h1 h2 h
theorem Vm {α:Type} {R:α->α->Prop} {l:List α} {x:α} (h:l.Pairwise R) (hx:∀ y,y∈l->R y x):(l++[x]).Pairwise R:=
 List.pairwise_append.2 ⟨h,List.pairwise_singleton _ _,λ a ha b hb=>by rw [aC.1 hb];exact hx a ha⟩
theorem Agy {s:Af} (hs:A1 s) {n k:Int} (hn:n<=1000) (hk:1<=k/\k<=1000):Ok (F91 s n k) λ y=>A1 y.2/\y.1.Pairwise (· < ·)/\(∀ x,x∈y.1->0<=x/\x<n)/\(y.1.length:Int)<=max n 0:=by
 unfold F91
 refine Ok.andThen (A:=λ s=>A1 ⟨s.2.1,s.2.2.1⟩/\s.2.2.2.Pairwise (· < ·)/\(∀ x,x∈s.2.2.2->0<=x/\x<n)/\(s.2.2.2.length:Int)<=max n 0) (B:=λ (_:Unit)=>False) ?_ (λ z hz=>Ok.pure hz) (λ _ h=>h.elim)
 refine c9 (λ s=>(0<=s.1/\s.1<=max n 0/\(s.2.2.2.length:Int)<=s.1)/\A1 ⟨s.2.1,s.2.2.1⟩/\s.2.2.2.Pairwise (· < ·)/\(∀ x,x∈s.2.2.2->0<=x/\x<s.1/\x<n)) (λ s=>(n-s.1).toNat) _ _ ?_ ?_ ?_
 ·exact⟨⟨by omega,by dsimp only;omega,by simp⟩,hs,bQ,by simp⟩
 ·dsimp only;omega
 ·rintro⟨i,L,a,l⟩ ⟨⟨h1,h2,h3⟩,h4,h5,h6⟩
  dsimp only at h1 h2 h3 h4 h5 h6
  unfold Aoc
  refine c6 (λ h=>?_) (λ h=>?_)
  ·simp only [dE] at h
   have e:w64 (i+1)=i+1:=A0 (by omega)
   dsimp only
   rw [e]
   refine (C4 h4 k hk.1 (by omega)).bind λ u hu=>c6 (λ _=>?_) (λ _=>?_)
   ·refine (cW (by simp;omega)).bind λ m hm=>c7 ?_
    subst hm
    refine⟨⟨⟨by dsimp only;omega,by dsimp only;omega,by simp;omega⟩,hu.1,Vm h5 λ y hy=>(h6 y hy).2.1,λ x hx=>?_⟩,by dsimp only;omega⟩
    rcases am.1 hx with hx | hx
    ·have:=h6 x hx;dsimp only;omega
    ·rw [aC.1 hx];dsimp only;omega
   ·exact c7 ⟨⟨⟨by dsimp only;omega,by dsimp only;omega,by dsimp only;omega⟩,hu.1,h5,λ x hx=>by have:=h6 x hx;dsimp only;omega⟩,by dsimp only;omega⟩
  ·simp only [dF] at h
   exact cX ⟨h4,h5,λ x hx=>by have:=h6 x hx;omega,by dsimp only;omega⟩
def Xi (l:List Ab) (i j:Nat) (L:List A6):Prop:=
 L.length<=20/\(∀ x,x∈L->x.From∈l/\x.To∈l/\x.From≠x.To)/\L.Pairwise Aiq /\
 ∀ x,x∈L->(∃ k,k<i/\l[k]? = some x.From)\/l[i]? = some x.From/\∃ k,k<j/\l[k]? = some x.To
theorem Xi.mono {l:List Ab} {i j:Nat} {L:List A6} (h:Xi l i j L):Xi l i (j+1) L:=
 ⟨h.1,h.2.1,h.2.2.1,λ x hx=>(h.2.2.2 x hx).imp id λ ⟨h1,k,h2,h3⟩=>⟨h1,k,by omega,h3⟩⟩
theorem vV {l:List Ab} (hl:Dr l) (hn:l.length<=40) {s:Af} (hs:A1 s):Ok (Aaj s l) λ y=>qU l y.1/\A1 y.2:=by
 unfold Aaj
 refine Ok.andThen (A:=λ z=>Xi l l.length 0 z.2.2/\A1 ⟨z.1,z.2.1⟩) (B:=λ (_:Unit)=>False) ?_ (λ z hz=>Ok.pure ⟨⟨hz.1.1,hz.1.2.1,hz.1.2.2.1⟩,hz.2⟩) (λ _ h=>h.elim)
 refine c8 (I:=λ i z=>Xi l i 0 z.2.2/\A1 ⟨z.1,z.2.1⟩) ⟨⟨by simp,by simp,bQ,by simp⟩,hs⟩ (λ i x z hx hz=>?_) λ z hz=>hz
 unfold Adk
 refine Ok.inner (A:=λ z=>Xi l i l.length z.2.2/\A1 ⟨z.1,z.2.1⟩) (B:=λ (_:Unit)=>False) ?_ (λ z hz=>c7 ⟨⟨hz.1.1,hz.1.2.1,hz.1.2.2.1,λ y hy=>.inl ?_⟩,hz.2⟩) (λ _ h=>h.elim)
 ·refine c8 (I:=λ j z=>Xi l i j z.2.2/\A1 ⟨z.1,z.2.1⟩) hz (λ j y z hy hz=>?_) λ z hz=>hz
  unfold Adi
  refine Ok.bind (P:=λ v=>A1 v.2) (cT (λ _=>(C4 hz.2 7 (by omega) (by omega)).mono λ _ h=>h.1) λ _=>hz.2) λ v hv=>c6 (λ hc=>?_) (λ _=>c7 ⟨hz.1.mono,hv⟩)
  simp only [Agq,ab,dE,aX,Ir] at hc
  obtain⟨h1,h2,h3,h4⟩:=hz.1
  refine (cW (by simp;omega)).bind λ m hm=>c7 ?_
  subst hm
  have hne:x≠y:=λ e=>by
   have:=De.2 e
   rw [hc.1.1] at this;cases this
  refine⟨⟨by simp;omega,λ w hw=>?_,Vm h3 λ w hw=>?_,λ w hw=>?_⟩,hv⟩
  ·rcases am.1 hw with hw | hw
   ·exact h2 w hw
   ·rw [aC.1 hw];exact⟨ae hx,ae hy,hne⟩
  ·rcases h4 w hw with⟨k,hk,e⟩ | ⟨e,k,hk,e2⟩
   ·exact .inl (Ud hl e hx hk)
   ·rw [hx] at e
    exact .inr ⟨(bc e).symm,Ud hl e2 hy hk⟩
  ·rcases am.1 hw with hw | hw
   ·exact (h4 w hw).imp id λ ⟨h1,k,h2,h3⟩=>⟨h1,k,by omega,h3⟩
   ·rw [aC.1 hw];exact .inr ⟨hx,j,by omega,hy⟩
 ·rcases hz.1.2.2.2 y hy with⟨k,hk,e⟩ | ⟨e,_⟩
  ·exact⟨k,by omega,e⟩
  ·exact⟨i,by omega,e⟩
theorem Au3 {a b:Ab} (h:Dh a b=true):a≠b:=λ e=>by rw [e,K5] at h;cases h
theorem Vh {l:List Ab} (hl:Dr l) (hn:l.length<=1000) (p:Ab):Ow l p=some (Gl p l):=by
 refine d5 ?_
 unfold Ow
 refine Ok.andThen (A:=λ z=>∃ k:Nat,z=(k:Int)/\k<=l.length/\(∀ (i:Nat) x,i<k->l[i]? = some x->Dh x p=true)/\∀ x,l[k]? = some x->Dh x p=false) (B:=λ (_:Unit)=>False) ?_ (λ z hz=>?_) (λ _ h=>h.elim)
 ·refine c9 (λ z=>∃ k:Nat,z=(k:Int)/\k<=l.length/\∀ (i:Nat) x,i<k->l[i]? = some x->Dh x p=true) (λ z=>(l.length-z).toNat) _ _ ⟨0,rfl,by omega,by omega⟩ (by omega) λ z hz=>?_
  obtain⟨k,rfl,h1,h2⟩:=hz
  unfold Ado
  refine Ok.bind (P:=λ v=>k<l.length->l[k]? = some v) (cT (λ ha=>?_) λ ha=>?_) λ v hv=>c6 (λ hc=>c7 ?_) (λ hc=>cX ?_)
  ·have h3:(k:Int)<l.length:=by simpa using ha.1
   exact (cV (by omega) h3).mono λ x hx _=>by simpa using hx
  ·intro h3
   exact absurd ⟨by simpa using h3,trivial⟩ ha
  ·simp only [qS,ab,dE] at hc
   have e:w64 ((k:Int)+1)=(k:Int)+1:=A0 (by omega)
   rw [e]
   have hk:k<l.length:=by omega
   refine⟨⟨k+1,rfl,by omega,λ i x hi hx=>?_⟩,by omega⟩
   by_cases hik:i=k
   ·subst hik
    rw [hv hk] at hx
    have hc2:=hc.2
    rw [bc hx] at hc2
    exact hc2
   ·exact h2 i x (by omega) hx
  ·refine⟨k,rfl,h1,h2,λ x hx=>?_⟩
   have hk:=(aa.1 hx).1
   have e:=hv hk
   rw [hx] at e
   cases e
   simp only [qS,ch,dF] at hc
   rcases hc with hc | hc
   ·omega
   ·exact hc
 ·obtain⟨k,rfl,h1,h2,h3⟩:=hz
  have hmem:∀ x,x∈l.take k->Dh x p=true:=λ x hx=>by
   obtain⟨i,hi⟩:=bI hx
   rw [an] at hi
   split at hi
   ·exact h2 i x (by assumption) hi
   ·cases hi
  refine Ok.bind (P:=λ v=>k<l.length->l[k]? = some v) (cT (λ ha=>?_) λ ha=>?_) λ v hv=>c6 (λ hc=>Ok.pure ?_) (λ hc=>?_)
  ·have h4:(k:Int)<l.length:=by simpa using ha.1
   exact (cV (by omega) h4).mono λ x hx _=>by simpa using hx
  ·intro h4
   exact absurd ⟨by simpa using h4,trivial⟩ ha
  ·simp only [qR,ab,dE,Ir] at hc
   have hk:k<l.length:=by omega
   have e:=hv hk
   rw [De.1 hc.2] at e
   refine Iz hl (Ig p hl) λ x=>?_
   rw [E8]
   exact⟨.inr,λ h=>h.elim (λ h=>h ▸ ae e) id⟩
  ·refine (Ok.bndI (by omega) (by omega) (by omega)).bind λ _ _=>(Ok.bndI (by omega) (by omega) (by omega)).bind λ _ _=>?_
   have ht:List.take ((l.length:Int).toNat-(k:Int).toNat) (List.drop (k:Int).toNat l)=l.drop k:=by
    rw [aE,aE,cu (by simp)]
   rw [ht]
   refine (cW (by simp;omega)).bind λ a ha=>?_
   subst ha
   refine (cW (by simp;omega)).bind λ a ha=>Ok.pure ?_
   subst ha
   rw [aE,Nat.sub_zero]
   have hgt:∀ x,x∈l.drop k->Dh p x=true:=λ x hx=>by
    obtain⟨i,hi⟩:=bI hx
    rw [ar] at hi
    have hk:k<l.length:=by have:=(aa.1 hi).1;omega
    have e:=hv hk
    have hlt:=h3 v e
    have hne:Ek v p=false:=by
     simp only [qR,ch,dF,Ir] at hc
     rcases hc with hc | hc
     ·omega
     ·exact hc
    have hpv:Dh p v=true:=by
     rcases Ws v p with h | h | h
     ·rw [hlt] at h;cases h
     ·rw [De.2 h] at hne;cases hne
     ·exact h
    by_cases h0:i=0
    ·subst h0
     rw [bx,e] at hi;cases hi;exact hpv
    ·exact Ki hpv (Ud hl e hi (by omega))
   refine Iz ?_ (Ig p hl) λ x=>?_
   ·refine List.pairwise_append.2 ⟨hl.sublist (List.take_sublist _ _),aP.2 ⟨hgt,hl.sublist (List.drop_sublist _ _)⟩,λ a ha b hb=>?_⟩
    rcases ag.1 hb with hb | hb
    ·rw [hb];exact hmem a ha
    ·exact Ki (hmem a ha) (hgt b hb)
   ·rw [E8]
    have hm:x∈l↔x∈l.take k\/x∈l.drop k:=by rw [←am,bT]
    rw [hm]
    simp only [am,ag,List.singleton_append]
    constructor
    ·rintro (h | h | h)
     ·exact .inr (.inl h)
     ·exact .inl h
     ·exact .inr (.inr h)
    ·rintro (h | h | h)
     ·exact .inr (.inl h)
     ·exact .inl h
     ·exact .inr (.inr h)
theorem Nu (p:Ab):∀ l:List Ab,(Gl p l).length<=l.length+1
 | []=>by simp [Gl]
 | q::l=>by
  unfold Gl
  cases Dh p q with
  | true=>simp
  | false=>
   cases Dh q p with
   | true=>have:=Nu p l;simp;omega
   | false=>simp
theorem Avk (p:Ab) (l:List Ab):Gl p l≠[]:=λ e=>by
 have:p∈Gl p l:=(E8 p l p).2 (.inl rfl)
 rw [e] at this;cases this
theorem Are {k:Int} (h0:0<=k) (h1:k<4):Ok (getI G7 k) λ x=>G7[k.toNat]? = some x:=cV h0 (by simp [G7];omega)
theorem Aiy {i j:Nat} {x:ByteArray} (hi:G7[i]? = some x) (hj:G7[j]? = some x):i=j:=by
 have h1:=(aa.1 hi).1
 have h2:=(aa.1 hj).1
 have hn:G7.Nodup:=by decide +kernel
 exact (List.getElem?_inj h1 hn).1 (hi.trans hj.symm)
def A02 (l:List Ab) (k:Int) (G:List Bn):Prop:=
 (G.length:Int)<=3-k/\(∀ g,g∈G->g.Name∈G7/\g.Parts≠[]/\Dr g.Parts/\(∀ p,p∈g.Parts->p∈l)/\g.Parts.length<=41)/\(G.Pairwise λ a b=>a.Name≠b.Name) /\
 ∀ g,g∈G->∃ j:Nat,k<j/\G7[j]? = some g.Name
theorem Lo {l m:List Ab} (hl:Dr l) (h:∀ p,p∈l->p∈m):l.length<=m.length:=
 List.Nodup.length_le_of_subset (hl.imp λ h=>Au3 h) λ p hp=>h p hp
theorem X_ {l:List Ab} (hl:Dr l) (hn:l.length<=30) {s:Af} (hs:A1 s):Ok (Aai s l) λ y=>Xj l y.1/\A1 y.2:=by
 unfold Aai
 refine (C4 hs 4 (by omega) (by omega)).bind λ y hy=>?_
 refine Ok.andThen (A:=λ z=>(∃ k,0<=k/\A02 l k z.2.2.2)/\A1 ⟨z.2.1,z.2.2.1⟩) (B:=λ (_:Unit)=>False) ?_ (λ z hz=>Ok.pure ⟨?_,hz.2⟩) (λ _ h=>h.elim)
 ·refine c9 (λ z=>(0<=z.1/\z.1<4)/\A02 l z.1 z.2.2.2/\A1 ⟨z.2.1,z.2.2.1⟩) (λ z=>z.1.toNat) _ _ ⟨hy.2,⟨by simp;omega,by simp,bQ,by simp⟩,hy.1⟩ (by dsimp only;omega) ?_
  rintro⟨k,L,a,G⟩ ⟨⟨h1,h2⟩,⟨h3,h4,h5,h6⟩,h7⟩
  dsimp only at h1 h2 h3 h4 h5 h6 h7
  unfold Adh
  refine c6 (λ hc=>?_) (λ hc=>cX ⟨⟨k,h1,h3,h4,h5,h6⟩,h7⟩)
  simp only [Agp,ab,dE] at hc
  refine (Are h1 h2).bind λ nm hnm=>(C4 h7 (l.length:Int) (by omega) (by omega)).bind λ u hu=>(cV hu.2.1 hu.2.2).bind λ p hp=>?_
  refine Ok.inner (A:=λ z=>A1 ⟨z.1,z.2.1⟩/\Dr z.2.2/\(∀ q,q∈z.2.2->q∈l)/\z.2.2≠[]) (B:=λ (_:Unit)=>False) ?_ (λ z hz=>?_) (λ _ h=>h.elim)
  ·refine c8 (I:=λ _ z=>A1 ⟨z.1,z.2.1⟩/\Dr z.2.2/\(∀ q,q∈z.2.2->q∈l)/\z.2.2≠[]) ⟨hu.1,show Dr [p] from List.pairwise_singleton _ _,λ q hq=>by rw [aC.1 hq];exact ae hp,by simp⟩ (λ j q z hq hz=>?_) λ z hz=>hz
   unfold Adg
   refine (C4 hz.1 4 (by omega) (by omega)).bind λ v hv=>c6 (λ _=>?_) (λ _=>c7 ⟨hv.1,hz.2⟩)
   have:=Lo hz.2.1 hz.2.2.1
   refine Ok.bind (P:=λ x=>x=_) (cU (Vh hz.2.1 (by omega) q) rfl) λ x hx=>c7 ?_
   subst hx
   refine⟨hv.1,Ig _ hz.2.1,λ x hx=>?_,Avk _ _⟩
   rcases (E8 _ _ _).1 hx with hx | hx
   ·rw [hx];exact ae hq
   ·exact hz.2.2.1 x hx
  ·refine (cW (by simp;omega)).bind λ m hm=>c7 ?_
   subst hm
   have e:w64 (k-1)=k-1:=A0 (by omega)
   dsimp only
   rw [e]
   have:=Lo hz.2.1 hz.2.2.1
   refine⟨⟨by omega,⟨by simp;omega,λ g hg=>?_,Vm h5 λ g hg=>?_,λ g hg=>?_⟩,hz.1⟩,by omega⟩
   ·rcases am.1 hg with hg | hg
    ·exact h4 g hg
    ·rw [aC.1 hg]
     exact⟨ae hnm,hz.2.2.2,hz.2.1,hz.2.2.1,by dsimp only;omega⟩
   ·obtain⟨j,hj,e⟩:=h6 g hg
    intro he
    rw [he] at e
    have:=Aiy e hnm
    omega
   ·rcases am.1 hg with hg | hg
    ·obtain⟨j,hj,e⟩:=h6 g hg
     exact⟨j,by omega,e⟩
    ·rw [aC.1 hg]
     exact⟨k.toNat,by omega,hnm⟩
 ·obtain⟨⟨k,h0,h3,h4,h5,_⟩,_⟩:=hz
  exact⟨by dsimp only;omega,λ g hg=>by
   obtain⟨g1,g2,g3,g4,g5⟩:=h4 g hg
   have:=Lo g3 g4
   exact⟨g1,g2,g3,g4,by omega⟩,h5⟩
def N7 (C:List Int) (k:Nat) (z:List Ab):Prop:=Dr z/\z.length<=3*k/\∀ p,p∈z->(1<=p.Kind/\p.Kind<k)/\(0<=p.Number/\p.Number<=2)/\∃ c,C[p.Kind.toNat]? = some c/\p.Number<c
theorem Ak5 {C:List Int} (hC:C.length<=10) (h0:C[0]? = some 0) {s:Af} (hs:A1 s) :
  Ok (foldI Adq C 0 (s.L,s.At,([]:List Ab))) (Eo (λ z=>N7 C 10 z.2.2/\A1 ⟨z.1,z.2.1⟩) λ (_:Unit)=>False):=by
 refine c8 (I:=λ j z=>N7 C j z.2.2/\A1 ⟨z.1,z.2.1⟩) ⟨⟨show Dr [] from bQ,by simp,by simp⟩,hs⟩ (λ j c z hc hz=>?_) λ z hz=>⟨⟨hz.1.1,by have:=hz.1.2.1;omega,λ p hp=>by have:=hz.1.2.2 p hp;exact⟨by omega,this.2⟩⟩,hz.2⟩
 obtain⟨⟨h1,h2,h3⟩,h4⟩:=hz
 have hj:j<C.length:=(aa.1 hc).1
 unfold Adq
 refine (Agy h4 (n:=min c 3) (by omega) (k:=2) (by omega)).bind λ y hy=>?_
 obtain⟨y1,y2,y3,y4⟩:=hy
 refine Ok.inner (A:=λ w=>N7 C (j+1) w) (B:=λ (_:Unit)=>False) ?_ (λ w hw=>c7 ⟨hw,y1⟩) (λ _ h=>h.elim)
 refine c8 (I:=λ i w=>Dr w/\w.length=z.2.2.length+i/\∀ p,p∈w->((1<=p.Kind/\p.Kind<j)/\(0<=p.Number/\p.Number<=2)/\∃ c,C[p.Kind.toNat]? = some c/\p.Number<c)\/(p.Kind=j/\∃ k,k<i/\y.1[k]? = some p.Number)) ⟨h1,by simp,λ p hp=>.inl (h3 p hp)⟩ (λ i x w hx hw=>?_) λ w hw=>?_
 ·obtain⟨w1,w2,w3⟩:=hw
  have hi:i<y.1.length:=(aa.1 hx).1
  unfold Aou
  rw [Cw (by omega)]
  refine (cW (by simp;omega)).bind λ m hm=>c7 ?_
  subst hm
  refine⟨Vm w1 λ p hp=>?_,by simp;omega,λ p hp=>?_⟩
  ·rw [Ga]
   rcases w3 p hp with⟨h,_⟩ | ⟨h,k,hk,e⟩
   ·exact .inl h.2
   ·refine .inr ⟨h,?_⟩
    obtain⟨q1,q2⟩:=aa.1 e
    obtain⟨q3,q4⟩:=aa.1 hx
    have:=bS.1 y2 k i q1 q3 hk
    rw [q2,q4] at this;exact this
  ·rcases am.1 hp with hp | hp
   ·exact (w3 p hp).imp id λ ⟨h,k,hk,e⟩=>⟨h,k,by omega,e⟩
   ·rw [aC.1 hp]
    exact .inr ⟨rfl,i,by omega,hx⟩
 ·obtain⟨w1,w2,w3⟩:=hw
  refine⟨w1,by omega,λ p hp=>?_⟩
  rcases w3 p hp with⟨h,h'⟩ | ⟨h,k,hk,e⟩
  ·exact⟨by omega,h'⟩
  ·have hm:=y3 p.Number (ae e)
   have hjp:j≠0:=λ e0=>by
    subst e0
    rw [h0] at hc
    cases hc
    omega
   exact⟨by omega,by omega,c,by rw [h,aE];exact hc,by omega⟩
theorem N7.ptOk {C:List Int} {z:List Ab} (h:N7 C 10 z):∀ p,p∈z->Fw p:=λ p hp=>by
 have:=h.2.2 p hp
 unfold Fw;omega
theorem Awe {s:Af} (hs:A1 s):Ok (F48 s) λ y=>Fw y.1/\y.1.Number<=3/\A1 y.2:=by
 unfold F48
 refine (Fu hs 1 9 (by omega) (by omega) (by omega)).bind λ y hy=>(C4 hy.1 4 (by omega) (by omega)).bind λ u hu=>Ok.pure ⟨?_,by have:=hu.2;dsimp only;omega,hu.1⟩
 have h1:=hy.2;have h2:=hu.2
 unfold Fw;dsimp only;omega
theorem Asx {s:Af} (hs:A1 s) {n:Int} (hn:0<=n/\n<=100):Ok (F13 s n) λ y=>(∀ p,p∈y.1->Fw p/\p.Number<=3)/\(y.1.length:Int)<=n/\A1 y.2:=by
 unfold F13
 rw [A0 (by omega)]
 refine (C4 hs (n+1) (by omega) (by omega)).bind λ y hy=>?_
 refine Ok.andThen (A:=λ z=>(∀ p,p∈z.2.2.2->Fw p/\p.Number<=3)/\(z.2.2.2.length:Int)<=n/\A1 ⟨z.2.1,z.2.2.1⟩) (B:=λ (_:Unit)=>False) ?_ (λ z hz=>Ok.pure hz) (λ _ h=>h.elim)
 have hy2:=hy.2
 refine c9 (λ z=>(0<=z.1/\z.1+(z.2.2.2.length:Int)<=n)/\(∀ p,p∈z.2.2.2->Fw p/\p.Number<=3)/\A1 ⟨z.2.1,z.2.2.1⟩) (λ z=>z.1.toNat) _ _ ⟨by simp;omega,by simp,hy.1⟩ (by dsimp only;omega) ?_
 rintro⟨k,L,a,l⟩ ⟨⟨h1,h2⟩,h3,h4⟩
 dsimp only at h1 h2 h3 h4
 unfold Ap2
 refine c6 (λ hc=>?_) (λ hc=>cX ⟨h3,by dsimp only;omega,h4⟩)
 simp only [dE] at hc
 refine (Awe h4).bind λ u hu=>(cW (by simp;omega)).bind λ m hm=>c7 ?_
 subst hm
 dsimp only
 rw [A0 (n:=k-1) (by omega)]
 refine⟨⟨by simp;omega,λ p hp=>?_,hu.2.2⟩,by omega⟩
 rcases am.1 hp with hp | hp
 ·exact h3 p hp
 ·rw [aC.1 hp];exact⟨hu.1,hu.2.1⟩
theorem Ih (x lo hi:Int):Bl x lo hi=true↔lo<=x/\x<=hi:=by
 simp [Bl]
theorem jQ {x lo hi:Int} (h:lo<=x/\x<=hi):Bl x lo hi=true:=(Ih x lo hi).2 h
theorem Ge (l:List Int) (x:Int) (h:l.length<=9223372036854775807):Ux l x=some (l.any (x == ·)):=by
 unfold Ux Atb
 rw [H6 (λ y=>x==y) (λ i y=>rfl) l h]
 simp only [ac,K9]
theorem Afn (l:List (List Int)) (h:l.length<=9223372036854775807):Zg l=some (l.any λ x=>(x.length:Int)==0):=by
 unfold Zg Ad0
 rw [H6 (λ y=>(y.length:Int)==0) (λ i y=>rfl) l h]
 simp only [ac,K9]
theorem Afp {b:Aa} (h:Ax b):Ok (Akd b) (· = true):=by
 unfold Akd
 have hs:=h.sol
 have hc:=h.col
 have hb:=h.buses
 refine (Ok.mkI (by omega) (by omega)).bind λ ys hys=>(Ok.mkI (by omega) (by omega)).bind λ zs hzs=>?_
 rw [aE] at hys hzs
 refine Ok.andThen (A:=λ s=>s.1=(List.range b.Ae.length).map (λ i=>((brs b.Ah 2 i).length:Int))/\s.2=(List.range b.Ag.length).map (λ i=>(brs b.Ah 3 i).map (·.A))) (B:=λ _=>False) ?_ ?_ (λ _ h=>h.elim)
 ·refine c8 (I:=λ j s=>s.1=(List.range b.Ae.length).map (λ i=>((brs (b.Ah.take j) 2 i).length:Int))/\s.2=(List.range b.Ag.length).map (λ i=>(brs (b.Ah.take j) 3 i).map (·.A))) ?_ ?_ ?_
  ·exact⟨by rw [hys,Og];rfl,by rw [hzs,Og];rfl⟩
  ·rintro j x ⟨us,vs⟩ hx ⟨hu,hv⟩
   dsimp only at hu hv
   subst hu;subst hv
   have hmem:=ae hx
   obtain⟨⟨a0,a1⟩,hk⟩:=h.br x hmem
   have htk:∀ k i,brs (b.Ah.take (j+1)) k i=brs (b.Ah.take j) k i++if x.Kind=k/\x.B=(i:Int) then [x] else []:=λ k i=>by rw [Bp hx,Hi,Agt]
   have hall:∀ k i,brs b.Ah k i=brs (b.Ah.take (j+1)) k i++brs (b.Ah.drop (j+1)) k i:=λ k i=>by rw [←Hi,bT]
   unfold Ag5
   have e1:w64 (b.Am-1)=b.Am-1:=A0 (by omega)
   have e2:w64 (x.A+1)=x.A+1:=A0 (by omega)
   refine c6 (λ hq=>?_) (λ _=>?_)
   ·rw [e1,jQ (by omega)] at hq;simp at hq
   refine c6 (λ hq=>?_) (λ hq=>?_)
   ·simp only [Acs,ab,dG,Ih] at hq
    refine c7 ⟨bg λ i _=>?_,bg λ i _=>?_⟩
    ·rw [htk,if_neg (by omega),aZ]
    ·rw [htk,if_neg (by omega),aZ]
   have hq:=ff hq
   simp only [Acs,ab,dG,Ih,e1,e2] at hq
   rcases hk with hk | hk | hk
   ·exact absurd ⟨hk.1,by omega⟩ hq
   ·have hBn:x.B=(x.B.toNat:Int):=by omega
    have hone:=h.one x.B.toNat (by omega)
    have hz:(brs (b.Ah.take j) 2 x.B.toNat).length=0:=by
     rw [hall,htk,if_pos ⟨hk.1,hBn⟩] at hone
     simp at hone;omega
    have hg:((x.Kind==2)&&(Bl x.B 0 (w64 ((((List.range b.Ae.length).map (λ i=>((brs (b.Ah.take j) 2 i).length:Int))).length:Int)-1))))=true:=by
     rw [ab,dG,Ih,au,List.length_range,A0 (by omega)]
     omega
    dsimp only
    refine Ok.bind (P:=λ y=>y=0) (cT (λ _=>(dj (by omega) (by omega)).mono λ y hy=>by rw [hy,hz];rfl) λ hn=>(Vp hg hn).elim) λ y hy=>?_
    refine c6 (λ hq2=>?_) (λ hq2=>?_)
    ·refine (dj (by omega) (by omega)).bind λ y2 hy2=>(dp (by omega) (by omega)).bind λ y3 hy3=>c7 ⟨?_,bg λ i _=>?_⟩
     ·rw [hy3]
      refine bg λ i hi=>?_
      by_cases e:i=x.B.toNat
      ·subst e
       rw [if_pos rfl,hy2,htk,if_pos ⟨hk.1,hBn⟩,hz,aF,hz]
       rfl
      ·rw [if_neg e,htk,if_neg (by omega),aZ]
     ·rw [htk,if_neg (by omega),aZ]
    ·have hq2:=ff hq2
     simp only [Acr,ab,hy] at hq2
     rw [ab] at hg
     exact absurd ⟨hg,by simp⟩ hq2
   ·have hBn:x.B=(x.B.toNat:Int):=by omega
    have hnod:=h.nodup x.B.toNat
    have hnot:x.A∉(brs (b.Ah.take j) 3 x.B.toNat).map (·.A):=by
     rw [hall,htk,if_pos ⟨hk.1,hBn⟩] at hnod
     simp only [bJ,bw,List.map_nil] at hnod
     rw [List.nodup_append] at hnod
     have:=hnod.1
     rw [List.nodup_append] at this
     intro hm
     exact this.2.2 _ hm _ (by simp) rfl
    have hg0:((x.Kind==2)&&(Bl x.B 0 (w64 ((((List.range b.Ae.length).map (λ i=>((brs (b.Ah.take j) 2 i).length:Int))).length:Int)-1))))=false:=by
     have:(x.Kind==2)=false:=by rw [dH];omega
     rw [this];rfl
    have hg:((x.Kind==3)&&(Bl x.B 0 (w64 ((((List.range b.Ag.length).map (λ i=>(brs (b.Ah.take j) 3 i).map (·.A))).length:Int)-1))))=true:=by
     rw [ab,dG,Ih,au,List.length_range,A0 (by omega)]
     omega
    dsimp only
    refine Ok.bind (P:=λ _=>True) (cT (λ hn=>absurd hn.1 (by rw [hg0];simp)) λ _=>trivial) λ y _=>?_
    refine c6 (λ hq2=>?_) (λ _=>?_)
    ·simp only [Acr,ab,dG] at hq2
     omega
    refine Ok.bind (P:=λ y=>y=(brs (b.Ah.take j) 3 x.B.toNat).map (·.A)) (cT (λ _=>dj (by omega) (by omega)) λ hn=>(Vp hg hn).elim) λ y14 hy14=>?_
    have hyl:y14.length<=24:=by
     rw [hy14,au]
     have:=aW (λ x=>x.Kind==3&&x.B==((x.B.toNat:Nat):Int)) (b.Ah.take j)
     have h1:(brs (b.Ah.take j) 3 x.B.toNat).length<=(b.Ah.take j).length:=aW _ _
     have h2:=h.brl
     rw [aS] at h1
     omega
    refine Ok.bind (P:=λ y=>y=false) (cT (λ _=>?_) λ hn=>(Vp hg hn).elim) λ y16 hy16=>?_
    ·rw [Ge _ _ (by omega)]
     refine Ok.pure ?_
     rw [ci]
     intro z hz
     rw [hy14] at hz
     simp only [dG]
     rintro rfl
     exact hnot hz
    refine c6 (λ hq2=>?_) (λ hq2=>?_)
    ·refine (dj (by omega) (by omega)).bind λ y19 hy19=>?_
     rw [hy19,←hy14]
     refine (cW (by simp;omega)).bind λ y21 hy21=>(dp (by omega) (by omega)).bind λ y23 hy23=>c7 ⟨bg λ i _=>?_,?_⟩
     ·rw [htk,if_neg (by omega),aZ]
     ·rw [hy23]
      refine bg λ i hi=>?_
      by_cases e:i=x.B.toNat
      ·subst e
       rw [if_pos rfl,hy21,hy14,htk,if_pos ⟨hk.1,hBn⟩,bJ]
       rfl
      ·rw [if_neg e,htk,if_neg (by omega),aZ]
    ·have hq2:=ff hq2
     simp only [And,ab,hy16] at hq2
     rw [ab] at hg
     exact absurd ⟨hg,by simp⟩ hq2
  ·rintro⟨us,vs⟩ ⟨hu,hv⟩
   rw [aB] at hu hv
   exact⟨hu,hv⟩
 ·rintro⟨us,vs⟩ ⟨hu,hv⟩
  dsimp only at hu hv ⊢
  rw [Ge _ _ (by rw [hu];simp;omega)]
  have h0:us.any (λ y=>0==y)=false:=by
   rw [ci,hu]
   intro z hz
   obtain⟨i,hi,rfl⟩:=ao.1 hz
   rw [h.one i (by simpa using hi)]
   simp
  have h1:vs.any (λ x=>(x.length:Int)==0)=false:=by
   rw [ci,hv]
   intro z hz
   obtain⟨i,hi,rfl⟩:=ao.1 hz
   have:=h.any i (by simpa using hi)
   simp only [au,dG]
   intro e
   exact this (bo (by omega))
  simp only [h0,ac]
  refine Ok.bind (P:=λ y=>y=false) (cT (λ _=>?_) λ hn=>(Vp rfl hn).elim) λ y hy=>Ok.pure (by rw [hy];rfl)
  rw [Afn _ (by rw [hv];simp;omega)]
  exact Ok.pure h1
theorem Alf {x:B1} (h:Ajr x):Aed x=true:=by
 obtain⟨h1,h2,h3⟩:=h
 simp only [Aed,ab,Ih]
 omega
theorem Afo {x:A7} {i:Nat} (h:Ak0 i x) (hi:i<=1000):Aec x (i:Int)=some true:=by
 obtain⟨h1,h2,h3,h4,h5,h6,h7⟩:=h
 unfold Aec
 have hf:foldI (qZ x (i:Int)) x.Needs 0 ()=some (.next ()):=by
  refine Dv _ _ λ j n hj=>?_
  rw [aI]
  have hn:=h6 n (ae hj)
  have hjl:=(aa.1 hj).1
  have hcnt:cnt 0 j=(j:Int):=Cw (by omega)
  have hin:Bl n 0 (w64 ((i:Int)-1))=true:=by rw [Ih,A0 (by omega)];omega
  unfold qZ Anc
  rw [hcnt,hin]
  cases j with
  | zero=>simp [Ar,Eh]
  | succ j=>
   obtain⟨p,hp⟩:∃ p,x.Needs[j]? = some p:=⟨_,ai (by omega)⟩
   have hlt:=h7 j p n hp hj
   have e:w64 ((((j+1:Nat):Int))-1)=(j:Int):=by rw [A0 (by omega)];omega
   have hg:getI x.Needs (j:Int)=some p:=by
    unfold getI
    simp [hp]
   have hd:decide (((j+1:Nat):Int)>0)=true:=dJ (by omega)
   have hd2:decide (p>=n)=false:=by simp;omega
   rw [e,hg,hd]
   simp [Ar,Eh,hd2]
 rw [hf]
 have:(((((Bl x.Load 0 50000)&&(Bl x.Least 0 x.Load))&&(Bl x.Bz 0 15))&&(Bl x.Thruster (-1) 7))&&(decide ((x.Needs.length:Int)<=4)))=true:=by
  simp only [ab,Ih,dE]
  omega
 simp [andThen,this]
theorem Ack {b:Aa} (h:Ax b):Aen b=some 0:=by
 refine d5 ?_
 unfold Aen
 have h1:=h.buses
 have h2:=h.brl
 have h3:=h.sol
 have h4:=h.col
 have h5:=h.phase
 have h6:=h.freq
 refine c6 (λ hc=>?_) (λ _=>?_)
 ·have:Bl b.Am 1 6=true:=jQ (by omega)
  simp only [Anq,this,aA,dE,aR,bm,false_or] at hc
  omega
 refine (Afp h).bind λ y hy=>?_
 subst hy
 rw [jQ (x:=b.Phase) (by omega),jQ (x:=b.Aq) (by omega)]
 refine Ok.andThen (A:=λ s=>s=true) (B:=λ (_:Unit)=>False) ?_ ?_ (λ _ h=>h.elim)
 ·refine c8 (I:=λ _ s=>s=true) rfl (λ j x s hx hs=>?_) λ _ h=>h
  subst hs
  refine c7 ?_
  rw [Alf (h.so x (ae hx))];rfl
 ·rintro s rfl
  refine Ok.andThen (A:=λ s=>s=true) (B:=λ (_:Unit)=>False) ?_ ?_ (λ _ h=>h.elim)
  ·refine c8 (I:=λ _ s=>s=true) rfl (λ j x s hx hs=>?_) λ _ h=>h
   subst hs
   have hj:=(aa.1 hx).1
   unfold Ahn
   have:Ar [(true,true)] (Aec x (cnt 0 j)) default=some true:=by
    rw [Cw (by omega),Afo (h.co j x hx) (by omega)];rfl
   rw [this]
   exact c7 rfl
  ·rintro s rfl
   exact Ok.pure rfl
def D9 (x:Aj):Prop:=(0<=x.State/\x.State<=3)/\(0<=x.Since/\x.Since<=2147483648)/\(0<=x.Aq/\x.Aq<=6000)/\0<=x.Phase/\x.Phase<=3599
def Ct (b:Aa) (x:Ab):Prop:=
 0<=x.Number/\((x.Kind=1/\x.Number<b.Ae.length)\/(x.Kind=2/\x.Number<b.Ah.length)\/(x.Kind=3/\x.Number<b.Am)\/(x.Kind=4/\x.Number<b.Ag.length))
def Qa (x y:Ab):Prop:=x.Kind<y.Kind\/x.Kind=y.Kind/\x.Number<y.Number
structure Fa (b:Aa) (l:List Ab):Prop where
 len:l.length<=32
 mem:∀ x,x∈l->Ct b x
 asc:∀ (j:Nat) x y,l[j]? = some x->l[j+1]? = some y->Qa x y
def C7 (l:List Ak) (c:List Bool) (i:Nat):List (Ak×Bool):=(l.zip c).filter λ z=>(z.1.Kind==3&&z.1.B==(i:Int))&&z.2
structure Av (b:Aa) (p:Ad):Prop where
 ncl:p.Ai.length=b.Ah.length
 nso:p.Ae.length=b.Ae.length
 nli:p.An.length=b.Ag.length
 run:∀ x,x∈p.Ae->D9 x
 lim:∀ (i:Nat) n c,p.An[i]? = some n->b.Ag[i]? = some c->0<=n/\n<=c.Load
 one:∀ i,i<b.Ag.length->(C7 b.Ah p.Ai i).length<=1
 brk:Fa b p.Al
theorem Ah7 {x:Aj} (h:D9 x):U3 x=true:=by
 obtain⟨h1,h2,h3,h4⟩:=h
 simp only [U3,ab,Ih]
 omega
theorem Aik (l:List Aj) (h:l.length<=9223372036854775807):U4 l=some (l.any λ x=>!U3 x):=by
 unfold U4 Aeb
 rw [H6 (λ y=>!U3 y) (λ i y=>rfl) l h]
 simp only [ac,K9]
theorem N2 (x y:Int):Io x y=if x<y then -1 else if x>y then 1 else 0:=by
 have h:∀ z:Int,Pg z=false:=λ z=>by simp [Pg]
 unfold Io
 rw [h x,h y]
 by_cases h1:x<y
 ·simp [h1]
 ·by_cases h2:y<x <;> simp [h1,h2]
theorem Vn (x y:Int):U5 [x,y]=some (if x=0 then y else x):=by
 unfold U5
 by_cases h:x=0
 ·subst h
  by_cases h2:y=0
  ·subst h2;rfl
  ·have:(y != 0)=true:=by simpa using h2
   simp [foldI,Qj,andThen,this]
 ·have:(x != 0)=true:=by simpa using h
  simp [foldI,Qj,andThen,this,h]
theorem Auv {b:Aa} (h:Ax b) {x:Ab} (hx:Ct b x):Bl x.Number 0 (w64 ((Mj b x.Kind)-1))=true:=by
 have h1:=h.buses
 have h2:=h.brl
 have h3:=h.sol
 have h4:=h.col
 obtain⟨hn,hk⟩:=hx
 have hsz:∃ n,Mj b x.Kind=n/\x.Number<n/\n<=100:=by
  unfold Mj
  rcases hk with⟨k,hk⟩ | ⟨k,hk⟩ | ⟨k,hk⟩ | ⟨k,hk⟩ <;> rw [k] <;> exact⟨_,rfl,by simpa using hk,by simp;omega⟩
 obtain⟨n,e,g1,g2⟩:=hsz
 rw [e,Ih,A0 (by omega)]
 omega
theorem An4 {b:Aa} (h:Ax b) {l:List Ab} (hl:Fa b l):Akp b l=some true:=by
 have hlen:=hl.len
 unfold Akp
 have hf:foldI (uL b l) l 0 ()=some (.next ()):=by
  refine Dv _ _ λ j x hj=>?_
  rw [aI]
  have hjl:=(aa.1 hj).1
  have hcnt:cnt 0 j=(j:Int):=Cw (by omega)
  have hin:=Auv h (hl.mem x (ae hj))
  unfold uL Anp
  rw [hcnt,hin]
  cases j with
  | zero=>simp [Ar,Eh]
  | succ j=>
   obtain⟨p,hp⟩:∃ p,l[j]? = some p:=⟨_,ai (by omega)⟩
   have hlt:=hl.asc j p x hp hj
   have e:w64 ((((j+1:Nat):Int))-1)=(j:Int):=by rw [A0 (by omega)];omega
   have hg:getI l (j:Int)=some p:=by unfold getI;simp [hp]
   have hd:decide (((j+1:Nat):Int)>0)=true:=dJ (by omega)
   have ho:U5 [Io p.Kind x.Kind,Io p.Number x.Number]=some (-1):=by
    rw [Vn,N2,N2]
    rcases hlt with h1 | ⟨h1,h2⟩
    ·simp [h1]
    ·simp [h1,h2]
   rw [e,hg,hd]
   simp [Ar,Eh,ho]
 rw [hf]
 have:decide ((l.length:Int)<=32)=true:=by simp;omega
 simp [andThen,this]
theorem Mv {l:List Ak} {c:List Bool} {j:Nat} {x:Ak} {v:Bool} (hx:l[j]? = some x) (hv:c[j]? = some v) (i:Nat) :
  C7 (l.take (j+1)) (c.take (j+1)) i=C7 (l.take j) (c.take j) i++if ((x.Kind==3&&x.B==(i:Int))&&v)=true then [(x,v)] else []:=by
 unfold C7
 rw [Bp hx,Bp hv,List.zip_append (by
  have h1:=(aa.1 hx).1
  have h2:=(aa.1 hv).1
  simp;omega),bu]
 congr 1
 simp only [cj,List.zip_nil_right,aT,List.filter_nil]
theorem Am5 {b:Aa} (h:Ax b) {p:Ad} (hc:p.Ai.length=b.Ah.length) (i:Nat):Ako b p (i:Int)=some (((C7 b.Ah p.Ai i).length:Nat):Int):=by
 refine d5 ?_
 unfold Ako
 have hb:=h.brl
 refine Ok.andThen (A:=λ s=>s=(((C7 b.Ah p.Ai i).length:Nat):Int)) (B:=λ (_:Unit)=>False) ?_ (λ s hs=>Ok.pure hs) (λ _ h=>h.elim)
 refine c8 (I:=λ j s=>s=(((C7 (b.Ah.take j) (p.Ai.take j) i).length:Nat):Int)) ?_ (λ j x s hx hs=>?_) λ s hs=>?_
 ·simp [C7]
 ·have hj:=(aa.1 hx).1
  obtain⟨v,hv⟩:∃ v,p.Ai[j]? = some v:=⟨_,ai (by omega)⟩
  have hcnt:cnt 0 j=(j:Int):=Cw (by omega)
  have hg:getI p.Ai (j:Int)=some v:=by unfold getI;simp [hv]
  have hle:(C7 (b.Ah.take j) (p.Ai.take j) i).length<=24:=by
   have h1:(C7 (b.Ah.take j) (p.Ai.take j) i).length<=((b.Ah.take j).zip (p.Ai.take j)).length:=aW _ _
   simp at h1;omega
  subst hs
  unfold Ahm Ano
  rw [hcnt,hg,Mv hx hv]
  cases hk:(x.Kind==3&&x.B==(i:Int)) with
  | false=>
   simp only [Ar,Eh,Bool.false_and]
   exact c7 (by simp)
  | true=>
   simp only [Ar,Eh,bv]
   cases v with
   | false=>exact c7 (by simp)
   | true=>
    refine c7 ?_
    show w64 _=_
    rw [A0 (by omega)]
    simp
 ·rw [aB,←hc,aB] at hs
  exact hs
theorem E2 {b:Aa} (h:Ax b) {p:Ad} (hp:Av b p):Ja b p=some 0:=by
 refine d5 ?_
 unfold Ja
 have h1:=hp.ncl
 have h2:=hp.nso
 have h3:=hp.nli
 have h4:=h.col
 have h5:=h.sol
 rw [Ack h]
 simp only [ac]
 have c0:Ac2 b p=false:=by
  simp [Ac2,h1,h2,h3]
 have c1:((0:Int) != 0)=false:=rfl
 rw [c1,c0,An4 h hp.brk]
 simp only [cond_false,ac]
 have hr:(p.Ae.any λ x=>!U3 x)=false:=by
  rw [ci]
  intro x hx
  rw [Ah7 (hp.run x hx)];simp
 have:Ar [(true,true)] (U4 p.Ae) default=some false:=by
  rw [Aik _ (by omega),hr];rfl
 rw [this]
 simp only [ac]
 refine Ok.andThen (A:=λ s=>s=true) (B:=λ (_:Unit)=>False) ?_ ?_ (λ _ h=>h.elim)
 ·refine c8 (I:=λ _ s=>s=true) rfl (λ j x s hx hs=>?_) λ _ h=>h
  subst hs
  have hj:=(aa.1 hx).1
  obtain⟨c,hc⟩:∃ c,b.Ag[j]? = some c:=⟨_,ai (by omega)⟩
  have hcnt:cnt 0 j=(j:Int):=Cw (by omega)
  have hg:getI b.Ag (j:Int)=some c:=by unfold getI;simp [hc]
  have hl:=hp.lim j x c hx hc
  have hone:=hp.one j (by omega)
  unfold Ahw
  rw [hcnt,hg]
  have e1:Ar [(true,true)] (some c) default=some c:=rfl
  rw [e1]
  simp only [ac]
  have e2:(true&&Bl x 0 c.Load)=true:=by rw [jQ hl];rfl
  rw [e2,Am5 h h1]
  have e3:Ar [(true,true)] (some (((C7 b.Ah p.Ai j).length:Nat):Int)) default=some (((C7 b.Ah p.Ai j).length:Nat):Int):=rfl
  rw [e3]
  simp only [ac]
  refine c7 ?_
  simp;omega
 ·rintro s rfl
  exact Ok.pure rfl
set_option linter.unusedVariables false
theorem Asp (l:List Ab) (p:Ab):l.any (λ x=>Ek p x)=Df l p:=by
 unfold Df
 congr 1
 funext x
 unfold Ek
 rw [Bool.beq_comm (a:=p.Kind),Bool.beq_comm (a:=p.Number)]
theorem Vr (l:List Ab) (p:Ab) (h:l.length<=9223372036854775807):F53 l p=some (Df l p):=by
 unfold F53 Aew Akq
 rw [H6 (λ y=>Ek p y) (λ i y=>by rw [←Ir];rfl) l h]
 simp only [ac,K9,Asp]
theorem K_ (l:List Ab) (p:Ab):F23 l p=some (Df l p):=by
 unfold F23
 have:∀ (l:List Ab) (k:Nat),foldI (Aee p) l k ()=bif Df l p then some (.ret true) else some (.next ()):=by
  intro l
  induction l with
  | nil=>intro k;rfl
  | cons x l ih=>
   intro k
   unfold foldI Aee Auh
   rw [Ir]
   have e:Df (x::l) p=(Ek x p || Df l p):=rfl
   rw [e]
   cases Ek x p with
   | true=>rfl
   | false=>exact ih (k+1)
 rw [this]
 cases Df l p <;> rfl
theorem Gb {l:List Ab} {p:Ab} (h:p∈l):Df l p=true:=Gc.2 h
theorem Tf {l:List Ab} {p:Ab} (h:¬p∈l):Df l p=false:=by
 cases e:Df l p with
 | true=>exact absurd (Gc.1 e) h
 | false=>rfl
theorem qN {x y:Ab} (h:Dh x y=true):Mm x y=some (-1):=by
 unfold Mm
 rw [Vn,N2,N2]
 rw [Ga] at h
 rcases h with h | ⟨h1,h2⟩
 ·simp [h]
 ·have e1:¬x.Kind<y.Kind:=by omega
  have e2:¬y.Kind<x.Kind:=by omega
  simp [e1,e2,h2]
theorem Am2 (x:Ab):Mm x x=some 0:=by
 unfold Mm
 rw [Vn,N2,N2]
 simp
theorem Am1 {x y:A6} (h:Aiq x y):Ok (Akr x y) (· = -1):=by
 unfold Akr
 have hc:∀ a b:Ab,Ok (Mm a b) λ _=>True:=λ a b=>by
  unfold Mm
  rw [Vn];exact⟨_,rfl,trivial⟩
 rcases h with h | ⟨h1,h2⟩
 ·refine Ok.bind (P:=λ v=>v = -1) (cU (qN h) rfl) λ v hv=>(hc _ _).bind λ u _=>?_
  subst hv
  rw [Vn];exact Ok.pure rfl
 ·rw [h1]
  refine Ok.bind (P:=λ v=>v=0) (cU (Am2 _) rfl) λ v hv=>Ok.bind (P:=λ v=>v = -1) (cU (qN h2) rfl) λ u hu=>?_
  subst hv;subst hu
  rw [Vn];exact Ok.pure rfl
theorem Agu {l:List Ab} (hl:Dr l) (hn:l.length<=1000):U6 l=some true:=by
 refine d5 ?_
 unfold U6
 refine Ok.andThen (A:=λ _=>True) (B:=λ _=>False) ?_ (λ _ _=>Ok.pure rfl) (λ _ h=>h.elim)
 refine c9 (λ z=>1<=z/\z<=1001) (λ z=>((l.length:Int)-z).toNat) _ _ ⟨by omega,by omega⟩ (by omega) λ z hz=>?_
 unfold zI
 refine c6 (λ hc=>?_) (λ _=>cX trivial)
 simp only [dE] at hc
 rw [A0 (n:=z-1) (by omega),A0 (n:=z+1) (by omega)]
 refine (cV (by omega) (by omega)).bind λ a ha=>(cV (by omega) hc).bind λ b hb=>?_
 refine Ok.bind (P:=λ v=>v = -1) (cU (qN (Ud hl ha hb (by omega))) rfl) λ v hv=>?_
 subst hv
 exact c7 ⟨by omega,by omega⟩
theorem Av5 {l:List A6} (hl:l.Pairwise Aiq) (hn:l.length<=1000):Zo l=some true:=by
 refine d5 ?_
 unfold Zo
 refine Ok.andThen (A:=λ _=>True) (B:=λ _=>False) ?_ (λ _ _=>Ok.pure rfl) (λ _ h=>h.elim)
 refine c9 (λ z=>1<=z/\z<=1001) (λ z=>((l.length:Int)-z).toNat) _ _ ⟨by omega,by omega⟩ (by omega) λ z hz=>?_
 unfold zH
 refine c6 (λ hc=>?_) (λ _=>cX trivial)
 simp only [dE] at hc
 rw [A0 (n:=z-1) (by omega),A0 (n:=z+1) (by omega)]
 refine (cV (by omega) (by omega)).bind λ a ha=>(cV (by omega) hc).bind λ b hb=>?_
 obtain⟨h1,e1⟩:=aa.1 ha
 obtain⟨h2,e2⟩:=aa.1 hb
 have:=bS.1 hl _ _ h1 h2 (by omega)
 rw [e1,e2] at this
 refine (Am1 this).bind λ v hv=>?_
 subst hv
 exact c7 ⟨by omega,by omega⟩
theorem Axk {p:Ab} (h:Fw p):Aeq p=true:=by
 unfold Fw at h
 simp only [Aeq,ab,dE]
 omega
theorem Aqs {l:List Ab} (h:∀ p,p∈l->Fw p) (hn:l.length<=1000):Zq l=some false:=by
 unfold Zq Aeh
 rw [H6 (λ y=>uM y) (λ i y=>rfl) l (by omega)]
 simp only [ac,K9]
 have:l.any (λ y=>uM y)=false:=by
  rw [ci]
  intro x hx
  simp [uM,Axk (h x hx)]
 rw [this]
theorem Ah3 {l:List Ab} (hl:Dr l) (h:∀ p,p∈l->Fw p) (hn:l.length<=1000):Aky l=some true:=by
 unfold Aky
 rw [Aqs h hn,Agu hl hn];rfl
theorem Alx {d:A4} (h:Ox d):Akx d=some true:=by
 have hl:=h.len;have hk:=h.links.len
 refine d5 ?_
 unfold Akx
 refine Ok.andThen (A:=λ _=>True) (B:=λ _=>False) ?_ (λ _ _=>?_) (λ _ h=>h.elim)
 ·refine c8 (I:=λ _ _=>True) trivial (λ j x _ hx _=>?_) λ _ _=>trivial
  obtain⟨h1,h2,h3⟩:=h.links.mem x (ae hx)
  unfold Ahy
  refine Ok.bind (P:=λ v=>v=true) (cU (Vr _ _ (by omega)) (Gb h1)) λ v hv=>?_
  subst hv
  refine Ok.bind (P:=λ v=>v=true) (cT (λ _=>cU (Vr _ _ (by omega)) (Gb h2)) (λ hn=>absurd ⟨rfl,trivial⟩ hn)) λ v hv=>?_
  subst hv
  refine c6 (λ hc=>?_) (λ _=>c7 trivial)
  simp only [An1,aR,Bool.or_self,aV,Ir] at hc
  exact absurd (De.1 hc) h3
 ·rw [Av5 h.links.asc (by omega)];exact Ok.pure rfl
theorem Auo {s:ByteArray} (h:s∈G7):Atk s=some true:=by
 simp only [G7,ag,List.not_mem_nil,or_false] at h
 rcases h with rfl | rfl | rfl | rfl <;> kernel_rfl
theorem Als {d:A4} (h:Ox d) {l:List Ab} (hl:∀ p,p∈l->p∈d.Parts):Zp l d=some (false,d):=by
 have hn:=h.len
 refine d5 ?_
 unfold Zp Aeg
 refine Ok.bind (P:=λ y=>y=(-1,d)) ?_ (λ y hy=>Ok.pure (by rw [hy];rfl))
 refine Ok.andThen (A:=λ _=>True) (B:=λ _=>False) ?_ (λ _ _=>Ok.pure rfl) (λ _ h=>h.elim)
 refine c8 (I:=λ _ _=>True) trivial (λ j x _ hx _=>?_) λ _ _=>trivial
 unfold zG Aeo
 rw [Vr _ _ (by omega),Gb (hl x (ae hx))]
 exact c7 trivial
theorem An6 {a b:ByteArray} (h:a.toList=b.toList):a=b:=by
 rw [ByteArray.toList_eq,ByteArray.toList_eq] at h
 exact ByteArray.ext (Array.toList_inj.1 h)
theorem Axs {l:List Bn} {g:Bn} (h:∀ x,x∈l->x.Name≠g.Name):Zn l g=some (false,g):=by
 refine d5 ?_
 unfold Zn Aef
 refine Ok.bind (P:=λ y=>y=(-1,g)) ?_ (λ y hy=>Ok.pure (by rw [hy];rfl))
 refine Ok.andThen (A:=λ _=>True) (B:=λ _=>False) ?_ (λ _ _=>Ok.pure rfl) (λ _ h=>h.elim)
 refine c8 (I:=λ _ _=>True) trivial (λ j x _ hx _=>?_) λ _ _=>trivial
 unfold zF
 refine c6 (λ hc=>?_) (λ _=>c7 trivial)
 simp only [Aep,dG] at hc
 exact absurd (An6 hc) (h x (ae hx))
theorem Aix {d:A4} (h:Ox d):Akw d=some true:=by
 have hl:=h.len;have hk:=h.groups.len
 refine d5 ?_
 unfold Akw
 refine Ok.andThen (A:=λ _=>True) (B:=λ _=>False) ?_ (λ _ _=>Ok.pure rfl) (λ _ h=>h.elim)
 refine c8 (I:=λ _ z=>z=(d.Parts,d.Links,d.Groups)) rfl (λ j g z hg hz=>?_) λ _ _=>trivial
 subst hz
 obtain⟨h1,h2,h3,h4,h5⟩:=h.groups.mem g (ae hg)
 have hj:=(aa.1 hg).1
 unfold Ahx
 refine Ok.bind (P:=λ v=>v=true) (cU (Auo h1) rfl) λ v hv=>?_
 subst hv
 refine Ok.bind (P:=λ v=>v=d.Groups.take j) (cT (λ _=>(Ok.cutI (by omega) (by rw [Cw (by omega)];omega) (by rw [Cw (by omega)];dsimp only;omega)).mono λ y hy=>?_) (λ hn=>absurd ⟨rfl,trivial⟩ hn)) λ v hv=>?_
 ·rw [hy,Cw (by omega)];simp
 subst hv
 refine Ok.bind (P:=λ v=>v=(false,g)) (cT (λ _=>cU (Axs λ x hx=>?_) rfl) (λ hn=>absurd ⟨rfl,trivial⟩ hn)) λ v hv=>?_
 ·obtain⟨i,hi⟩:=bI hx
  rw [an] at hi
  split at hi
  ·obtain⟨q1,q2⟩:=aa.1 hi
   obtain⟨q3,q4⟩:=aa.1 hg
   have:=bS.1 h.groups.dist i j q1 q3 (by assumption)
   rw [q2,q4] at this;exact this
  ·cases hi
 subst hv
 have hne:((g.Parts.length:Int)==0)=false:=by
  cases e:g.Parts with
  | nil=>exact absurd e h2
  | cons a b=>rw [aL,dH];omega
 refine Ok.bind (P:=λ v=>v=(false,d)) (cT (λ _=>cU (Als h h4) rfl) (λ hn=>absurd ⟨by simp [hne],trivial⟩ hn)) λ v hv=>?_
 subst hv
 refine Ok.bind (P:=λ v=>v=true) (cT (λ _=>cU (Agu (l:=g.Parts) h3 (by omega)) rfl) (λ hn=>absurd ⟨by simp [hne],trivial⟩ hn)) λ v hv=>?_
 subst hv
 refine c6 (λ hc=>?_) (λ _=>c7 rfl)
 simp [An0,hne] at hc
theorem Wg {d:A4} (h:Ox d):F50 d=some 0:=by
 have h1:=h.len;have h2:=h.links.len;have h3:=h.groups.len
 unfold F50
 have e:Ajl d=false:=by
  simp only [Ajl,bz,dF];omega
 rw [e,Ah3 h.asc h.ok (by omega),Alx h,Aix h];rfl
theorem Al0 (x y:Ab):F29 x y=Dh x y:=rfl
theorem Afv {p:Ab} (h:Fw p):Xp p=true:=by
 unfold Fw at h
 simp only [Xp,ab,dE]
 omega
theorem V9 {l:List Ab} (hl:Dr l) (h:∀ p,p∈l->Fw p) (hn:l.length<=1000):Aeu l=some true:=by
 refine d5 ?_
 unfold Aeu
 refine Ok.andThen (A:=λ _=>True) (B:=λ _=>False) ?_ (λ _ _=>Ok.pure rfl) (λ _ h=>h.elim)
 refine c8 (I:=λ _ _=>True) trivial (λ j x _ hx _=>?_) λ _ _=>trivial
 have hj:=(aa.1 hx).1
 unfold Ahv
 rw [Cw (by omega),Afv (h x (ae hx))]
 refine Ok.bind (P:=λ v=>0<j->l[j-1]? = some v) (cT (λ ha=>?_) (λ hn hp=>absurd ⟨rfl,by simpa using hp,trivial⟩ hn)) λ v hv=>c6 (λ hc=>?_) (λ _=>c7 trivial)
 ·have hp:0<j:=by simpa using ha.2.1
  rw [A0 (by omega)]
  refine (cV (by omega) (by omega)).mono λ y hy _=>?_
  rw [←hy];congr 1;omega
 ·simp only [Anz,Afv (h x (ae hx)),aR,aV,ab,aX,Al0] at hc
  rw [Cw (by omega)] at hc
  simp only [dE] at hc
  have:=Ud hl (hv (by omega)) hx (by omega)
  rw [hc.2] at this;cases this
theorem Ak4 {s:ByteArray} (h:s∈G7):Atn s=some true:=by
 simp only [G7,ag,List.not_mem_nil,or_false] at h
 rcases h with rfl | rfl | rfl | rfl <;> kernel_rfl
theorem zV {d:A4} (h:Ox d):F59 d=some 0:=by
 have h1:=h.len;have h2:=h.links.len;have h3:=h.groups.len
 refine d5 ?_
 unfold F59
 have e:Ajj d=false:=by
  simp only [Ajj,bz,dF];omega
 rw [e,V9 h.asc h.ok (by omega)]
 simp only [cond_false,ac,aR]
 refine Ok.andThen (A:=λ _=>True) (B:=λ _=>False) ?_ (λ _ _=>Ok.andThen (A:=λ _=>True) (B:=λ _=>False) ?_ (λ _ _=>Ok.pure rfl) (λ _ h=>h.elim)) (λ _ h=>h.elim)
 ·refine c8 (I:=λ _ _=>True) trivial (λ j x _ hx _=>?_) λ _ _=>trivial
  obtain⟨q1,q2,q3⟩:=h.links.mem x (ae hx)
  have hj:=(aa.1 hx).1
  unfold Aoq
  refine Ok.bind (P:=λ v=>v=true) (cU (K_ _ _) (Gb q1)) λ v hv=>?_
  subst hv
  refine Ok.bind (P:=λ v=>v=true) (cT (λ _=>cU (K_ _ _) (Gb q2)) (λ hn=>absurd ⟨rfl,trivial⟩ hn)) λ v hv=>?_
  subst hv
  refine c6 (λ hc=>?_) (λ _=>?_)
  ·simp only [Aue,aR,Bool.or_self,aV,Ir] at hc
   exact absurd (De.1 hc) q3
  rw [Cw (by omega)]
  have hg:∀ m:List (Bool×Bool),Ok (Ar ((decide ((j:Int)>0),true)::m) (getI d.Links (w64 ((j:Int)-1))) default) λ v=>0<j->Dc m->d.Links[j-1]? = some v:=λ m=>by
   refine cT (λ ha=>?_) (λ hn hp hm=>absurd ⟨by simpa using hp,hm⟩ hn)
   have hp:0<j:=by simpa using ha.1
   rw [A0 (by omega)]
   refine (cV (by omega) (by omega)).mono λ y hy _ _=>?_
   rw [←hy];congr 1;omega
  refine (hg _).bind λ a ha=>(hg _).bind λ b hb=>(hg _).bind λ c hc=>c6 (λ hcc=>?_) (λ _=>c7 trivial)
  simp only [Aud,ab,aX,bz,Al0] at hcc
  rw [Cw (by omega)] at hcc
  simp only [dE,Ir] at hcc
  obtain⟨g1,g2,g3⟩:=hcc
  have hj0:0<j:=by omega
  have ea:=ha hj0 trivial
  have eb:=hb hj0 ⟨g2,trivial⟩
  rw [ea] at eb
  cases eb
  obtain⟨r1,r2⟩:=aa.1 ea
  obtain⟨r3,r4⟩:=aa.1 hx
  have hlt:=bS.1 h.links.asc (j-1) j r1 r3 (by omega)
  rw [r2,r4] at hlt
  rcases hlt with hlt | ⟨hlt,hlt2⟩
  ·rw [g2] at hlt;cases hlt
  ·have et:Ek a.From x.From=true:=De.2 hlt
   have ec:=hc hj0 ⟨g2,by rw [Ir];exact et,trivial⟩
   rw [ea] at ec
   cases ec
   rw [et,hlt2] at g3
   cases g3
 ·refine c8 (I:=λ _ _=>True) trivial (λ j g _ hg _=>?_) λ _ _=>trivial
  obtain⟨q1,q2,q3,q4,q5⟩:=h.groups.mem g (ae hg)
  have hj:=(aa.1 hg).1
  have hne:((g.Parts.length:Int)==0)=false:=by
   cases e:g.Parts with
   | nil=>exact absurd e q2
   | cons a b=>rw [aL,dH];omega
  unfold Aop
  refine Ok.bind (P:=λ v=>v=true) (cU (Ak4 q1) rfl) λ v hv=>?_
  subst hv
  refine Ok.bind (P:=λ v=>v=true) (cT (λ _=>cU (V9 q3 (λ p hp=>h.ok p (q4 p hp)) (by omega)) rfl) (λ hn=>absurd ⟨by simp [hne],trivial⟩ hn)) λ v hv=>?_
  subst hv
  refine c6 (λ hc=>by simp [Auc,hne] at hc) (λ _=>?_)
  refine Ok.inner (A:=λ _=>True) (B:=λ _=>False) ?_ (λ _ _=>Ok.inner (A:=λ _=>True) (B:=λ _=>False) ?_ (λ _ _=>c7 trivial) (λ _ h=>h.elim)) (λ _ h=>h.elim)
  ·refine c8 (I:=λ _ _=>True) trivial (λ i x _ hx _=>?_) λ _ _=>trivial
   unfold Aoo
   refine Ok.bind (P:=λ v=>v=true) (cU (K_ _ _) (Gb (q4 x (ae hx)))) λ v hv=>?_
   subst hv
   exact c7 trivial
  ·refine c9 (λ z=>0<=z/\z<=1000) (λ z=>((j:Int)-z).toNat) _ _ ⟨by omega,by omega⟩ (by omega) λ z hz=>?_
   unfold Aon
   rw [Cw (by omega)]
   refine c6 (λ hc=>?_) (λ _=>cX trivial)
   simp only [dE] at hc
   rw [A0 (n:=z+1) (by omega)]
   refine (cV hz.1 (by omega)).bind λ y hy=>c6 (λ hc2=>?_) (λ _=>c7 ⟨by omega,by omega⟩)
   obtain⟨r1,r2⟩:=aa.1 hy
   obtain⟨r3,r4⟩:=aa.1 hg
   have hd:=bS.1 h.groups.dist z.toNat j r1 r3 (by omega)
   rw [r2,r4] at hd
   exact absurd (An6 (by simpa using hc2)) hd
theorem Xw {a b:List Ab} (h:a.length+b.length<=900):F31 a b=some (Kc a b):=by
 refine d5 ?_
 unfold F31
 refine Ok.andThen (A:=λ z=>Dr z.2/\z.2.length<=a.length/\∀ x,x∈z.2↔x∈a) (B:=λ (_:Unit)=>False) ?_ (λ y hy=>Ok.andThen (A:=λ z=>Dr z.2/\∀ x,x∈z.2↔x∈a\/x∈b) (B:=λ (_:Unit)=>False) ?_ (λ z hz=>Ok.pure ?_) (λ _ h=>h.elim)) (λ _ h=>h.elim)
 ·refine c9 (λ z=>∃ k:Nat,z.1=(k:Int)/\k<=a.length/\Dr z.2/\z.2.length<=k/\∀ x,x∈z.2↔x∈a.take k) (λ z=>((a.length:Int)-z.1).toNat) _ _ ⟨0,rfl,by omega,show Dr [] from bQ,by simp,by simp⟩ (by dsimp only;omega) ?_
  rintro⟨_,l⟩ ⟨k,rfl,h1,h2,h3,h4⟩
  dsimp only at h2 h3 h4
  unfold Apc
  refine c6 (λ hc=>?_) (λ hc=>cX ⟨h2,by dsimp only;omega,?_⟩)
  ·simp only [dE] at hc
   refine (cV (by omega) hc).bind λ x hx=>Ok.bind (P:=λ v=>v=Gl x l) (cU (Vh h2 (by omega) x) rfl) λ v hv=>c7 ?_
   subst hv
   rw [A0 (by omega)]
   rw [aE] at hx
   refine⟨⟨k+1,by omega,by omega,Ig _ h2,by have:=Nu x l;dsimp only;omega,λ y=>?_⟩,by omega⟩
   rw [E8,h4,Bp hx]
   simp only [am,aC]
   exact or_comm
  ·simp only [dF] at hc
   have e:k=a.length:=by omega
   subst e
   rw [aB] at h4;exact h4
 ·obtain⟨y1,y2,y3⟩:=hy
  refine c9 (λ z=>∃ k:Nat,z.1=(k:Int)/\k<=b.length/\Dr z.2/\z.2.length<=a.length+k/\∀ x,x∈z.2↔x∈a\/x∈b.take k) (λ z=>((b.length:Int)-z.1).toNat) _ _ ⟨0,rfl,by omega,y1,by simpa using y2,by simpa using y3⟩ (by dsimp only;omega) ?_
  rintro⟨_,l⟩ ⟨k,rfl,h1,h2,h3,h4⟩
  dsimp only at h2 h3 h4
  unfold Apb
  refine c6 (λ hc=>?_) (λ hc=>cX ⟨h2,?_⟩)
  ·simp only [dE] at hc
   refine (cV (by omega) hc).bind λ x hx=>Ok.bind (P:=λ v=>v=Gl x l) (cU (Vh h2 (by omega) x) rfl) λ v hv=>c7 ?_
   subst hv
   rw [A0 (by omega)]
   rw [aE] at hx
   refine⟨⟨k+1,by omega,by omega,Ig _ h2,by have:=Nu x l;dsimp only;omega,λ y=>?_⟩,by omega⟩
   rw [E8,h4,Bp hx]
   simp only [am,aC]
   constructor
   ·rintro (h | h | h)
    ·exact .inr (.inr h)
    ·exact .inl h
    ·exact .inr (.inl h)
   ·rintro (h | h | h)
    ·exact .inr (.inl h)
    ·exact .inr (.inr h)
    ·exact .inl h
  ·simp only [dF] at hc
   have e:k=b.length:=by omega
   subst e
   rw [aB] at h4;exact h4
 ·refine Iz hz.1 (Hc _) λ x=>?_
  unfold Kc
  rw [hz.2,H5,am]
theorem Qo {a b:List Ab} {x:Ab}:x∈Kc a b↔x∈a\/x∈b:=by
 unfold Kc
 rw [H5,am]
theorem Ah1 (a b:List Ab):Dr (Kc a b):=Hc _
theorem vJ:∀ l:List Ab,(Ip l).length<=l.length
 | []=>by simp [Ip]
 | x::l=>by
  have h1:=vJ l
  have h2:=Nu x (Ip l)
  have e:Ip (x::l)=Gl x (Ip l):=rfl
  rw [e,aL];omega
theorem Xv (a b:List Ab):(Kc a b).length<=a.length+b.length:=by
 have:=vJ (a++b)
 rw [aF] at this;exact this
def I_ (L:List A6) (l:List Ab):Nat:=(L.filter λ x=>!Df l x.To).length
theorem Avx (L:List A6) {l m:List Ab} (h:∀ x,x∈l->x∈m):I_ L m<=I_ L l:=by
 unfold I_
 induction L with
 | nil=>simp
 | cons x L ih=>
  rw [aT,aT]
  by_cases hx:x.To∈l
  ·rw [Gb hx,Gb (h _ hx)];exact ih
  ·rw [Tf hx]
   by_cases hy:x.To∈m
   ·rw [Gb hy];simp;omega
   ·rw [Tf hy];simp;omega
theorem Ago {x:A6} {l:List Ab} (hl:¬x.To∈l):∀ {L:List A6},x∈L->I_ L (Gl x.To l)+1<=I_ L l
 | y::L,h=>by
  have hi:∀ z,z∈l->z∈Gl x.To l:=λ z hz=>(E8 _ _ _).2 (.inr hz)
  have hle:=Avx L hi
  unfold I_ at hle ⊢
  rw [aT,aT]
  rcases ag.1 h with e | h
  ·subst e
   rw [Tf hl,Gb ((E8 _ _ _).2 (.inl rfl))]
   simp;omega
  ·have ih:=Ago hl h
   unfold I_ at ih
   by_cases hy:y.To∈l
   ·rw [Gb hy,Gb (hi _ hy)];exact ih
   ·rw [Tf hy]
    by_cases hz:y.To∈Gl x.To l
    ·rw [Gb hz];simp;omega
    ·rw [Tf hz];simp;omega
def Ajv (d:A4) (b:List Ab) (l:List Ab):Prop:=Dr l/\(∀ x,x∈l->Led d.Links b x)/\(∀ x,x∈b->x∈l)/\l.length+I_ d.Links l<=b.length+d.Links.length
theorem Ai3 {d:A4} (h:Ox d) {b:List Ab} (hb:b.length<=800):F28 d b=some (Hn d.Links b):=by
 have h2:=h.links.len
 refine d5 ?_
 unfold F28
 rw [Xw (a:=b) (b:=[]) (by simpa using by omega),zV h]
 refine Ok.andThen (A:=λ z=>Ajv d b z.2/\∀ x,x∈d.Links->x.From∈z.2->x.To∈z.2) (B:=λ (_:Unit)=>False) ?_ (λ z hz=>Ok.pure ?_) (λ _ h=>h.elim)
 ·refine c9 (λ z=>Ajv d b z.2/\(z.1=false->∀ x,x∈d.Links->x.From∈z.2->x.To∈z.2)) (λ z=>2*I_ d.Links z.2+z.1.toNat) _ _ ⟨⟨Ah1 _ _,λ x hx=>?_,λ x hx=>Qo.2 (.inl hx),?_⟩,λ e=>by cases e⟩ ?_ ?_
  ·rcases Qo.1 hx with hx | hx
   ·exact .at hx
   ·cases hx
  ·have h3:=Xv b []
   have h4:I_ d.Links (Kc b [])<=d.Links.length:=aW _ _
   simp only [bE,bx] at h3
   dsimp only;omega
  ·have h4:I_ d.Links (Kc b [])<=d.Links.length:=aW _ _
   show 2*I_ d.Links (Kc b [])+1<1152921504606846976;omega
  rintro⟨m,l⟩ ⟨⟨h3,h4,h5,h6⟩,h7⟩
  unfold Apk
  dsimp only at h3 h4 h5 h6 h7 ⊢
  refine c6 (λ hc=>?_) (λ hc=>cX ⟨⟨h3,h4,h5,h6⟩,h7 hc⟩)
  subst hc
  refine Ok.inner (A:=λ z=>(Ajv d b z.2/\(z.1=false->z.2=l/\∀ x,x∈d.Links->x.From∈l->x.To∈l))/\2*I_ d.Links z.2+z.1.toNat<2*I_ d.Links l+1) (B:=λ (_:Unit)=>False) ?_ (λ z hz=>c7 ⟨⟨hz.1.1,λ e=>?_⟩,hz.2⟩) (λ _ h=>h.elim)
  ·refine c8 (I:=λ j z=>(Ajv d b z.2/\(z.1=false->z.2=l/\∀ x,x∈d.Links.take j->x.From∈l->x.To∈l))/\2*I_ d.Links z.2+z.1.toNat<2*I_ d.Links l+1) ⟨⟨⟨h3,h4,h5,h6⟩,λ _=>⟨rfl,by simp⟩⟩,by simp only [Bool.toNat_false];omega⟩ (λ j x z hx hz=>?_) λ z hz=>?_
   ·obtain⟨⟨⟨z1,z2,z3,z4⟩,z5⟩,z6⟩:=hz
    have hxm:=ae hx
    unfold Apj
    refine Ok.bind (P:=λ v=>v=Df z.2 x.From) (cU (K_ _ _) rfl) λ v hv=>Ok.bind (P:=λ u=>v=true->u=Df z.2 x.To) (cT (λ _=>cU (K_ _ _) λ _=>rfl) (λ hn hv=>absurd ⟨hv,trivial⟩ hn)) λ u hu=>c6 (λ hc=>?_) (λ hc=>c7 ⟨⟨⟨z1,z2,z3,z4⟩,λ e=>⟨(z5 e).1,λ y hy hf=>?_⟩⟩,z6⟩)
    ·simp only [ab,aX] at hc
     have e1:=hu hc.1
     rw [hc.2] at e1
     rw [hc.1] at hv
     have hfrom:=Gc.1 hv.symm
     have hto:¬x.To∈z.2:=λ hm=>by rw [Gb hm] at e1;cases e1
     refine Ok.bind (P:=λ v=>v=Gl x.To z.2) (cU (Vh z1 (by omega) _) rfl) λ v hv=>c7 ?_
     subst hv
     have hlt:=Ago hto hxm
     have hil:=Nu x.To z.2
     refine⟨⟨⟨Ig _ z1,λ y hy=>?_,λ y hy=>(E8 _ _ _).2 (.inr (z3 y hy)),by dsimp only;omega⟩,λ e=>by cases e⟩,by simp only [Bool.toNat_true];have:z.1.toNat<=1:=Bool.toNat_le z.1;omega⟩
     rcases (E8 _ _ _).1 hy with hy | hy
     ·rw [hy];exact .by (z2 _ hfrom) x hxm rfl rfl
     ·exact z2 y hy
    ·obtain⟨e1,e2⟩:=z5 e
     rw [Bp hx] at hy
     rcases am.1 hy with hy | hy
     ·exact e2 y hy hf
     ·rw [aC.1 hy] at hf ⊢
      rw [e1,Gb hf] at hv
      rw [hv] at hc
      simp only [bv,cL] at hc
      have e3:=hu hv
      rw [hc,e1] at e3
      exact Gc.1 e3.symm
   ·rw [aB] at hz;exact hz
  ·rw [(hz.1.2 e).1];exact (hz.1.2 e).2
 ·obtain⟨⟨z1,z2,z3,_⟩,z4⟩:=hz
  refine Iz z1 (Ye _ _) λ x=>?_
  rw [Mw]
  refine⟨z2 x,λ hx=>?_⟩
  induction hx with
  | «at» h=>exact z3 _ h
  | «by» _ x hx e1 e2 ih=>subst e2;exact z4 x hx (e1 ▸ ih)
theorem J_ (x lo hi:Int):Ce x lo hi=true↔lo<=x/\x<=hi:=by
 simp [Ce]
theorem Yg {b:Aa} (h:Ax b) (x:Ab):Ve b x=true↔Ct b x:=by
 have h1:=h.buses
 have h2:=h.brl
 have h3:=h.sol
 have h4:=h.col
 unfold Ve Ct
 rw [A0 (n:=(b.Ae.length:Int)-1) (by omega),A0 (n:=(b.Ah.length:Int)-1) (by omega),A0 (n:=b.Am-1) (by omega),A0 (n:=(b.Ag.length:Int)-1) (by omega)]
 by_cases k1:x.Kind=1
 ·rw [dG.2 k1,cond_true,J_];omega
 rw [dH.2 k1,cond_false]
 by_cases k2:x.Kind=2
 ·rw [dG.2 k2,cond_true,J_];omega
 rw [dH.2 k2,cond_false]
 by_cases k3:x.Kind=3
 ·rw [dG.2 k3,cond_true,J_];omega
 rw [dH.2 k3,cond_false]
 by_cases k4:x.Kind=4
 ·rw [dG.2 k4,cond_true,J_];omega
 ·rw [dH.2 k4]
  simp only [cond_false,bm,false_iff]
  omega
theorem Abv {l:List Ak}:∀ {c d:List Bool},c.length=d.length->(∀ k:Nat,c[k]? = some true->d[k]? = some true)->∀ i,(C7 l c i).length<=(C7 l d i).length:=by
 induction l with
 | nil=>intro c d _ _ i;simp [C7]
 | cons x l ih=>
  intro c d hl h i
  cases c with
  | nil=>simp [C7]
  | cons v c=>cases d with
   | nil=>simp at hl
   | cons u d=>
    have:=ih (c:=c) (d:=d) (by simpa using hl) (λ k hk=>by have:=h (k+1) (by simpa using hk);simpa using this) i
    have h0:v=true->u=true:=λ e=>by have:=h 0 (by simp [e]);simpa using this
    unfold C7 at this ⊢
    simp only [cj,aT]
    cases hk:(x.Kind==3&&x.B==(i:Int)) with
    | false=>simpa using this
    | true=>
     cases v with
     | false=>cases u <;> simp <;> omega
     | true=>rw [h0 rfl];simp;omega
theorem Aqo {b:Aa} (h:Ax b) {s0:Af} (hs0:A1 s0) :
  Ok (whileN (Vb b) 1152921504606846976 (0,s0.L,s0.At,([]:List Bool))) (Eo (λ s=>A1 ⟨s.2.1,s.2.2.1⟩/\s.2.2.2.length=b.Ah.length) (λ (_:Unit)=>False)):=by
 have hb:=h.brl
 refine c9 (λ s=>(0<=s.1/\s.1<=(b.Ah.length:Int))/\A1 ⟨s.2.1,s.2.2.1⟩/\(s.2.2.2.length:Int)=s.1) (λ s=>((b.Ah.length:Int)-s.1).toNat) _ _ ?_ ?_ ?_
 ·exact⟨by dsimp only;omega,hs0,by simp⟩
 ·dsimp only;omega
 ·rintro⟨i,L,a,l⟩ ⟨⟨h1,h2⟩,h4,h5⟩
  dsimp only at h1 h2 h4 h5
  unfold Vb Acy
  refine c6 (λ h=>?_) (λ h=>?_)
  ·simp only [dE] at h
   have e:w64 (i+1)=i+1:=A0 (by omega)
   dsimp only
   rw [e]
   refine (C4 h4 2 (by omega) (by omega)).bind λ u hu=>(cW (by simp;omega)).bind λ m hm=>c7 ?_
   subst hm
   exact⟨⟨by dsimp only;omega,hu.1,by simp;omega⟩,by dsimp only;omega⟩
  ·simp only [dF] at h
   exact cX ⟨h4,by dsimp only;omega⟩
theorem By {α:Type} {l:List α} {j:Nat} {x:α} (h:l[j]? = some x):getI l (j:Int)=some x:=by unfold getI;simp [h]
theorem Wq {α:Type} {l:List α} {j:Nat} {x:α} (h:j<l.length):setI l (j:Int) x=some (l.set j x):=by
 unfold setI
 have h1:decide ((0:Int)<=(j:Int))=true:=by simp
 have h2:decide ((j:Int)<(l.length:Int))=true:=by simp;omega
 rw [h1,h2];simp
theorem Aqm {b:Aa} (h:Ax b) {n:Int} {i:Nat} (hn:n=(i:Int)) {c:List Bool} (hc:c.length=b.Ah.length) (w:Int×List Bool) (hw:w.1=n) :
  Ok (foldI (U_ w) b.Ah 0 (true,c)) (Eo (λ s=>s.2.length=b.Ah.length/\(∀ k:Nat,s.2[k]? = some true->c[k]? = some true)/\(C7 b.Ah s.2 i).length<=1) (λ (_:Unit)=>False)):=by
 have hb:=h.brl
 refine c8 (I:=λ j s=>s.2.length=b.Ah.length/\(∀ k:Nat,s.2[k]? = some true->c[k]? = some true)/\(s.1=true->C7 (b.Ah.take j) (s.2.take j) i=[])/\(C7 (b.Ah.take j) (s.2.take j) i).length<=1) ?_ (λ j x s hx hs=>?_) λ s hs=>?_
 ·exact⟨hc,λ _ h=>h,λ _=>by simp [C7],by simp [C7]⟩
 ·obtain⟨f,d⟩:=s
  obtain⟨h1,h2,h3,h4⟩:=hs
  dsimp only at h1 h2 h3 h4
  have hj:=(aa.1 hx).1
  obtain⟨v,hv⟩:∃ v,d[j]? = some v:=⟨_,ai (by omega)⟩
  have hcnt:cnt 0 j=(j:Int):=Cw (by omega)
  unfold U_ yK
  dsimp only
  rw [hcnt,By hv,Wq (by omega),hw,hn]
  cases hk:(x.Kind==3&&x.B==(i:Int)) with
  | false=>
   simp only [Ar,Eh,Bool.false_and]
   refine c7 ⟨h1,h2,λ e=>?_,?_⟩ <;> dsimp only <;> rw [Mv hx hv,hk]
   ·simpa using h3 e
   ·simpa using h4
  | true=>
   simp only [Ar,Eh,bv]
   cases v with
   | false=>
    refine c7 ⟨h1,h2,λ e=>?_,?_⟩ <;> dsimp only <;> rw [Mv hx hv,hk]
    ·simpa using h3 e
    ·simpa using h4
   | true=>
    have hset:(d.set j f)[j]? = some f:=by rw [bD (by omega)]
    have htake:(d.set j f).take j=d.take j:=by rw [List.take_set_of_le (af j)]
    refine c7 ⟨by simpa using h1,λ k hk2=>?_,λ e=>?_,?_⟩
    ·dsimp only at hk2
     rw [ay] at hk2
     split at hk2
     ·rename_i e;subst e;exact h2 _ hv
     ·exact h2 _ hk2
    ·cases e
    ·dsimp only
     rw [Mv hx hset,hk,htake]
     cases f with
     | false=>simpa using h4
     | true=>simp [h3 rfl]
 ·rw [aB] at hs
  obtain⟨h1,h2,h3,h4⟩:=hs
  have:s.2.take b.Ah.length=s.2:=cu (by omega)
  rw [this] at h4
  exact⟨h1,h2,h4⟩
theorem Aqn {b:Aa} (h:Ax b) {c:List Bool} (hc:c.length=b.Ah.length) :
  Ok (whileN (Va b) 1152921504606846976 (0,c)) (Eo (λ s=>s.2.length=b.Ah.length/\∀ i,i<b.Ag.length->(C7 b.Ah s.2 i).length<=1) (λ (_:Unit)=>False)):=by
 have hco:=h.col
 refine c9 (λ s=>(0<=s.1/\s.1<=(b.Ag.length:Int))/\s.2.length=b.Ah.length/\∀ i:Nat,(i:Int)<s.1->(C7 b.Ah s.2 i).length<=1) (λ s=>((b.Ag.length:Int)-s.1).toNat) _ _ ?_ ?_ ?_
 ·exact⟨by dsimp only;omega,hc,λ i hi=>by dsimp only at hi;omega⟩
 ·dsimp only;omega
 ·rintro⟨n,d⟩ ⟨⟨h1,h2⟩,h3,h4⟩
  dsimp only at h1 h2 h3 h4
  unfold Va Acx
  refine c6 (λ hq=>?_) (λ hq=>?_)
  ·simp only [dE] at hq
   have e:w64 (n+1)=n+1:=A0 (by omega)
   dsimp only
   refine (Aqm h (n:=n) (i:=n.toNat) (by omega) h3 (n,d) rfl).inner (λ s hs=>?_) (λ _ h=>h.elim)
   rw [e]
   obtain⟨g1,g2,g3⟩:=hs
   refine c7 ⟨⟨by dsimp only;omega,g1,λ i hi=>?_⟩,by dsimp only;omega⟩
   dsimp only at hi ⊢
   by_cases e:(i:Int)=n
   ·have:i=n.toNat:=by omega
    subst this;exact g3
   ·exact aw (Abv (by omega) g2 i) (h4 i (by omega))
  ·simp only [dF] at hq
   exact cX ⟨h3,λ i hi=>h4 i (by omega)⟩
theorem Aql {b:Aa} (h:Ax b) {s0:Af} (hs0:A1 s0) :
  Ok (whileN (U9 b) 1152921504606846976 (0,s0.L,s0.At,([]:List Aj))) (Eo (λ s=>A1 ⟨s.2.1,s.2.2.1⟩/\s.2.2.2.length=b.Ae.length/\∀ x,x∈s.2.2.2->D9 x/\x.Since<=4) (λ (_:Unit)=>False)):=by
 have hb:=h.sol
 refine c9 (λ s=>(0<=s.1/\s.1<=(b.Ae.length:Int))/\A1 ⟨s.2.1,s.2.2.1⟩/\(s.2.2.2.length:Int)=s.1/\∀ x,x∈s.2.2.2->D9 x/\x.Since<=4) (λ s=>((b.Ae.length:Int)-s.1).toNat) _ _ ?_ ?_ ?_
 ·exact⟨by dsimp only;omega,hs0,by simp,λ x hx=>by simp at hx⟩
 ·dsimp only;omega
 ·rintro⟨i,L,a,l⟩ ⟨⟨h1,h2⟩,h4,h5,h6⟩
  dsimp only at h1 h2 h4 h5 h6
  unfold U9 yJ
  refine c6 (λ h=>?_) (λ h=>?_)
  ·simp only [dE] at h
   have e:w64 (i+1)=i+1:=A0 (by omega)
   dsimp only
   rw [e]
   refine (Cv h4 _ (by simp) (by simp)).bind λ u hu=>(C4 hu.1 5 (by omega) (by omega)).bind λ v hv=>(Cv hv.1 _ (by simp) (by simp)).bind λ p hp=>(Cv hp.1 _ (by simp) (by simp)).bind λ q hq=>(cW (by simp;omega)).bind λ m hm=>c7 ?_
   subst hm
   have g1:u.1=0\/u.1=1\/u.1=2\/u.1=2\/u.1=2\/u.1=3:=by simpa using hu.2
   have g2:=hv.2
   have g3:p.1=5000\/p.1=5000\/p.1=5005\/p.1=4950:=by simpa using hp.2
   have g4:q.1=0\/q.1=0\/q.1=40\/q.1=1800\/q.1=3590:=by simpa using hq.2
   refine⟨⟨by dsimp only;omega,hq.1,by simp;omega,λ x hx=>?_⟩,by dsimp only;omega⟩
   rcases am.1 hx with hx | hx
   ·exact h6 x hx
   ·simp at hx;subst hx
    exact⟨⟨by dsimp only;omega,by dsimp only;omega,by dsimp only;omega,by dsimp only;omega⟩,by dsimp only;omega⟩
  ·simp only [dF] at h
   exact cX ⟨h4,by dsimp only;omega,h6⟩
theorem Aqk {b:Aa} (h:Ax b) {s0:Af} (hs0:A1 s0) :
  Ok (foldI U8 b.Ag 0 (s0.L,s0.At,([]:List Int))) (Eo (λ s=>A1 ⟨s.1,s.2.1⟩/\s.2.2.length=b.Ag.length/\∀ (i:Nat) n c,s.2.2[i]? = some n->b.Ag[i]? = some c->0<=n/\n<=c.Load) (λ (_:Unit)=>False)):=by
 have hb:=h.col
 refine c8 (I:=λ j s=>A1 ⟨s.1,s.2.1⟩/\s.2.2.length=j/\∀ (i:Nat) n c,s.2.2[i]? = some n->b.Ag[i]? = some c->0<=n/\n<=c.Load) ?_ (λ j x s hx hs=>?_) λ s hs=>hs
 ·exact⟨hs0,rfl,λ i n c hn=>by simp at hn⟩
 ·obtain⟨L,a,l⟩:=s
  obtain⟨h1,h2,h3⟩:=hs
  dsimp only at h1 h2 h3
  have hj:=(aa.1 hx).1
  unfold U8
  dsimp only
  refine (Cv h1 _ (by simp) (by simp)).bind λ u hu=>(cW (by simp;omega)).bind λ m hm=>c7 ⟨hu.1,?_,λ i n c hn hc=>?_⟩
  ·subst hm;simp [h2]
  ·dsimp only at hn
   subst hm
   rw [b9] at hn
   split at hn
   ·exact h3 i n c hn hc
   ·rename_i hi
    have hlt:=(aa.1 hn).1
    simp at hlt
    have:i=j:=by omega
    subst this
    rw [hx] at hc;cases hc
    rw [h2] at hn
    simp at hn;subst hn
    obtain⟨g1,g2,_⟩:=h.co _ x hx
    have g3:=Ap4 (x:=x.Load) (by omega) (by omega)
    have g4:u.1=x.Load\/u.1=x.Load\/u.1=x.Least\/u.1=w64 (Int.tdiv x.Load 3):=by simpa using hu.2
    omega
theorem Aqj {b:Aa} (h:Ax b) {s0:Af} (hs0:A1 s0) :
  Ok (whileN (U7 b) 7 (1,s0.L,s0.At,([]:List Ab))) (Eo (λ s=>A1 ⟨s.2.1,s.2.2.1⟩/\Fa b s.2.2.2/\s.2.2.2.length<=4) (λ (_:Unit)=>False)):=by
 refine c9 (λ s=>(1<=s.1/\s.1<=5)/\A1 ⟨s.2.1,s.2.2.1⟩/\((s.2.2.2.length:Int)<s.1)/\(∀ x,x∈s.2.2.2->Ct b x/\x.Kind<s.1)/\∀ (j:Nat) x y,s.2.2.2[j]? = some x->s.2.2.2[j+1]? = some y->Qa x y) (λ s=>(5-s.1).toNat) _ _ ?_ ?_ ?_
 ·exact⟨by dsimp only;omega,hs0,by simp,λ x hx=>by simp at hx,λ j x y hx=>by simp at hx⟩
 ·dsimp only;omega
 ·rintro⟨i,L,a,l⟩ ⟨⟨h1,h2⟩,h4,h5,h6,h7⟩
  dsimp only at h1 h2 h4 h5 h6 h7
  unfold U7
  refine c6 (λ hq=>?_) (λ hq=>?_)
  ·simp only [dE] at hq
   have e:w64 (i+1)=i+1:=A0 (by omega)
   dsimp only
   rw [e]
   have skip:∀ {u:Af},A1 u->Ok (some (.next (i+1,u.L,u.At,l)):Option (Ctl (Int×List Int×Int×List Ab) Unit)) (Hw (λ s=>((1<=s.1/\s.1<=5)/\A1 ⟨s.2.1,s.2.2.1⟩/\((s.2.2.2.length:Int)<s.1)/\(∀ x,x∈s.2.2.2->Ct b x/\x.Kind<s.1)/\∀ (j:Nat) x y,s.2.2.2[j]? = some x->s.2.2.2[j+1]? = some y->Qa x y)/\(5-s.1).toNat<(5-i).toNat) (λ s=>A1 ⟨s.2.1,s.2.2.1⟩/\Fa b s.2.2.2/\s.2.2.2.length<=4) (λ _=>False)):=λ hu=>
    c7 ⟨⟨by dsimp only;omega,hu,by dsimp only;omega,λ x hx=>⟨(h6 x hx).1,by have:=(h6 x hx).2;dsimp only;omega⟩,h7⟩,by dsimp only;omega⟩
   refine (C4 h4 5 (by omega) (by omega)).bind λ u hu=>c6 (λ _=>?_) (λ _=>skip hu.1)
   refine (C4 hu.1 4 (by omega) (by omega)).bind λ v hv=>c6 (λ he=>?_) (λ _=>skip hv.1)
   rw [Yg h] at he
   refine (cW (by simp;omega)).bind λ m hm=>c7 ?_
   subst hm
   refine⟨⟨by dsimp only;omega,hv.1,by simp;omega,λ x hx=>?_,λ j x y hx hy=>?_⟩,by dsimp only;omega⟩
   ·rcases am.1 hx with hx | hx
    ·exact⟨(h6 x hx).1,by have:=(h6 x hx).2;dsimp only;omega⟩
    ·simp at hx;subst hx;exact⟨he,by dsimp only;omega⟩
   ·dsimp only at hx hy
    have hyl:=(aa.1 hy).1
    simp at hyl
    rw [aD (by omega)] at hx
    rw [b9] at hy
    split at hy
    ·exact h7 j x y hx hy
    ·rename_i hn
     have e0:j+1-l.length=0:=by omega
     rw [e0] at hy
     simp at hy;subst hy
     exact .inl (h6 x (ae hx)).2
  ·simp only [dF] at hq
   exact cX ⟨h4,⟨by dsimp only;omega,λ x hx=>(h6 x hx).1,h7⟩,by dsimp only;omega⟩
theorem An9 {b:Aa} (h:Ax b) {s:Af} (hs:A1 s):Ok (Vd s b) λ y=>((Av b y.1/\y.1.Al.length<=4)/\A1 y.2)/\∀ x,x∈y.1.Ae->x.Since<=4:=by
 unfold Vd
 refine (Aqo h hs).andThen (λ s0 h0=>?_) (λ _ h=>h.elim)
 refine (Aqn h h0.2).andThen (λ s1 h1=>?_) (λ _ h=>h.elim)
 refine (Aql h h0.1).andThen (λ s3 h3=>?_) (λ _ h=>h.elim)
 refine (Aqk h h3.1).andThen (λ s4 h4=>?_) (λ _ h=>h.elim)
 refine (Aqj h h4.1).andThen (λ s5 h5=>?_) (λ _ h=>h.elim)
 exact Ok.pure ⟨⟨⟨⟨h1.1,h3.2.1,h4.2.1,λ x hx=>(h3.2.2 x hx).1,h4.2.2,h1.2,h5.2.1⟩,h5.2.2⟩,h5.1⟩,λ x hx=>(h3.2.2 x hx).2⟩
theorem Asw {b:Aa} (h:Ax b) {s:Af} (hs:A1 s):Ok (Vd s b) λ y=>(Av b y.1/\y.1.Al.length<=4)/\A1 y.2:=(An9 h hs).mono λ _ hy=>hy.1
def E6 (b:Aa) (p:Ad) (k i:Int):Option Int:=((b.Ah.zip p.Ai).find? λ z=>(z.1.Kind==k&&z.1.B==i)&&z.2).map (·.1.A)
def Fj (o:Option Int):Int×Bool:=match o with
 | some a=>(a,true)
 | none=>(0,false)
theorem Abe {p:Ad} {k i:Int}:∀ (l:List Ak) (c:List Bool) (n:Nat),n+l.length<=9223372036854775807->l.length=c.length->p.Ai.drop n=c ->
  foldI (qY p k i) l n ()=match ((l.zip c).find? λ z=>(z.1.Kind==k&&z.1.B==i)&&z.2) with
   | some z=>some (.ret (z.1.A,true))
   | none=>some (.next ())
 | [],c,n,_,_,_=>by simp [foldI]
 | x::l,[],n,_,h,_=>by simp at h
 | x::l,v::c,n,hn,h,hd=>by
  simp only [aL] at hn h
  have hv:p.Ai[n]? = some v:=by
   have:=congrArg (·[0]?) hd
   simpa [List.getElem?_drop] using this
  have hd':p.Ai.drop (n+1)=c:=by rw [←bM,hd];rfl
  have ih:=Abe (p:=p) (k:=k) (i:=i) l c (n+1) (by omega) (by omega) hd'
  have hcnt:cnt 0 n=(n:Int):=Cw (by omega)
  simp only [foldI,qY,Anb,hcnt,By hv,cj,cM]
  cases hk:(x.Kind==k&&x.B==i) with
  | false=>simpa [Ar,Eh] using ih
  | true=>
   cases v with
   | false=>simpa [Ar,Eh] using ih
   | true=>simp [Ar,Eh]
theorem Al1 {b:Aa} (h:Ax b) {p:Ad} (hc:p.Ai.length=b.Ah.length) (k i:Int):Ad5 b p k i=some (Fj (E6 b p k i)):=by
 have hb:=h.brl
 unfold Ad5
 rw [Abe b.Ah p.Ai 0 (by omega) (by omega) rfl]
 unfold E6
 cases (b.Ah.zip p.Ai).find? λ z=>(z.1.Kind==k&&z.1.B==i)&&z.2 with
 | none=>rfl
 | some z=>rfl
theorem Abw {b:Aa} (h:Ax b) {p:Ad} (hc:p.Ai.length=b.Ah.length) (i:Int):uB b p i=some (Fj (E6 b p 3 i)):=by
 unfold uB
 rw [Al1 h hc];rfl
def G9 (b:Aa) (p:Ad) (i:Int):Option Int:=
 if 0<=i/\i<p.Ae.length/\(p.Ae.getD i.toNat default).State=2 then E6 b p 2 i else none
theorem T5 {b:Aa} (h:Ax b) {p:Ad} (hp:Av b p) (i:Int):uC b p i=some (Fj (G9 b p i)):=by
 have hs:=h.sol
 have hn:=hp.nso
 refine d5 ?_
 unfold uC
 have e1:w64 ((p.Ae.length:Int)-1)=(p.Ae.length:Int)-1:=A0 (by omega)
 by_cases hi:0<=i/\i<p.Ae.length
 ·have hin:Bl i 0 (w64 ((p.Ae.length:Int)-1))=true:=by rw [e1];exact jQ (by omega)
  obtain⟨x,hx⟩:∃ x,p.Ae[i.toNat]? = some x:=⟨_,ai (by omega)⟩
  have hg:getI p.Ae i=some x:=by have:=By hx;rwa [bF hi.1] at this
  have hd:p.Ae.getD i.toNat default=x:=by simp [List.getD,hx]
  rw [hin,hg]
  refine Ok.bind (P:=λ y=>y=x) (cT (λ _=>Ok.pure rfl) λ hn=>(hn ⟨rfl,trivial⟩).elim) λ y hy=>?_
  subst hy
  unfold G9
  refine c6 (λ hc=>?_) (λ hc=>?_)
  ·simp only [Yu,hin,aA,aR,bm,false_or,bne_iff_ne,ne_eq] at hc
   rw [hd,if_neg (λ hh=>hc hh.2.2)]
   exact Ok.pure rfl
  ·have hc:=ff hc
   simp only [Yu,hin,aA,aR,bm,false_or,bne_iff_ne,ne_eq,Decidable.not_not] at hc
   rw [hd,if_pos ⟨hi.1,hi.2,hc⟩,Al1 h hp.ncl]
   exact Ok.pure rfl
 ·have hin:Bl i 0 (w64 ((p.Ae.length:Int)-1))=false:=by
   cases hq:Bl i 0 (w64 ((p.Ae.length:Int)-1)) with
   | false=>rfl
   | true=>rw [Ih,e1] at hq;omega
  rw [hin]
  unfold G9
  rw [if_neg (λ hh=>hi ⟨hh.1,hh.2.1⟩)]
  refine Ok.bind (P:=λ _=>True) (cT (λ hg=>absurd hg.1 (by simp)) λ _=>trivial) λ y _=>?_
  refine c6 (λ _=>Ok.pure rfl) (λ hc=>?_)
  simp [Yu,hin] at hc
theorem Ns {b:Aa} (h:Ax b) {p:Ad} {k i a:Int} (e:E6 b p k i=some a):0<=a/\a<b.Am:=by
 unfold E6 at e
 rw [bU] at e
 obtain⟨z,hz,rfl⟩:=e
 exact (h.br z.1 (bV (List.mem_of_find?_eq_some hz)).1).1
theorem Ach {b:Aa} (h:Ax b) {p:Ad} {i a:Int} (e:G9 b p i=some a):0<=a/\a<b.Am:=by
 unfold G9 at e
 split at e
 ·exact Ns h e
 ·cases e
def F1 (s:List Int) (z:Ak×Bool):List Int:=
 if z.1.Kind=1/\z.2=true then (s.set z.1.A.toNat (min (s.getD z.1.A.toNat 0) (s.getD z.1.B.toNat 0))).set z.1.B.toNat (min (s.getD z.1.A.toNat 0) (s.getD z.1.B.toNat 0)) else s
def Ee (l:List (Ak×Bool)) (s:List Int):List Int:=l.foldl F1 s
def Di (n:Nat):List Int:=(List.range n).map λ (i:Nat)=>(i:Int)
def groups (b:Aa) (p:Ad):List Int:=(List.range b.Am.toNat).foldl (λ s _=>Ee (b.Ah.zip p.Ai) s) (Di b.Am.toNat)
theorem Fi (s:List Int) (z:Ak×Bool):(F1 s z).length=s.length:=by
 unfold F1;split <;> simp
theorem Gn (l:List (Ak×Bool)):∀ s:List Int,(Ee l s).length=s.length:=by
 induction l with
 | nil=>intro s;rfl
 | cons z l ih=>intro s;show (Ee l (F1 s z)).length=_;rw [ih,Fi]
theorem O4 {b:Aa} {p:Ad} {n:Nat}:∀ (xs:List Nat) (s:List Int),s.length=n->(xs.foldl (λ s _=>Ee (b.Ah.zip p.Ai) s) s).length=n
 | [],s,h=>h
 | _::xs,s,h=>O4 xs _ (by rw [Gn];exact h)
theorem Jg (b:Aa) (p:Ad):(groups b p).length=b.Am.toNat:=O4 _ _ (by simp [Di])
theorem Ard {b:Aa} (h:Ax b) {p:Ad} (hc:p.Ai.length=b.Ah.length) {s:List Int} (hs:s.length=b.Am.toNat) :
  Ok (foldI (uD p) b.Ah 0 s) (Eo (λ r=>r=Ee (b.Ah.zip p.Ai) s) (λ (_:Unit)=>False)):=by
 have hb:=h.brl
 have hbu:=h.buses
 refine c8 (I:=λ j r=>r=Ee ((b.Ah.take j).zip (p.Ai.take j)) s) (by simp [Ee]) (λ j x r hx hr=>?_) λ r hr=>?_
 ·have hj:=(aa.1 hx).1
  obtain⟨v,hv⟩:∃ v,p.Ai[j]? = some v:=⟨_,ai (by omega)⟩
  have hcnt:cnt 0 j=(j:Int):=Cw (by omega)
  have hl:r.length=b.Am.toNat:=by rw [hr,Gn,hs]
  have hnext:Ee ((b.Ah.take (j+1)).zip (p.Ai.take (j+1))) s=F1 r (x,v):=by
   rw [Bp hx,Bp hv,List.zip_append (by simp;omega)]
   unfold Ee at hr ⊢
   rw [ba,←hr];rfl
  rw [hnext]
  unfold uD
  rw [hcnt,By hv]
  obtain⟨⟨a0,a1⟩,hk⟩:=h.br x (ae hx)
  by_cases k1:x.Kind=1
  ·rw [dG.2 k1]
   refine Ok.bind (P:=λ y=>y=v) (cT (λ _=>Ok.pure rfl) λ hn=>(hn ⟨rfl,trivial⟩).elim) λ y hy=>?_
   subst hy
   have hB:x.A<x.B/\x.B<b.Am:=by omega
   cases y with
   | false=>
    refine c6 (λ hq=>by simp at hq) (λ _=>c7 ?_)
    simp [F1]
   | true=>
    refine c6 (λ _=>?_) (λ hq=>by simp at hq)
    refine (cV a0 (by omega)).bind λ u hu=>(cV (by omega) (by omega)).bind λ w hw=>(cY a0 (by omega)).bind λ t ht=>?_
    subst ht
    refine (cV (by omega) (by simp;omega)).bind λ _ _=>(cY (by omega) (by simp;omega)).bind λ t ht=>c7 ?_
    subst ht
    simp [F1,k1,List.getD,hu,hw]
  ·rw [dH.2 k1]
   refine Ok.bind (P:=λ _=>True) (cT (λ hg=>absurd hg.1 (by simp)) λ _=>trivial) λ y _=>?_
   refine c6 (λ hq=>by simp at hq) (λ _=>c7 ?_)
   simp [F1,k1]
 ·rw [aB,←hc,aB] at hr
  exact hr
theorem Amb {b:Aa} (h:Ax b) {p:Ad} (hc:p.Ai.length=b.Ah.length):Aei b p=some (groups b p):=by
 have hbu:=h.buses
 refine d5 ?_
 unfold Aei
 refine (Ok.mkI (by omega) (by omega)).bind λ y hy=>?_
 refine Ok.andThen (A:=λ s=>s=Di b.Am.toNat) (B:=λ (_:Unit)=>False) ?_ ?_ (λ _ h=>h.elim)
 ·refine c8 (I:=λ j s=>s=(List.range b.Am.toNat).map λ i=>if i<j then (i:Int) else 0) ?_ (λ j x s hx hs=>?_) λ s hs=>?_
  ·rw [hy,Og]
   exact bg λ i _=>by simp
  ·have hj:=(aa.1 hx).1
   have hjl:j<b.Am.toNat:=by rw [hy] at hj;simpa using hj
   have hcnt:cnt 0 j=(j:Int):=Cw (by omega)
   subst hs
   unfold Ag7
   rw [hcnt]
   refine (dj (by omega) (by omega)).bind λ _ _=>(dp (by omega) (by omega)).bind λ z hz=>c7 ?_
   rw [hz]
   refine bg λ i _=>?_
   by_cases e:i=j
   ·subst e;simp
   ·have:((j:Int)).toNat=j:=by omega
    rw [this,if_neg e]
    by_cases e2:i<j
    ·rw [if_pos e2,if_pos (by omega)]
    ·rw [if_neg e2,if_neg (by omega)]
  ·rw [hs]
   unfold Di
   refine bg λ i hi=>?_
   rw [hy]
   simp at hi
   simp [hi]
 ·rintro s rfl
  refine Ok.andThen (A:=λ s=>s=groups b p) (B:=λ (_:Unit)=>False) ?_ (λ s hs=>Ok.pure hs) (λ _ h=>h.elim)
  refine c8 (I:=λ j s=>s=(List.range j).foldl (λ s _=>Ee (b.Ah.zip p.Ai) s) (Di b.Am.toNat)) rfl (λ j x s hx hs=>?_) λ s hs=>?_
  ·unfold Ag6
   have hl:s.length=b.Am.toNat:=by rw [hs];exact O4 _ _ (by simp [Di])
   refine (Ard h hc hl).inner (λ r hr=>c7 ?_) (λ _ h=>h.elim)
   rw [hr,ck,ba,←hs];rfl
  ·rw [hs]
   unfold groups
   congr 2
   simp [Di]
theorem Arc {s:List Int} (h:∀ (i:Nat) v,s[i]? = some v->0<=v/\v<=i) {z:Ak×Bool} (hz:z.1.Kind=1->0<=z.1.A/\z.1.A<z.1.B/\z.1.B<s.length):∀ (i:Nat) v,(F1 s z)[i]? = some v->0<=v/\v<=i:=by
 unfold F1
 split
 ·rename_i hk
  obtain⟨h1,h2,h3⟩:=hz hk.1
  have ga:s[z.1.A.toNat]? = some (s.getD z.1.A.toNat 0):=by rw [ai (by omega)];simp [List.getD,List.getElem?_eq_getElem (show z.1.A.toNat<s.length by omega)]
  have gb:s[z.1.B.toNat]? = some (s.getD z.1.B.toNat 0):=by rw [ai (by omega)];simp [List.getD,List.getElem?_eq_getElem (show z.1.B.toNat<s.length by omega)]
  have ha:=h _ _ ga
  have hb:=h _ _ gb
  intro i v hv
  rw [ay] at hv
  split at hv
  ·rename_i e;subst e
   split at hv
   ·cases hv;omega
   ·cases hv
  ·rw [ay] at hv
   split at hv
   ·rename_i e;subst e
    split at hv
    ·cases hv;omega
    ·cases hv
   ·exact h i v hv
 ·exact h
theorem vW {n:Nat}:∀ (l:List (Ak×Bool)) (s:List Int),s.length=n->(∀ z,z∈l->z.1.Kind=1->0<=z.1.A/\z.1.A<z.1.B/\z.1.B<n)->(∀ (i:Nat) v,s[i]? = some v->0<=v/\v<=i)->∀ (i:Nat) v,(Ee l s)[i]? = some v->0<=v/\v<=i
 | [],s,_,_,h=>h
 | z::l,s,hs,hz,h=>vW l (F1 s z) (by rw [Fi];exact hs) (λ y hy=>hz y (al _ hy)) (Arc h (by rw [hs];exact hz z ak))
theorem Tj {b:Aa} (h:Ax b) (p:Ad):∀ (i:Nat) v,(groups b p)[i]? = some v->0<=v/\v<=i:=by
 have hbu:=h.buses
 have hz:∀ z,z∈b.Ah.zip p.Ai->z.1.Kind=1->0<=z.1.A/\z.1.A<z.1.B/\z.1.B<(b.Am.toNat:Int):=by
  intro z hz hk
  have:=h.br z.1 (bV hz).1
  unfold R9 at this
  omega
 have key:∀ (xs:List Nat) (s:List Int),s.length=b.Am.toNat->(∀ (i:Nat) v,s[i]? = some v->0<=v/\v<=i)->∀ (i:Nat) v,(xs.foldl (λ s _=>Ee (b.Ah.zip p.Ai) s) s)[i]? = some v->0<=v/\v<=i:=by
  intro xs
  induction xs with
  | nil=>intro s _ h;exact h
  | cons x xs ih=>intro s hl h;exact ih _ (by rw [Gn];exact hl) (vW _ s hl hz h)
 refine key _ _ (by simp [Di]) ?_
 intro i v hv
 simp only [Di,az] at hv
 cases hr:(List.range b.Am.toNat)[i]? with
 | none=>rw [hr] at hv;cases hv
 | some k=>
  rw [hr] at hv
  have:=aa.1 hr
  simp at this
  obtain⟨_,rfl⟩:=this
  cases hv;dsimp only;omega
def Jr (x:Ap):Bool:=!((x.Am.length:Int)==0)
theorem Art (l:List Ap) (h:l.length<=9223372036854775807):Zh l=some (Jq (λ x=>(x.Am.length:Int)==0) l):=by
 unfold Zh
 exact H6 (λ x:Ap=>(x.Am.length:Int)==0) (λ i y=>rfl) l h
theorem Avs (l:List Ap) (hl:l.length<=1000):Qi l=some (l.filter Jr):=by
 refine d5 ?_
 unfold Qi
 rw [Art l (by omega)]
 simp only [ac]
 unfold Jq
 cases hf:l.findIdx? λ x=>(x.Am.length:Int)==0 with
 | none=>
  rw [cS] at hf
  refine c6 (λ _=>Ok.pure ?_) (λ hc=>by simp at hc)
  rw [eq_comm,cC]
  intro x hx
  simp only [Jr,hf x hx];rfl
 | some i=>
  rw [cG] at hf
  obtain⟨hi,hp,hn⟩:=hf
  refine c6 (λ hc=>?_) (λ _=>?_)
  ·simp only [dG] at hc;omega
  have e1:w64 ((i:Int)+1)=(i:Int)+1:=A0 (by omega)
  simp only [e1]
  refine Ok.andThen (A:=λ s=>0<=s.1/\s.1<=(l.length:Int)/\s.2.2.length=l.length/\s.2.2.take s.1.toNat=l.filter Jr) (B:=λ (_:Unit)=>False) ?_ ?_ (λ _ h=>h.elim)
  ·refine c9 (λ s=>(0<=s.1/\s.1<s.2.1/\s.2.1<=(l.length:Int))/\s.2.2.length=l.length/\s.2.2.take s.1.toNat=(l.take s.2.1.toNat).filter Jr/\s.2.2.drop s.2.1.toNat=l.drop s.2.1.toNat) (λ s=>((l.length:Int)-s.2.1).toNat) _ _ ?_ ?_ ?_
   ·refine⟨by dsimp only;omega,rfl,?_,rfl⟩
    dsimp only
    have e2:((i:Int)+1).toNat=i+1:=by omega
    rw [e2,aE,Bp (ai hi),bu]
    have h1:(l.take i).filter Jr=l.take i:=by
     rw [cC]
     intro x hx
     obtain⟨j,hj,rfl⟩:=cr hx
     simp only [aS] at hj
     rw [List.getElem_take]
     have:=hn j (by omega)
     simp only [Jr]
     simpa using this
    have h2:Jr l[i]=false:=by simp only [Jr,hp];rfl
    rw [h1]
    simp [h2]
   ·dsimp only;omega
   ·rintro⟨a,j,m⟩ ⟨⟨h1,h2,h3⟩,h4,h5,h6⟩
    dsimp only at h1 h2 h3 h4 h5 h6
    unfold U1 Acu
    dsimp only
    refine c6 (λ hq=>?_) (λ hq=>?_)
    ·simp only [dE] at hq
     have e1:w64 (j+1)=j+1:=A0 (by omega)
     have e2:w64 (a+1)=a+1:=A0 (by omega)
     have e3:(j+1).toNat=j.toNat+1:=by omega
     have e4:(a+1).toNat=a.toNat+1:=by omega
     refine (cV (by omega) (by omega)).bind λ y hy=>?_
     have hyl:l[j.toNat]? = some y:=by
      have:=congrArg (·[0]?) h6
      simp only [ar,bx] at this
      rw [←this];exact hy
     have hdrop:∀ (q:List Ap),q.drop j.toNat=l.drop j.toNat->q.drop (j.toNat+1)=l.drop (j.toNat+1):=λ q hq=>by
      rw [←bM,hq,bM]
     refine c6 (λ hf=>?_) (λ hf=>?_)
     ·refine (cV (by omega) (by omega)).bind λ _ _=>(cY (by omega) (by omega)).bind λ z hz=>?_
      rw [e1,e2]
      subst hz
      refine c7 ⟨⟨by dsimp only;omega,by simpa using h4,?_,?_⟩,by dsimp only;omega⟩
      ·dsimp only
       rw [e3,e4,Bp hyl,bu,←h5]
       have hfl:Jr y=true:=hf
       rw [Bp (x:=y) (by rw [bD (by omega)])]
       simp [hfl,List.take_set_of_le]
      ·dsimp only
       rw [e3,List.drop_set_of_lt (by omega)]
       exact hdrop m h6
     ·rw [e1]
      refine c7 ⟨⟨by dsimp only;omega,h4,?_,?_⟩,by dsimp only;omega⟩
      ·dsimp only
       have hfl:Jr y=false:=hf
       rw [e3,Bp hyl,bu,←h5]
       simp [hfl]
      ·dsimp only
       rw [e3];exact hdrop m h6
    ·simp only [dF] at hq
     have e:j.toNat=l.length:=by omega
     refine cX ⟨h1,by dsimp only;omega,h4,?_⟩
     dsimp only
     rw [h5,e,aB]
  ·rintro⟨a,j,m⟩ ⟨h1,h2,h3,h4⟩
   dsimp only at h1 h2 h3 h4 ⊢
   have hc:(Hg m a.toNat ((Int.toNat (m.length:Int))-a.toNat) (⟨([]:List Int),([]:List Int),([]:List Int)⟩:Ap)).length=l.length:=by
    simp [Hg];omega
   refine (Ok.bndI h1 (by omega) (by omega)).bind λ _ _=>(Ok.bndI (by omega) h1 (by rw [hc];omega)).bind λ _ _=>Ok.pure ?_
   rw [←h4]
   unfold Hg
   rw [Nat.sub_zero,cH (by simp;omega),List.take_take,Nat.min_self]
def G3 (b:Aa) (p:Ad) (o:Option Int):Option Int:=o.map λ a=>(groups b p).getD a.toNat 0
def E_ (b:Aa) (p:Ad) (n f:Nat):List Int:=((List.range n).filter λ (i:Nat)=>(groups b p).getD i 0==(f:Int)).map λ (i:Nat)=>(i:Int)
def Gs (b:Aa) (p:Ad) (n f:Nat):List Int:=((List.range n).filter λ (i:Nat)=>G3 b p (G9 b p (i:Int))==some (f:Int)).map λ (i:Nat)=>(i:Int)
def Ho (b:Aa) (p:Ad) (n f:Nat):List Int:=((List.range n).filter λ (i:Nat)=>G3 b p (E6 b p 3 (i:Int))==some (f:Int)).map λ (i:Nat)=>(i:Int)
def isl (b:Aa) (p:Ad) (f:Nat):Ap:=⟨E_ b p b.Am.toNat f,Gs b p b.Ae.length f,Ho b p b.Ag.length f⟩
def B_ (b:Aa) (p:Ad):List Ap:=((List.range b.Am.toNat).map (isl b p)).filter Jr
theorem Gv (q:Nat->Bool) (n:Nat):((List.range (n+1)).filter q).map (λ (i:Nat)=>(i:Int))=((List.range n).filter q).map (λ (i:Nat)=>(i:Int))++if q n=true then [(n:Int)] else []:=by
 rw [ck,bu,bJ]
 congr 1
 cases h:q n <;> simp [h]
theorem E9 (q:Nat->Bool) (n:Nat):(((List.range n).filter q).map (λ (i:Nat)=>(i:Int))).length<=n:=by
 have:=aW q (List.range n)
 simpa using this
theorem Ko {b : Aa} (h : Ax b) {p : Ad} (hp : Av b p) : uV b p = some (B_ b p) := by
 have hbu:=h.buses
 have hso:=h.sol
 have hco:=h.col
 have hgl:=Jg b p
 have hglo:=Tj h p
 refine d5 ?_
 unfold uV
 rw [E2 h hp]
 simp only [ac]
 refine c6 (λ hc=>by simp at hc) (λ _=>?_)
 rw [Amb h hp.ncl]
 simp only [ac]
 refine (Ok.mkI (by omega) (by omega)).bind λ y hy=>?_
 have hget:∀ (i:Nat),i<b.Am.toNat->(groups b p)[i]? = some ((groups b p).getD i 0):=λ i hi=>by
  have:i<(groups b p).length:=by omega
  simp [List.getD,List.getElem?_eq_getElem this]
 refine Ok.andThen (A:=λ s=>s=(List.range b.Am.toNat).map λ f=>(⟨E_ b p b.Am.toNat f,[],[]⟩:Ap)) (B:=λ (_:Unit)=>False) ?_ ?_ (λ _ h=>h.elim)
 ·refine c8 (I:=λ j s=>s=(List.range b.Am.toNat).map λ f=>(⟨E_ b p j f,[],[]⟩:Ap)) ?_ (λ j x s hx hs=>?_) λ s hs=>?_
  ·rw [hy,Og];rfl
  ·subst hs
   have hj:j<b.Am.toNat:=by have:=(aa.1 hx).1;omega
   have hlo:=hglo j x hx
   have hxe:(groups b p).getD j 0=x:=by simp [List.getD,hx]
   have hcnt:cnt 0 j=(j:Int):=Cw (by omega)
   unfold Ahq
   rw [hcnt]
   refine (dj (by omega) (by omega)).bind λ u hu=>?_
   subst hu
   have hl:(E_ b p j x.toNat).length<=j:=E9 _ _
   refine (cW (by simp;omega)).bind λ v hv=>(dp (by omega) (by omega)).bind λ w hw=>c7 ?_
   rw [hw]
   refine bg λ f _=>?_
   unfold E_
   rw [Gv,hxe]
   by_cases e:f=x.toNat
   ·subst e
    rw [if_pos rfl,if_pos (by simp;omega),hv]
    rfl
   ·rw [if_neg e,if_neg (by simp;omega),aZ]
  ·rw [hgl] at hs;exact hs
 ·rintro s rfl
  refine Ok.andThen (A:=λ s=>s.2=(List.range b.Am.toNat).map λ f=>(⟨E_ b p b.Am.toNat f,Gs b p b.Ae.length f,[]⟩:Ap)) (B:=λ (_:Unit)=>False) ?_ ?_ (λ _ h=>h.elim)
  ·refine c9 (λ s=>(0<=s.1/\s.1<=(b.Ae.length:Int))/\s.2=(List.range b.Am.toNat).map λ f=>(⟨E_ b p b.Am.toNat f,Gs b p s.1.toNat f,[]⟩:Ap)) (λ s=>((b.Ae.length:Int)-s.1).toNat) _ _ ?_ ?_ ?_
   ·exact⟨by dsimp only;omega,rfl⟩
   ·dsimp only;omega
   ·rintro⟨i,s⟩ ⟨⟨h1,h2⟩,h3⟩
    dsimp only at h1 h2 h3
    subst h3
    unfold Ahp Anu
    dsimp only
    refine c6 (λ hq=>?_) (λ hq=>?_)
    ·simp only [dE] at hq
     have e1:w64 (i+1)=i+1:=A0 (by omega)
     have e2:(i+1).toNat=i.toNat+1:=by omega
     have e3:((i.toNat:Nat):Int)=i:=by omega
     rw [T5 h hp]
     simp only [ac]
     cases hcn:G9 b p i with
     | none=>
      refine c6 (λ hc=>by simp [Fj] at hc) (λ _=>?_)
      rw [e1]
      refine c7 ⟨⟨by dsimp only;omega,?_⟩,by dsimp only;omega⟩
      dsimp only
      rw [e2]
      refine bg λ f _=>?_
      unfold Gs
      rw [Gv,e3,hcn,if_neg (by simp [G3]),aZ]
     | some a=>
      have hab:=Ach h hcn
      have hga:=hget a.toNat (by omega)
      have hgla:=hglo _ _ hga
      refine c6 (λ _=>?_) (λ hc=>by simp [Fj] at hc)
      have hg2:getI (groups b p) a=some ((groups b p).getD a.toNat 0):=by have:=By hga;rwa [bF hab.1] at this
      simp only [Fj,hg2,ac]
      generalize hge:(groups b p).getD a.toNat 0=ga at hgla
      refine (dj (by omega) (by omega)).bind λ u hu=>?_
      subst hu
      have hl:(Gs b p i.toNat ga.toNat).length<=i.toNat:=E9 _ _
      refine (cW (by simp;omega)).bind λ v hv=>(dp (by omega) (by omega)).bind λ w hw=>?_
      rw [e1]
      refine c7 ⟨⟨by dsimp only;omega,?_⟩,by dsimp only;omega⟩
      dsimp only
      rw [hw,e2]
      refine bg λ f _=>?_
      unfold Gs
      rw [Gv,e3,hcn]
      simp only [G3,aU,hge]
      by_cases e:f=ga.toNat
      ·subst e
       rw [if_pos rfl,if_pos (by simp;omega),hv]
       rfl
      ·rw [if_neg e,if_neg (by simp;omega),aZ]
    ·simp only [dF] at hq
     have e:i.toNat=b.Ae.length:=by omega
     rw [e]
     exact cX rfl
  ·rintro⟨i0,s⟩ hs
   dsimp only at hs
   subst hs
   dsimp only
   refine Ok.andThen (A:=λ s=>s.2=(List.range b.Am.toNat).map (isl b p)) (B:=λ (_:Unit)=>False) ?_ ?_ (λ _ h=>h.elim)
   ·refine c9 (λ s=>(0<=s.1/\s.1<=(b.Ag.length:Int))/\s.2=(List.range b.Am.toNat).map λ f=>(⟨E_ b p b.Am.toNat f,Gs b p b.Ae.length f,Ho b p s.1.toNat f⟩:Ap)) (λ s=>((b.Ag.length:Int)-s.1).toNat) _ _ ?_ ?_ ?_
    ·exact⟨by dsimp only;omega,rfl⟩
    ·dsimp only;omega
    ·rintro⟨i,s⟩ ⟨⟨h1,h2⟩,h3⟩
     dsimp only at h1 h2 h3
     subst h3
     unfold Aho Ant
     dsimp only
     refine c6 (λ hq=>?_) (λ hq=>?_)
     ·simp only [dE] at hq
      have e1:w64 (i+1)=i+1:=A0 (by omega)
      have e2:(i+1).toNat=i.toNat+1:=by omega
      have e3:((i.toNat:Nat):Int)=i:=by omega
      rw [Abw h hp.ncl]
      simp only [ac]
      cases hcn:E6 b p 3 i with
      | none=>
       refine c6 (λ hc=>by simp [Fj] at hc) (λ _=>?_)
       rw [e1]
       refine c7 ⟨⟨by dsimp only;omega,?_⟩,by dsimp only;omega⟩
       dsimp only
       rw [e2]
       refine bg λ f _=>?_
       unfold Ho
       rw [Gv,e3,hcn,if_neg (by simp [G3]),aZ]
      | some a=>
       have hab:=Ns h hcn
       have hga:=hget a.toNat (by omega)
       have hgla:=hglo _ _ hga
       refine c6 (λ _=>?_) (λ hc=>by simp [Fj] at hc)
       have hg2:getI (groups b p) a=some ((groups b p).getD a.toNat 0):=by have:=By hga;rwa [bF hab.1] at this
       simp only [Fj,hg2,ac]
       generalize hge:(groups b p).getD a.toNat 0=ga at hgla
       refine (dj (by omega) (by omega)).bind λ u hu=>?_
       subst hu
       have hl:(Ho b p i.toNat ga.toNat).length<=i.toNat:=E9 _ _
       refine (cW (by simp;omega)).bind λ v hv=>(dp (by omega) (by omega)).bind λ w hw=>?_
       rw [e1]
       refine c7 ⟨⟨by dsimp only;omega,?_⟩,by dsimp only;omega⟩
       dsimp only
       rw [hw,e2]
       refine bg λ f _=>?_
       unfold Ho
       rw [Gv,e3,hcn]
       simp only [G3,aU,hge]
       by_cases e:f=ga.toNat
       ·subst e
        rw [if_pos rfl,if_pos (by simp;omega),hv]
        rfl
       ·rw [if_neg e,if_neg (by simp;omega),aZ]
     ·simp only [dF] at hq
      have e:i.toNat=b.Ag.length:=by omega
      rw [e]
      exact cX rfl
   ·rintro⟨i1,s⟩ hs
    dsimp only at hs
    subst hs
    dsimp only
    rw [Avs _ (by simp;omega)]
    exact Ok.pure rfl
theorem Hj {α:Type} {B:Nat} {l:List α} (h:l.length*B<=140737488355328):appI B [] l=some l:=by
 unfold appI
 have:decide ((([]:List α).length+l.length)*B<=140737488355328)=true:=by simpa using h
 rw [this];rfl
theorem Hh {b:Aa} (h:Ax b) {p:Ad} (hp:Av b p):Ml p=some p:=by
 have h1:=hp.ncl
 have h2:=hp.nso
 have h3:=hp.nli
 have h4:=hp.brk.len
 have h5:=h.brl
 have h6:=h.sol
 have h7:=h.col
 unfold Ml uZ uY Pj R7
 rw [Hj (by omega),Hj (by omega),Hj (by omega),Hj (by omega)]
 rfl
theorem eqB (l:List Bool) (h:l.length<=9223372036854775807):uU l l=some true:=by
 unfold uU
 rw [Dv l 0 λ j x hj=>?_]
 ·simp [andThen]
 ·have hjl:=(aa.1 hj).1
  unfold uT
  rw [aI,Cw (by omega),By hj]
  simp
theorem eqI (l:List Int) (h:l.length<=9223372036854775807):uQ l l=some true:=by
 unfold uQ
 rw [Dv l 0 λ j x hj=>?_]
 ·simp [andThen]
 ·have hjl:=(aa.1 hj).1
  unfold uP
  rw [aI,Cw (by omega),By hj]
  simp
theorem eqR (l:List Aj) (h:l.length<=9223372036854775807):uS l l=some true:=by
 unfold uS
 rw [Dv l 0 λ j x hj=>?_]
 ·simp [andThen]
 ·have hjl:=(aa.1 hj).1
  unfold uR Ans
  rw [aI,Cw (by omega),By hj]
  simp
theorem eqP (l:List Ab) (h:l.length<=9223372036854775807):uO l l=some true:=by
 unfold uO
 rw [Dv l 0 λ j x hj=>?_]
 ·simp [andThen]
 ·have hjl:=(aa.1 hj).1
  unfold uN Anr
  rw [aI,Cw (by omega),By hj]
  simp
structure Asy (p:Ad):Prop where
 c:p.Ai.length<=1000
 s:p.Ae.length<=1000
 l:p.An.length<=1000
 k:p.Al.length<=1000
theorem Av.lens {b:Aa} (h:Ax b) {p:Ad} (hp:Av b p):Asy p:=by
 have h1:=hp.ncl
 have h2:=hp.nso
 have h3:=hp.nli
 have h4:=hp.brk.len
 have h5:=h.brl
 have h6:=h.sol
 have h7:=h.col
 exact⟨by omega,by omega,by omega,by omega⟩
theorem Alk {p:Ad} (h:Asy p):F99 p p=some true:=by
 have h1:=h.c
 have h2:=h.s
 have h3:=h.l
 have h4:=h.k
 unfold F99
 rw [eqB _ (by omega),eqI _ (by omega),eqR _ (by omega),eqP _ (by omega)]
 rfl
def Wo (like x:Aj):Aj:=⟨x.State,x.Since,like.Aq,like.Phase⟩
def Fq (like:Aj) (idx:List Int) (ss:List Aj):List Aj:=idx.foldl (λ s i=>s.set i.toNat (Wo like (s.getD i.toNat default))) ss
theorem Ht (like:Aj):∀ (idx:List Int) (ss:List Aj),(Fq like idx ss).length=ss.length
 | [],_=>rfl
 | i::idx,ss=>by
  show (Fq like idx _).length=_
  rw [Ht like idx,bn]
theorem vM {like:Aj} {idx:List Int} {j:Nat} {i:Int} (h:idx[j]? = some i) (ss:List Aj):Fq like (idx.take (j+1)) ss=(Fq like (idx.take j) ss).set i.toNat (Wo like ((Fq like (idx.take j) ss).getD i.toNat default)):=by
 unfold Fq
 rw [Bp h,ba];rfl
theorem Aap {p:Ad} {idx:List Int} {like:Aj} (h:∀ i,i∈idx->0<=i/\i<p.Ae.length):Qk p idx like=some (Fq like idx p.Ae):=by
 refine d5 ?_
 unfold Qk
 refine Ok.andThen (A:=λ s=>s=Fq like idx p.Ae) (B:=λ (_:Unit)=>False) ?_ (λ s hs=>Ok.pure hs) (λ _ h=>h.elim)
 refine c8 (I:=λ j s=>s=Fq like (idx.take j) p.Ae) rfl (λ j x s hx hs=>?_) λ s hs=>?_
 ·have hi:=h x (ae hx)
  have hl:s.length=p.Ae.length:=by rw [hs,Ht]
  unfold zK
  refine (cV hi.1 (by omega)).bind λ u hu=>(cY hi.1 (by omega)).bind λ v hv=>?_
  have hvg:v[x.toNat]? = some (⟨u.State,u.Since,like.Aq,u.Phase⟩:Aj):=by rw [hv,bD (by omega)]
  refine Ok.bind (P:=λ w=>w=(⟨u.State,u.Since,like.Aq,u.Phase⟩:Aj)) ((cV hi.1 (by rw [hv];simpa using by omega)).mono λ w hw=>by rw [hvg] at hw;cases hw;rfl) λ w hw=>?_
  refine (cY hi.1 (by rw [hv];simpa using by omega)).bind λ z hz=>c7 ?_
  rw [vM hx,←hs,hz,hv,hw,List.set_set]
  have:s.getD x.toNat default=u:=by simp [List.getD,hu]
  rw [this];rfl
 ·rw [aB] at hs;exact hs
def Fp (b:Aa) (p:Ad):List Aj:=(B_ b p).foldl (λ s x=>match x.Ae with | []=>s | i::_=>Fq (p.Ae.getD i.toNat default) x.Ae s) p.Ae
theorem Pv {b:Aa} {p:Ad} {x:Ap} (h:x∈B_ b p):∀ i,i∈x.Ae->0<=i/\i<b.Ae.length:=by
 unfold B_ at h
 obtain⟨f,_,rfl⟩:=ao.1 (ax.1 h).1
 intro i hi
 obtain⟨k,hk,rfl⟩:=ao.1 hi
 have:=aY.1 (ax.1 hk).1
 omega
theorem Pt (b:Aa) (p:Ad):(B_ b p).length<=b.Am.toNat:=by
 have:=aW Jr ((List.range b.Am.toNat).map (isl b p))
 simpa [B_] using this
def Dq (p:Ad) (s:List Aj) (x:Ap):List Aj:=match x.Ae with
 | []=>s
 | i::_=>Fq (p.Ae.getD i.toNat default) x.Ae s
theorem Nw (p:Ad) (s:List Aj) (x:Ap):(Dq p s x).length=s.length:=by
 unfold Dq;split
 ·rfl
 ·rw [Ht]
theorem Lk (p:Ad):∀ (l:List Ap) (s:List Aj),(l.foldl (Dq p) s).length=s.length
 | [],_=>rfl
 | x::l,s=>by show (l.foldl (Dq p) _).length=_;rw [Lk p l,Nw]
theorem Iw (b:Aa) (p:Ad):(Fp b p).length=p.Ae.length:=Lk p _ _
theorem Tm {b:Aa} (h:Ax b) {p:Ad} (hp:Av b p):F96 b p=some (⟨p.Ai,Fp b p,p.An,p.Al⟩,0):=by
 refine d5 ?_
 unfold F96
 rw [E2 h hp,Hh h hp,Ko h hp]
 simp only [ac]
 refine c6 (λ hc=>by simp at hc) (λ _=>?_)
 refine Ok.andThen (A:=λ s=>s=Fp b p) (B:=λ (_:Unit)=>False) ?_ (λ s hs=>Ok.pure (by rw [hs])) (λ _ h=>h.elim)
 refine c8 (I:=λ j s=>s=((B_ b p).take j).foldl (Dq p) p.Ae) rfl (λ j x s hx hs=>?_) λ s hs=>?_
 ·have hi:=Pv (ae hx)
  have hl:s.length=p.Ae.length:=by rw [hs,Lk]
  have hn:=hp.nso
  have hnext:((B_ b p).take (j+1)).foldl (Dq p) p.Ae=Dq p s x:=by rw [Bp hx,ba,←hs];rfl
  unfold Aob At5
  cases hsrc:x.Ae with
  | nil=>
   refine c6 (λ hc=>by simp at hc) (λ _=>c7 ?_)
   rw [hnext];simp [Dq,hsrc]
  | cons i l=>
   have hi0:=hi i (by rw [hsrc];exact ak)
   refine c6 (λ _=>?_) (λ hc=>by simp at hc)
   have hg:getI (i::l) 0=some i:=rfl
   obtain⟨u,hu⟩:∃ u,p.Ae[i.toNat]? = some u:=⟨_,ai (by omega)⟩
   have hg2:getI p.Ae i=some u:=by have:=By hu;rwa [bF hi0.1] at this
   rw [hg]
   simp only [ac]
   rw [hg2]
   simp only [ac]
   rw [Aap (by
    intro k hk
    have:=hi k (by rw [hsrc];exact hk)
    dsimp only
    omega)]
   refine c7 ?_
   rw [hnext]
   have:p.Ae.getD i.toNat default=u:=by simp [List.getD,hu]
   simp only [Dq,hsrc,this]
 ·rw [aB] at hs;exact hs
structure V0 (y:Bt):Prop where
 stop:1<=y.Stop/\y.Stop<=99
 start:y.Stop<y.Start/\y.Start<=100
 delay:0<=y.Delay/\y.Delay<=600
theorem Ae0 {y:Bt} (h:V0 y):F98 y=true:=by
 have h1:=h.stop
 have h2:=h.start
 have h3:=h.delay
 simp only [F98,ab,dE]
 omega
theorem Ast {s:Af} (hs:A1 s):Ok (F85 s) λ y=>V0 y.1/\A1 y.2:=by
 unfold F85
 refine (Cv hs _ (by simp) (by simp)).bind λ u hu=>(Cv hu.1 _ (by simp) (by simp)).bind λ v hv=>(Cv hv.1 _ (by simp) (by simp)).bind λ w hw=>Ok.pure ⟨?_,hw.1⟩
 have g1:u.1=60\/u.1=80\/u.1=100:=by simpa using hu.2
 have g2:v.1=1\/v.1=30\/v.1=50:=by simpa using hv.2
 have g3:w.1=0\/w.1=1\/w.1=3:=by simpa using hw.2
 exact⟨by dsimp only;omega,by dsimp only;omega,by dsimp only;omega⟩
def Aae (t:Int) (x:A9):Prop:=(-1<=x.High/\x.High<=t) /\ -1<=x.Low/\x.Low<=t
theorem Aia {p:As} {l:List A9} (h:∀ x,x∈l->Aae p.Time x):Zv l p=some (false,p):=by
 refine d5 ?_
 unfold Zv Aer
 refine Ok.bind (P:=λ y=>y=(-1,p)) ?_ (λ y hy=>Ok.pure (by rw [hy];rfl))
 refine Ok.andThen (A:=λ s=>s=(p.Time,p.Power.Ai,p.Power.Ae,p.Power.An,p.Power.Al,p.Ba,p.Bh)) (B:=λ _=>False) ?_ (λ s hs=>Ok.pure (by rw [hs])) (λ _ h=>h.elim)
 refine c8 (I:=λ _ s=>s=(p.Time,p.Power.Ai,p.Power.Ae,p.Power.An,p.Power.Al,p.Ba,p.Bh)) rfl (λ j x s hx hs=>?_) λ s hs=>hs
 have hr:=h x (ae hx)
 unfold Aae at hr
 subst hs
 unfold zJ
 refine c6 (λ hc=>?_) (λ _=>c7 rfl)
 simp only [Acw,Gh,Y1,aA,aX,ch,dF] at hc
 omega
structure V1 (b:Aa) (y:Bt) (p:As):Prop where
 st:Av b p.Power
 fol:Fp b p.Power=p.Power.Ae
 time:0<=p.Time/\p.Time<=2147483648
 nro:p.Ba.length=b.Am.toNat
 ros:∀ x,x∈p.Ba->Aae p.Time x
theorem zO {b:Aa} (h:Ax b) {y:Bt} (hy:V0 y) {p:As} (hp:V1 b y p):F49 b y p=some 0:=by
 have h1:=h.buses
 have h2:=hp.time
 have h3:=hp.nro
 refine d5 ?_
 unfold F49
 rw [Tm h hp.st]
 simp only [ac,hp.fol]
 refine c6 (λ hc=>by simp at hc) (λ _=>c6 (λ hc=>?_) (λ _=>c6 (λ hc=>?_) (λ _=>?_)))
 ·simp only [Auf,Ae0 hy,aR,aV,aA,dE] at hc
  omega
 ·simp only [bne_iff_ne,ne_eq] at hc
  omega
 ·have e:(⟨p.Power.Ai,p.Power.Ae,p.Power.An,p.Power.Al⟩:Ad)=p.Power:=rfl
  rw [e,Alk (hp.st.lens h)]
  simp only [ac]
  rw [Aia hp.ros]
  have e2:Ar [((!true),false)] (some (false,p)) (default,p)=some (false,p):=rfl
  rw [e2]
  exact Ok.pure rfl
def brk (l:List Ab) (k n:Int):Bool:=l.any λ x=>k==x.Kind&&n==x.Number
theorem Gy {p:Ad} (h:p.Al.length<=1000) (k n:Int):Mk p k n=some (brk p.Al k n):=by
 unfold Mk Aew Akq
 rw [H6 (λ x:Ab=>(k==x.Kind)&&((n==x.Number)&&true)) (λ i y=>rfl) p.Al (by omega)]
 simp only [ac,K9,brk,bG]
def Vw (b:Aa) (i:Int):Int:=Jq (λ x:Ak=>x.Kind==2&&x.B==i) b.Ah
theorem Ajo {b:Aa} (h:Ax b) (i:Int):Ajz b i=some (Vw b i):=by
 have hb:=h.brl
 unfold Ajz Adu
 refine d5 ?_
 refine Ok.bind (P:=λ y=>y=(Vw b i,i)) ?_ (λ y hy=>Ok.pure (by rw [hy]))
 have key:=Oz (f:=λ n (a:Ak) (z:Unit)=>(bif (a.Kind==2&&a.B==i) then some (.ret (cnt 0 n)) else some (.next ()):Option (Ctl Unit Int))) (p:=λ x:Ak=>x.Kind==2&&x.B==i) (λ _ _=>rfl) b.Ah 0 (by omega)
 have:∀ (xs:List Ak) (k:Nat),foldI (Uk i) xs k ()=match foldI (λ n (a:Ak) (z:Unit)=>(bif (a.Kind==2&&a.B==i) then some (.ret (cnt 0 n)) else some (.next ()):Option (Ctl Unit Int))) xs k () with
   | some (.ret r)=>some (.ret (r,i))
   | some (.next _)=>some (.next ())
   | some (.brk _)=>some (.brk ())
   | none=>none:=by
  intro xs
  induction xs with
  | nil=>intro k;rfl
  | cons x xs ih=>
   intro k
   simp only [foldI,Uk,Adt]
   cases hq:(x.Kind==2&&x.B==i) with
   | true=>rfl
   | false=>simp only [cond_false];exact ih (k+1)
 rw [this,key]
 unfold Vw Jq
 cases b.Ah.findIdx? (λ x:Ak=>x.Kind==2&&x.B==i) with
 | none=>exact Ok.pure rfl
 | some j=>exact Ok.pure rfl
theorem Ajn {b:Aa} (h:Ax b) {i:Int} (h0:0<=i) (h1:i<b.Ae.length):∃ (j:Nat) (x:Ak),Vw b i=(j:Int)/\b.Ah[j]? = some x/\x.Kind=2/\x.B=i/\j<24:=by
 have hone:=h.one i.toNat (by omega)
 have hb:=h.brl
 unfold Vw Jq
 cases hf:b.Ah.findIdx? (λ x:Ak=>x.Kind==2&&x.B==i) with
 | none=>
  exfalso
  rw [cS] at hf
  have:brs b.Ah 2 i.toNat=[]:=Lb λ x hx hk e=>by
   have:=hf x hx
   simp [hk] at this
   omega
  rw [this] at hone;simp at hone
 | some j=>
  rw [cG] at hf
  obtain⟨hj,hp,_⟩:=hf
  simp only [ab,dG] at hp
  exact⟨j,b.Ah[j],rfl,ai hj,hp.1,hp.2,by omega⟩
def lit (b:Aa) (u:Int->Bool) (s:List Bool) (i:Nat):List Bool:=if u (i:Int) then s.set (b.Ah.getD (Vw b (i:Int)).toNat default).A.toNat true else s
def LeB (s t:List Bool):Prop:=s.length=t.length/\∀ i:Nat,s[i]? = some true->t[i]? = some true
theorem LeB.refl (s:List Bool):LeB s s:=⟨rfl,λ _ h=>h⟩
theorem LeB.trans {s t r:List Bool} (h:LeB s t) (k:LeB t r):LeB s r:=⟨h.1.trans k.1,λ i e=>k.2 i (h.2 i e)⟩
theorem LeB.set {s t:List Bool} (h:LeB s t) (n:Nat) {x y:Bool} (hx:x=true->y=true):LeB (s.set n x) (t.set n y):=by
 refine⟨by simp [h.1],λ i e=>?_⟩
 rw [ay] at e ⊢
 split at e
 ·rename_i hn
  rw [if_pos hn]
  split at e
  ·rename_i hl
   rw [if_pos (by rw [←h.1];exact hl)]
   cases e;rw [hx rfl]
  ·cases e
 ·rename_i hn
  rw [if_neg hn];exact h.2 i e
theorem LeB.getD {s t:List Bool} (h:LeB s t) (n:Nat):s.getD n false=true->t.getD n false=true:=by
 intro e
 have:s[n]? = some true:=by
  unfold List.getD at e
  cases hs:s[n]? with
  | none=>rw [hs] at e;cases e
  | some v=>rw [hs] at e;simp at e;rw [e]
 simp [List.getD,h.2 n this]
theorem LeB.up (s:List Bool) (n:Nat) {y:Bool} (hy:s.getD n false=true->y=true):LeB s (s.set n y):=by
 refine⟨by simp,λ i e=>?_⟩
 rw [ay]
 split
 ·rename_i hn
  subst hn
  have hl:=(aa.1 e).1
  rw [if_pos hl,hy (by simp [List.getD,e])]
 ·exact e
def ks (x:Ab):Int:=x.Kind*1000+x.Number
def Da (x:Ab):Prop:=(1<=x.Kind/\x.Kind<=4)/\0<=x.Number/\x.Number<=100
theorem Ct.small {b:Aa} (h:Ax b) {x:Ab} (hx:Ct b x):Da x:=by
 have h1:=h.buses
 have h2:=h.brl
 have h3:=h.sol
 have h4:=h.col
 unfold Ct at hx
 unfold Da
 omega
theorem zZ {x y:Ab} (hx:Da x) (hy:Da y):Qa x y↔ks x<ks y:=by
 unfold Qa ks
 unfold Da at hx hy
 omega
theorem At0 {x y:Ab} (hx:Da x) (hy:Da y) (h:ks x=ks y):x=y:=by
 unfold ks at h
 unfold Da at hx hy
 cases x;cases y
 simp only [Ab.mk.injEq]
 dsimp only at *
 omega
theorem yL {x y:Ab} (hx:Da x) (hy:Da y):(decide (R5 x y<0)=decide (ks x<ks y))/\((R5 x y==0)=(ks x==ks y)):=by
 unfold Da at hx hy
 unfold R5 ks
 by_cases hk:x.Kind=y.Kind
 ·have:(x.Kind != y.Kind)=false:=by simp [hk]
  rw [this,cond_false,A0 (by omega)]
  constructor
  ·exact decide_eq_decide.2 (by omega)
  ·rw [bP,dG,dG];omega
 ·have:(x.Kind != y.Kind)=true:=by simp [hk]
  rw [this,cond_true,A0 (by omega)]
  constructor
  ·exact decide_eq_decide.2 (by omega)
  ·rw [bP,dG,dG];omega
def Hb (l:List Ab):Prop:=∀ (j k:Nat) x y,j<k->l[j]? = some x->l[k]? = some y->ks x<ks y
theorem H4 {b:Aa} (h:Ax b) {l:List Ab} (hl:Fa b l):Hb l:=by
 have hs:∀ x,x∈l->Da x:=λ x hx=>(hl.mem x hx).small h
 intro j k
 induction k with
 | zero=>intro x y hj;omega
 | succ k ih=>
  intro x y hj hx hy
  have hk:=(aa.1 hy).1
  obtain⟨z,hz⟩:∃ z,l[k]? = some z:=⟨_,ai (by omega)⟩
  have h1:=(zZ (hs z (ae hz)) (hs y (ae hy))).1 (hl.asc k z y hz hy)
  by_cases e:j=k
  ·subst e
   rw [hx] at hz;cases hz;exact h1
  ·have:=ih x z (by omega) hx hz
   omega
theorem Avn {n:Int} (h0:0<=n) (h1:n<=1000000):w64 (Sq .u64 (IntKind.wrap .u64 (w64 n)) 1)=n / 2:=by
 have e1:w64 n=n:=A0 (by omega)
 have e2:IntKind.wrap .u64 n=n:=by
  simp [IntKind.wrap,IntKind.signed,IntKind.bits]
  omega
 have e3:Sq .u64 n 1=n / 2:=by
  unfold Sq
  have:(2:Int) ^ min 1 (IntKind.u64).bits=2:=by decide
  rw [this]
  exact Int.fdiv_eq_ediv_of_nonneg _ (by omega)
 rw [e1,e2,e3,A0 (by omega)]
structure At (l:List Ab) (x:Ab) (n:Nat):Prop where
 le:n<=l.length
 lo:∀ (j:Nat) y,j<n->l[j]? = some y->ks y<ks x
 hi:∀ (j:Nat) y,n<=j->l[j]? = some y->ks x<=ks y
theorem Oe {l:List Ab} (hs:Hb l) (hsm:∀ x,x∈l->Da x) {x:Ab} (hx:Da x) (hl:l.length<=1000) :
  Ok (Y7 l x) λ y=>∃ n:Nat,y.1=(n:Int)/\At l x n/\(y.2=true↔l[n]? = some x):=by
 unfold Y7
 refine Ok.andThen (A:=λ s=>∃ n:Nat,s.1=(n:Int)/\At l x n) (B:=λ (_:Unit)=>False) ?_ ?_ (λ _ h=>h.elim)
 ·refine c9 (λ s=>(0<=s.1/\s.1<=s.2/\s.2<=(l.length:Int))/\(∀ (j:Nat) y,(j:Int)<s.1->l[j]? = some y->ks y<ks x)/\∀ (j:Nat) y,s.2<=(j:Int)->l[j]? = some y->ks x<=ks y) (λ s=>(s.2-s.1).toNat) _ _ ?_ ?_ ?_
  ·refine⟨by dsimp only;omega,λ j y hj=>by dsimp only at hj;omega,λ j y hj hy=>?_⟩
   have:=(aa.1 hy).1
   dsimp only at hj;omega
  ·dsimp only;omega
  ·rintro⟨i,j⟩ ⟨⟨h1,h2,h3⟩,h4,h5⟩
   dsimp only at h1 h2 h3 h4 h5
   unfold yU
   dsimp only
   refine c6 (λ hq=>?_) (λ hq=>?_)
   ·simp only [dE] at hq
    rw [Avn (by omega) (by omega)]
    refine (cV (by omega) (by omega)).bind λ y hy=>?_
    have hym:=hsm y (ae hy)
    rw [(yL hym hx).1]
    refine c6 (λ hc=>?_) (λ hc=>?_)
    ·simp only [dE] at hc
     rw [A0 (by omega)]
     refine c7 ⟨⟨by dsimp only;omega,λ k z hk hz=>?_,h5⟩,by dsimp only;omega⟩
     dsimp only at hk
     by_cases e:k=((i+j) / 2).toNat
     ·subst e;rw [hy] at hz;cases hz;exact hc
     ·have:=hs k _ z y (by omega) hz hy
      omega
    ·simp only [dF] at hc
     refine c7 ⟨⟨by dsimp only;omega,h4,λ k z hk hz=>?_⟩,by dsimp only;omega⟩
     dsimp only at hk
     by_cases e:k=((i+j) / 2).toNat
     ·subst e;rw [hy] at hz;cases hz;omega
     ·have:=hs _ k y z (by omega) hy hz
      omega
   ·simp only [dF] at hq
    refine cX ⟨i.toNat,by dsimp only;omega,by omega,λ k y hk hy=>h4 k y (by omega) hy,λ k y hk hy=>h5 k y (by omega) hy⟩
 ·rintro⟨i,j⟩ ⟨n,hn,hat⟩
  dsimp only at hn
  subst hn
  dsimp only
  by_cases hlt:n<l.length
  ·obtain⟨y,hy⟩:∃ y,l[n]? = some y:=⟨_,ai hlt⟩
   have hd:decide ((n:Int)<(l.length:Int))=true:=by simp;omega
   rw [hd,By hy]
   refine Ok.bind (P:=λ z=>z=y) (cT (λ _=>Ok.pure rfl) λ hn=>(hn ⟨rfl,trivial⟩).elim) λ z hz=>Ok.pure ⟨n,rfl,hat,?_⟩
   subst hz
   have hym:=hsm z (ae hy)
   show (true&&(R5 z x==0))=true↔_
   rw [bv,(yL hym hx).2,dG,hy]
   constructor
   ·intro e;rw [At0 hym hx e]
   ·intro e;cases e;rfl
  ·have hd:decide ((n:Int)<(l.length:Int))=false:=by simp;omega
   rw [hd]
   refine Ok.bind (P:=λ _=>True) (cT (λ hg=>absurd hg.1 (by simp)) λ _=>trivial) λ z _=>Ok.pure ⟨n,rfl,hat,?_⟩
   rw [cJ (by omega)]
   simp
theorem At.uniq {l:List Ab} {x:Ab} {n m:Nat} (h:At l x n) (k:At l x m):n=m:=by
 rcases bL n m with e | e | e
 ·obtain⟨y,hy⟩:∃ y,l[n]? = some y:=⟨_,ai (by have:=k.le;omega)⟩
  have:=h.hi n y (af _) hy
  have:=k.lo n y e hy
  omega
 ·exact e
 ·obtain⟨y,hy⟩:∃ y,l[m]? = some y:=⟨_,ai (by have:=h.le;omega)⟩
  have:=k.hi m y (af _) hy
  have:=h.lo m y e hy
  omega
def E7 (l:List Ab) (n:Nat) (x:Ab):List Ab:=l.take n++(x::l.drop n)
theorem Al6 {l:List Ab} {n:Nat} (hn:n<=l.length) (hl:l.length<=1000) (x:Ab):Qf l (n:Int) [x]=some (E7 l n x):=by
 refine d5 ?_
 unfold Qf
 refine (Ok.bndI (by omega) (by omega) (by omega)).bind λ _ _=>?_
 refine c6 (λ hc=>by simp at hc) (λ _=>c6 (λ hc=>?_) (λ _=>?_))
 ·simp only [dG] at hc
  have e:n=l.length:=by omega
  refine (cW (by simp;omega)).bind λ y hy=>Ok.pure ?_
  rw [hy,E7,e];simp
 ·refine (Ok.insI (by simp;omega)).mono λ y hy=>?_
  rw [hy,aE];rfl
theorem Amy {l:List Ab} {n:Nat} (hn:n<=l.length) (x:Ab):Un (E7 l n x) (n:Int) ((n:Int)+1)=some l:=by
 have hlen:(E7 l n x).length=l.length+1:=by simp [E7];omega
 refine d5 ?_
 unfold Un
 have e1:((n:Int)+1).toNat=n+1:=by omega
 have hdrop:(E7 l n x).drop (n+1)=l.drop n:=by
  unfold E7
  rw [List.drop_append,List.drop_of_length_le (by simp;omega)]
  have:n+1-(l.take n).length=1:=by simp;omega
  rw [this];simp
 have htake:(E7 l n x).take n=l.take n:=by
  unfold E7
  rw [cH (by simp;omega),List.take_take,Nat.min_self]
 refine (Ok.bnd3I (by omega) (by omega) (by omega) (by omega)).bind λ _ _=>c6 (λ hc=>?_) (λ _=>?_)
 ·simp only [dG] at hc;omega
 refine (Ok.bndI (by omega) (by omega) (by omega)).bind λ _ _=>(Ok.bndI (by omega) (by omega) (by omega)).bind λ _ _=>?_
 simp only [aE,e1,hdrop,Nat.sub_zero]
 have hpl:((l.drop n).take ((E7 l n x).length-(n+1))).length=l.length-n:=by simp [hlen]
 have hpe:(l.drop n).take ((E7 l n x).length-(n+1))=l.drop n:=cu (by simp [hlen])
 rw [hpe]
 have hdl:(l.drop n).length=l.length-n:=by simp
 refine (Ok.appPI (by rw [hlen,hdl];omega)).bind λ y hy=>?_
 have hyl:y.length=l.length+1:=by rw [hy];simp [hlen];omega
 refine (Ok.bndI (by omega) (by rw [hlen,hdl];omega) (by rw [hlen,hyl];omega)).bind λ _ _=>Ok.pure ?_
 have e2:n+(l.drop n).length=l.length:=by rw [hdl];omega
 rw [e2]
 unfold Hg
 simp only [aI]
 rw [cH (by simp;omega),List.take_take,Nat.min_self,hy,htake,←bB,cH (by simp),bT,aB]
theorem Q7 {l:List Ab} {n:Nat} (hn:n<=l.length) {x:Ab} {j:Nat} {y:Ab} (h:(E7 l n x)[j]? = some y):(j<n/\l[j]? = some y)\/(j=n/\y=x)\/(n<j/\l[j-1]? = some y):=by
 unfold E7 at h
 have ht:(l.take n).length=n:=by simp;omega
 rw [b9] at h
 split at h
 ·rename_i h1
  rw [ht] at h1
  rw [an,if_pos h1] at h
  exact .inl ⟨h1,h⟩
 ·rename_i h1
  rw [ht] at h1 h
  by_cases e:j=n
  ·subst e
   simp at h
   exact .inr (.inl ⟨rfl,h.symm⟩)
  ·obtain⟨k,hk⟩:∃ k,j-n=k+1:=⟨j-n-1,by omega⟩
   rw [hk,cv,ar] at h
   refine .inr (.inr ⟨by omega,?_⟩)
   rw [←h];congr 1;omega
theorem Ara {l:List Ab} {n:Nat} {x y:Ab} (h:y∈E7 l n x):y=x\/y∈l:=by
 unfold E7 at h
 rcases am.1 h with h | h
 ·exact .inr (bk h)
 ·rcases ag.1 h with h | h
  ·exact .inl h
  ·exact .inr (bX h)
theorem Age {b:Aa} (h:Ax b) {l:List Ab} (hl:Fa b l) {x:Ab} (hx:Ct b x) {n:Nat} (hat:At l x n) (hnot:l[n]? ≠ some x) (hlen:l.length<32):Fa b (E7 l n x):=by
 have hs:=H4 h hl
 have hsm:∀ y,y∈l->Da y:=λ y hy=>(hl.mem y hy).small h
 have hxs:=hx.small h
 refine⟨by simp [E7];omega,λ y hy=>?_,λ j y z hy hz=>?_⟩
 ·rcases Ara hy with rfl | hy
  ·exact hx
  ·exact hl.mem y hy
 ·rcases Q7 hat.le hy with⟨a1,a2⟩ | ⟨a1,a2⟩ | ⟨a1,a2⟩ <;> rcases Q7 hat.le hz with⟨b1,b2⟩ | ⟨b1,b2⟩ | ⟨b1,b2⟩
  ·exact hl.asc j y z a2 b2
  ·subst b2
   exact (zZ (hsm y (ae a2)) hxs).2 (hat.lo j y a1 a2)
  ·omega
  ·omega
  ·omega
  ·subst a2
   have e:j+1-1=n:=by omega
   rw [e] at b2
   have hzm:=hsm z (ae b2)
   refine (zZ hxs hzm).2 ?_
   have h1:=hat.hi n z (af _) b2
   rcases Int.lt_or_eq_of_le h1 with h1 | h1
   ·exact h1
   ·exact absurd (by rw [b2,At0 hxs hzm h1]) hnot
  ·omega
  ·omega
  ·have e:j+1-1=j-1+1:=by omega
   rw [e] at b2
   exact hl.asc (j-1) y z a2 b2
theorem At.ins {l:List Ab} {x:Ab} {n:Nat} (hat:At l x n):At (E7 l n x) x n:=by
 refine⟨by have:=hat.le;simp [E7];omega,λ j y hj hy=>?_,λ j y hj hy=>?_⟩
 ·rcases Q7 hat.le hy with⟨_,a2⟩ | ⟨a1,_⟩ | ⟨a1,_⟩
  ·exact hat.lo j y hj a2
  ·omega
  ·omega
 ·rcases Q7 hat.le hy with⟨a1,_⟩ | ⟨_,a2⟩ | ⟨a1,a2⟩
  ·omega
  ·subst a2;exact Int.le_refl _
  ·exact hat.hi (j-1) y (by omega) a2
theorem Avj {l:List Ab} {n:Nat} (hn:n<=l.length) (x:Ab):(E7 l n x)[n]? = some x:=by
 unfold E7
 rw [aQ (by simp;omega)]
 have:n-(l.take n).length=0:=by simp;omega
 rw [this];rfl
def Lm (ss:List Aj) (x:Ab) (st:Int):List Aj:=if x.Kind=1 then ss.set x.Number.toNat ⟨st,(ss.getD x.Number.toNat default).Since,(ss.getD x.Number.toNat default).Aq,(ss.getD x.Number.toNat default).Phase⟩ else ss
theorem Tq (ss:List Aj) (x:Ab) (st:Int):(Lm ss x st).length=ss.length:=by unfold Lm;split <;> simp
theorem Abx {ss:List Aj} (h:∀ x,x∈ss->D9 x) {x:Ab} (hx:x.Kind=1->0<=x.Number/\x.Number<ss.length) {st:Int} (hst:0<=st/\st<=3):∀ y,y∈Lm ss x st->D9 y:=by
 unfold Lm
 split
 ·rename_i hk
  have hn:=hx hk
  obtain⟨u,hu⟩:∃ u,ss[x.Number.toNat]? = some u:=⟨_,ai (by omega)⟩
  have hd:ss.getD x.Number.toNat default=u:=by simp [List.getD,hu]
  intro y hy
  rcases cD hy with hy | hy
  ·exact h y hy
  ·subst hy
   rw [hd]
   have:=h u (ae hu)
   exact⟨hst,this.2⟩
 ·exact h
theorem Avq {b:Aa} (h:Ax b) {p:Ad} (hp:Av b p) {x:Ab} (hx:Ct b x) (t:Int) {n:Nat} (hat:At p.Al x n) (hnot:p.Al[n]? ≠ some x) (hlen:p.Al.length<32) :
  Jd ⟨b,p,t⟩ x true=some (0,⟨b,⟨p.Ai,Lm p.Ae x 3,p.An,E7 p.Al n x⟩,t⟩):=by
 have hs:=H4 h hp.brk
 have hsm:∀ y,y∈p.Al->Da y:=λ y hy=>(hp.brk.mem y hy).small h
 refine d5 ?_
 unfold Jd
 refine (Oe hs hsm (hx.small h) (by omega)).bind λ y hy=>?_
 obtain⟨m,e1,hat2,hf⟩:=hy
 have e2:=hat.uniq hat2
 subst e2
 have hf2:y.2=false:=by
  cases hb:y.2 with
  | false=>rfl
  | true=>exact absurd (hf.1 hb) hnot
 refine c6 (λ hc=>by rw [hf2] at hc;simp at hc) (λ _=>c6 (λ hc=>?_) (λ _=>?_))
 ·simp [Rt] at hc;omega
 refine Ok.andThen (A:=λ z=>z=E7 p.Al n x) (B:=λ (_:Unit)=>False) ?_ ?_ (λ _ h=>h.elim)
 ·unfold Uw
  rw [e1,Al6 hat.le (by omega)]
  exact d7 rfl
 ·rintro z rfl
  unfold Lm
  refine c6 (λ hk=>?_) (λ hk=>?_)
  ·simp only [dG] at hk
   have hn:0<=x.Number/\x.Number<p.Ae.length:=by
    have:=hp.nso
    unfold Ct at hx
    omega
   rw [if_pos hk]
   refine (cV hn.1 hn.2).bind λ u hu=>(cY hn.1 hn.2).bind λ v hv=>?_
   have hd:p.Ae.getD x.Number.toNat default=u:=by simp [List.getD,hu]
   have hvg:v[x.Number.toNat]? = some (⟨0,u.Since,u.Aq,u.Phase⟩:Aj):=by rw [hv,bD (by omega)]
   simp only [cond_true]
   refine Ok.bind (P:=λ w=>w=(⟨0,u.Since,u.Aq,u.Phase⟩:Aj)) ((cV hn.1 (by rw [hv];simpa using hn.2)).mono λ w hw=>by rw [hvg] at hw;cases hw;rfl) λ w hw=>?_
   subst hw
   refine (cY hn.1 (by rw [hv];simpa using hn.2)).bind λ z hz=>Ok.pure ?_
   rw [hz,hv,List.set_set,hd]
  ·simp only [dH,ne_eq] at hk
   rw [if_neg hk]
   exact Ok.pure rfl
theorem Avb {b:Aa} (h:Ax b) {p:Ad} (hbl:Fa b p.Al) {q:Ad} {x:Ab} (hx:Ct b x) (t:Int) {n:Nat} (hat:At p.Al x n) (hnot:p.Al[n]? ≠ some x) (hlen:p.Al.length<32)
  (hq:q.Al=E7 p.Al n x) (hqs:q.Ae.length=b.Ae.length):Jd ⟨b,q,t⟩ x false=some (0,⟨b,⟨q.Ai,Lm q.Ae x 0,q.An,p.Al⟩,t⟩):=by
 have hbl2:Fa b q.Al:=by rw [hq];exact Age h hbl hx hat hnot hlen
 have hs:=H4 h hbl2
 have hsm:∀ y,y∈q.Al->Da y:=λ y hy=>(hbl2.mem y hy).small h
 refine d5 ?_
 unfold Jd
 refine (Oe hs hsm (hx.small h) (by have:=hbl2.len;omega)).bind λ y hy=>?_
 obtain⟨m,e1,hat2,hf⟩:=hy
 rw [hq] at hat2 hf
 have e2:=hat.ins.uniq hat2
 subst e2
 have hf2:y.2=true:=hf.2 (Avj hat.le x)
 refine c6 (λ hc=>by rw [hf2] at hc;simp at hc) (λ _=>c6 (λ hc=>?_) (λ _=>?_))
 ·simp [Rt] at hc
 refine Ok.andThen (A:=λ z=>z=p.Al) (B:=λ (_:Unit)=>False) ?_ ?_ (λ _ h=>h.elim)
 ·unfold Uw
  have hle:=hat.le
  rw [e1,A0 (by omega)]
  simp only [cond_false,hq]
  rw [Amy hat.le]
  exact d7 rfl
 ·rintro z rfl
  unfold Lm
  refine c6 (λ hk=>?_) (λ hk=>?_)
  ·simp only [dG] at hk
   have hn:0<=x.Number/\x.Number<q.Ae.length:=by
    unfold Ct at hx
    omega
   rw [if_pos hk]
   refine (cV hn.1 hn.2).bind λ u hu=>(cY hn.1 hn.2).bind λ v hv=>?_
   have hd:q.Ae.getD x.Number.toNat default=u:=by simp [List.getD,hu]
   simp only [cond_false]
   exact Ok.pure (by rw [hv,hd])
  ·simp only [dH,ne_eq] at hk
   rw [if_neg hk]
   exact Ok.pure rfl
def Avo (p:Ad) (x:Ab) (n:Nat):Ad:=⟨p.Ai,Lm p.Ae x 3,p.An,E7 p.Al n x⟩
theorem Ai4 {b:Aa} (h:Ax b) {p:Ad} (hp:Av b p) {x:Ab} (hx:Ct b x) {n:Nat} (hat:At p.Al x n) (hnot:p.Al[n]? ≠ some x) (hlen:p.Al.length<32):Av b (Avo p x n) where
 ncl:=hp.ncl
 nso:=by show (Lm p.Ae x 3).length=_;rw [Tq];exact hp.nso
 nli:=hp.nli
 run:=Abx hp.run (λ hk=>by have:=hp.nso;unfold Ct at hx;omega) (by omega)
 lim:=hp.lim
 one:=hp.one
 brk:=Age h hp.brk hx hat hnot hlen
theorem Nl (b:Aa) (k n:Int):Hy b k n=true↔Ct b ⟨k,n⟩:=by
 unfold Hy Ct
 dsimp only
 by_cases h1:k=1
 ·subst h1;simp
 rw [dH.2 h1,cond_false]
 by_cases h2:k=2
 ·subst h2;simp
 rw [dH.2 h2,cond_false]
 by_cases h3:k=3
 ·subst h3;simp
 rw [dH.2 h3,cond_false]
 by_cases h4:k=4
 ·subst h4;simp
 rw [dH.2 h4,cond_false]
 simp only [ab,dE]
 omega
theorem A24 {b:Aa} (h:Ax b) {l:List Ab} (hl:Fa b l) {x:Ab} (hx:Ct b x):∃ n,At l x n:=by
 have hs:=H4 h hl
 obtain⟨y,_,n,_,hat,_⟩:=Oe hs (λ y hy=>(hl.mem y hy).small h) (hx.small h) (by have:=hl.len;omega)
 exact⟨n,hat⟩
theorem LeB.get {s t:List Bool} (h:LeB s t) {i:Nat} {x y:Bool} (hx:s[i]? = some x) (hy:t[i]? = some y):(x && !y)=false:=by
 cases x with
 | false=>rfl
 | true=>
  have:=h.2 i hx
  rw [hy] at this;cases this;rfl
theorem Avv {b:Aa} (h:Ax b) {p:Ad} (hp:Av b p):F76 p=some p:=by
 have hl:=hp.lens h
 have h1:=hl.c
 have h2:=hl.s
 have h3:=hl.l
 have h4:=hl.k
 unfold F76
 rw [Hj (by omega),Hj (by omega),Hj (by omega),Hj (by omega)]
 rfl
theorem d9 {α:Type} {l:List (Bool×Bool)} {x:Option α} {d:α} {P:α->Prop} (hx:Dc l->Ok x λ _=>True) (hr:∀ y,P y):Ok (Ar l x d) P:=
 cT (λ h=>(hx h).mono λ y _=>hr y) λ _=>hr d
theorem dg {α:Type} {x:Option α} {v:α} (h:x=some v):Ok x λ _=>True:=⟨v,h,trivial⟩
theorem Aur {x like:Aj} (hx:D9 x) (hl:D9 like):D9 (Wo like x):=⟨hx.1,hx.2.1,hl.2.2.1,hl.2.2.2⟩
theorem M5 {ss:List Aj} (h:∀ x,x∈ss->D9 x) {n:Nat} {y:Aj} (hy:D9 y):∀ x,x∈ss.set n y->D9 x:=λ x hx=>by
 rcases cD hx with hx | hx
 ·exact h x hx
 ·exact hx ▸ hy
theorem Abl {ss:List Aj} (h:∀ x,x∈ss->D9 x) {n:Nat} (hn:n<ss.length):D9 (ss.getD n default):=by
 have:ss.getD n default=ss[n]:=by simp [List.getD,List.getElem?_eq_getElem hn]
 rw [this];exact h _ (List.getElem_mem hn)
theorem Qu {like:Aj} (hl:D9 like):∀ (idx:List Int) (ss:List Aj),(∀ i,i∈idx->0<=i/\i<ss.length)->(∀ x,x∈ss->D9 x)->∀ x,x∈Fq like idx ss->D9 x
 | [],_,_,h=>h
 | i::idx,ss,hi,h=>by
  have h0:=hi i ak
  refine Qu hl idx _ (λ j hj=>?_) (M5 h (Aur (Abl h (by omega)) hl))
  have:=hi j (al _ hj)
  simpa using this
theorem Abn {b:Aa} {p:Ad} (hp:Av b p):∀ (l:List Ap) (s:List Aj),(∀ x,x∈l->∀ i,i∈x.Ae->0<=i/\i<b.Ae.length)->s.length=p.Ae.length->(∀ x,x∈s->D9 x)->∀ x,x∈l.foldl (Dq p) s->D9 x
 | [],_,_,_,h=>h
 | y::l,s,hi,hs,h=>by
  refine Abn hp l _ (λ x hx=>hi x (al _ hx)) (by rw [Nw,hs]) ?_
  have h0:=hi y ak
  have hn:=hp.nso
  unfold Dq
  split
  ·exact h
  ·rename_i i r e
   rw [e] at h0
   have h1:=h0 i ak
   rw [e]
   exact Qu (Abl hp.run (by omega)) _ _ (λ j hj=>by have:=h0 j hj;omega) h
theorem Rc {b:Aa} {p:Ad} (hp:Av b p):∀ x,x∈Fp b p->D9 x:=
 Abn hp _ _ (λ _ hx=>Pv hx) rfl hp.run
theorem Ka {b:Aa} {p:Ad} (hp:Av b p) {ss:List Aj} (hl:ss.length=p.Ae.length) (hr:∀ x,x∈ss->D9 x):Av b ⟨p.Ai,ss,p.An,p.Al⟩ where
 ncl:=hp.ncl
 nso:=hl.trans hp.nso
 nli:=hp.nli
 run:=hr
 lim:=hp.lim
 one:=hp.one
 brk:=hp.brk
theorem Aii {b:Aa} {p:Ad} (hp:Av b p) (j:Nat):Av b ⟨p.Ai.set j false,p.Ae,p.An,p.Al⟩ where
 ncl:=by simpa using hp.ncl
 nso:=hp.nso
 nli:=hp.nli
 run:=hp.run
 lim:=hp.lim
 one i hi:=by
  refine aw (Abv (by simp) (λ k hk=>?_) i) (hp.one i hi)
  rw [ay] at hk
  split at hk
  ·split at hk <;> cases hk
  ·exact hk
 brk:=hp.brk
theorem Amd {l:List Ak}:∀ {c:List Bool} {j:Nat} {x:Ak},l[j]? = some x->∀ i:Nat,(C7 l (c.set j true) i).length<=(C7 l c i).length+(if x.Kind=3/\x.B=(i:Int) then 1 else 0):=by
 induction l with
 | nil=>intro c j x h;simp at h
 | cons y l ih=>
  intro c j x h i
  cases c with
  | nil=>simp [C7]
  | cons v c=>
   cases j with
   | zero=>
    simp only [List.getElem?_cons_zero,ah] at h
    subst h
    simp only [List.set_cons_zero,C7,cj,aT]
    by_cases hk:y.Kind=3/\y.B=(i:Int)
    ·rw [if_pos hk]
     simp only [hk.1,hk.2,beq_self_eq_true,bv,bG,if_true]
     split <;> simp
    ·rw [if_neg hk]
     have:(y.Kind==3&&y.B==(i:Int))=false:=by
      rw [cm];intro e
      simp only [ab,dG] at e
      exact hk e
     simp [this]
   | succ j=>
    simp only [cv] at h
    have:=ih (c:=c) h i
    simp only [List.set_cons_succ,C7,cj,aT] at this ⊢
    split <;> simp at this ⊢ <;> omega
theorem Ame {b:Aa} {p:Ad} {i:Nat} (h:E6 b p 3 (i:Int)=none):C7 b.Ah p.Ai i=[]:=by
 unfold E6 at h
 rw [Option.map_eq_none_iff,List.find?_eq_none] at h
 unfold C7
 rw [cK]
 exact h
theorem Azm {b:Aa} {p:Ad} (hp:Av b p) {j:Nat} {x:Ak} (hx:b.Ah[j]? = some x) (hf:x.Kind=3->E6 b p 3 x.B=none):Av b ⟨p.Ai.set j true,p.Ae,p.An,p.Al⟩ where
 ncl:=by simpa using hp.ncl
 nso:=hp.nso
 nli:=hp.nli
 run:=hp.run
 lim:=hp.lim
 one i hi:=by
  have h1:=Amd (c:=p.Ai) hx i
  have h2:=hp.one i hi
  dsimp only
  split at h1
  ·rename_i hk
   have h3:=hf hk.1
   rw [hk.2] at h3
   rw [Ame h3] at h1
   simpa using h1
  ·omega
 brk:=hp.brk
theorem Au5 {b:Aa} (h:Ax b) {p:Ad} (hp:Av b p) (i:Int):Ok (Aj6 b p i) λ y=>y.2≠0\/Av b y.1:=by
 have hbl:p.Al.length<=1000:=by have:=hp.brk.len;omega
 have hn:=hp.ncl
 unfold Aj6
 rw [E2 h hp,Hh h hp]
 simp only [ac]
 refine c6 (λ hc=>by simp at hc) (λ _=>c6 (λ _=>Ok.pure (.inl (by simp))) (λ hr=>?_))
 simp only [Ana,bz,dF] at hr
 refine (cV (by omega) (by omega)).bind λ v _=>Ok.bind (P:=λ _=>True) (d9 (λ _=>dg (Gy hbl _ _)) λ _=>trivial) λ _ _=>?_
 refine c6 (λ _=>Ok.pure (.inl (by simp))) (λ _=>?_)
 exact (cV (by omega) (by omega)).bind λ _ _=>(cY (by omega) (by omega)).bind λ z hz=>Ok.pure (.inr (by rw [hz];exact Aii hp _))
theorem Atw {b:Aa} (h:Ax b) {p:Ad} (hp:Av b p) (n:Int):Ok (Jv b p n) λ y=>∀ i,i∈y.1.Ae->0<=i/\i<p.Ae.length:=by
 have hn:=hp.nso
 unfold Jv
 rw [Ko h hp]
 simp only [ac]
 refine Ok.andThen (A:=λ _=>True) (B:=λ y=>∀ i,i∈y.1.Ae->0<=i/\i<p.Ae.length) ?_ (λ _ _=>Ok.pure (λ i hi=>by cases hi)) (λ v hv=>Ok.pure hv)
 refine c8 (I:=λ _ _=>True) trivial (λ j x s hx _=>?_) λ s _=>trivial
 have hmem:=ae hx
 have hbl:x.Am.length<=9223372036854775807:=by
  unfold B_ at hmem
  obtain⟨f,_,rfl⟩:=ao.1 (ax.1 hmem).1
  have:=E9 (λ i=>(groups b p).getD i 0==(f:Int)) b.Am.toNat
  have:=h.buses
  simp only [isl,E_]
  omega
 unfold Qh
 rw [Ge _ _ hbl]
 simp only [ac]
 refine c6 (λ _=>Ok.ret λ i hi=>?_) (λ _=>c7 trivial)
 have:=Pv hmem i hi
 omega
theorem A3l {b:Aa} (h:Ax b) {p:Ad} (hp:Av b p) (n:Int):Ok (Jv b p n) λ y=>y.1.Am.length<=9223372036854775807:=by
 unfold Jv
 rw [Ko h hp]
 simp only [ac]
 refine Ok.andThen (A:=λ _=>True) (B:=λ y=>y.1.Am.length<=9223372036854775807) ?_ (λ _ _=>Ok.pure (by simp)) (λ v hv=>Ok.pure hv)
 refine c8 (I:=λ _ _=>True) trivial (λ j x s hx _=>?_) λ s _=>trivial
 have hmem:=ae hx
 have hbl:x.Am.length<=9223372036854775807:=by
  unfold B_ at hmem
  obtain⟨f,_,rfl⟩:=ao.1 (ax.1 hmem).1
  have:=E9 (λ i=>(groups b p).getD i 0==(f:Int)) b.Am.toNat
  have:=h.buses
  simp only [isl,E_]
  omega
 unfold Qh
 rw [Ge _ _ hbl]
 simp only [ac]
 exact c6 (λ _=>Ok.ret hbl) (λ _=>c7 trivial)
theorem Tb {b:Aa} (h:Ax b) {p:Ad} (hp:Av b p) (n:Int):Ok (qW b p n) λ y=>y.2=true->0<=y.1/\y.1<p.Ae.length:=by
 unfold qW
 refine (Atw h hp n).bind λ y hy=>?_
 refine c6 (λ _=>Ok.pure (λ e=>by cases e)) (λ hc=>?_)
 simp only [dH,ne_eq] at hc
 exact (cV (by omega) (by omega)).bind λ z hz=>Ok.pure λ _=>hy z (ae hz)
theorem d8 {α:Type} {l:List α} {i:Int} (h0:0<=i) (h1:i<l.length):Ok (getI l i) λ _=>True:=(cV h0 h1).mono λ _ _=>trivial
theorem Aus {b:Aa} (h:Ax b) {p:Ad} (hp:Av b p) {j:Nat} {x:Ak} (hx:b.Ah[j]? = some x):Ok (Aj0 b p x) λ _=>True:=by
 have hn:=hp.nso
 have hb:=h.br x (ae hx)
 unfold R9 at hb
 unfold Aj0
 refine (Tb h hp _).bind λ y hy=>?_
 refine c6 (λ _=>Ok.pure trivial) (λ h2=>?_)
 simp only [cL] at h2
 have hy:=hy h2
 refine c6 (λ _=>?_) (λ _=>c6 (λ hk=>?_) (λ _=>Ok.pure trivial))
 ·refine (Tb h hp _).bind λ z hz=>?_
  refine Ok.bind (P:=λ _=>True) (d9 (λ _=>d8 hy.1 hy.2) λ _=>trivial) λ _ _=>?_
  refine Ok.bind (P:=λ _=>True) (d9 (λ hg=>?_) λ _=>trivial) λ _ _=>Ok.pure trivial
  have:=hz (by have:=hg.1;simpa using this)
  exact d8 this.1 this.2
 ·simp only [dG] at hk
  exact (d8 hy.1 hy.2).bind λ _ _=>(d8 (by omega) (by omega)).bind λ _ _=>Ok.pure trivial
theorem Al2 {o:Option Int}:(Fj o).2=false->o=none:=by
 cases o with
 | none=>intro _;rfl
 | some a=>intro e;cases e
theorem Ap9 {b:Aa} (h:Ax b) {p:Ad} (hp:Av b p) {j:Int} (h0:0<=j) (h1:j<b.Ah.length):Ok (Aj1 b p j) λ y=>y=true->∀ x,b.Ah[j.toNat]? = some x->x.Kind=3->E6 b p 3 x.B=none:=by
 have hbl:p.Al.length<=1000:=by have:=hp.brk.len;omega
 have hn:=hp.nso
 have hc:=hp.ncl
 unfold Aj1
 refine (cV h0 h1).bind λ x hx=>(d8 h0 (by omega)).bind λ _ _=>?_
 have hb:=h.br x (ae hx)
 unfold R9 at hb
 refine Ok.bind (P:=λ _=>True) (d9 (λ _=>dg (Gy hbl _ _)) λ _=>trivial) λ _ _=>?_
 refine Ok.bind (P:=λ _=>True) (d9 (λ _=>dg (Gy hbl _ _)) λ _=>trivial) λ _ _=>?_
 refine c6 (λ _=>Ok.pure (λ e=>by cases e)) (λ _=>?_)
 refine c6 (λ hk=>?_) (λ hk1=>c6 (λ hk=>?_) (λ hk2=>?_))
 ·simp only [dG] at hk
  rw [Gy hbl]
  refine Ok.pure λ _ y hy hy3=>?_
  rw [hx] at hy;cases hy;omega
 ·simp only [dG] at hk
  rw [Gy hbl]
  simp only [ac]
  refine Ok.bind (P:=λ _=>True) (d9 (λ _=>d8 (by omega) (by omega)) λ _=>trivial) λ _ _=>Ok.pure λ _ y hy hy3=>?_
  rw [hx] at hy;cases hy;omega
 ·unfold Aem
  rw [E2 h hp,Abw h hc,Gy hbl]
  simp only [ac,dM,cond_false]
  refine Ok.pure λ e y hy hy3=>?_
  rw [hx] at hy;cases hy
  simp only [ab,aX] at e
  exact Al2 e.2
theorem Axv {b:Aa} (h:Ax b) {p:Ad} (hp:Av b p) (j:Int):Ok (Aj3 b p j) λ y=>y≠0\/((0<=j/\j<b.Ah.length)/\∀ x,b.Ah[j.toNat]? = some x->x.Kind=3->E6 b p 3 x.B=none):=by
 unfold Aj3
 rw [E2 h hp]
 simp only [ac]
 refine c6 (λ hc=>by simp at hc) (λ _=>c6 (λ _=>Ok.pure (.inl (by simp))) (λ hr=>?_))
 simp only [Am7,bz,dF] at hr
 refine (Ap9 h hp (by omega) (by omega)).bind λ y hy=>?_
 refine c6 (λ _=>Ok.pure (.inl (by simp))) (λ h2=>?_)
 simp only [cL] at h2
 have hy:=hy h2
 refine (cV (by omega) (by omega)).bind λ x hx=>(A3l h hp x.A).bind λ z hz=>?_
 refine Ok.bind (P:=λ _=>True) (d9 (λ _=>dg (Ge _ _ hz)) λ _=>trivial) λ _ _=>?_
 refine Ok.bind (P:=λ _=>True) (d9 (λ _=>Aus h hp hx) λ _=>trivial) λ _ _=>?_
 exact c6 (λ _=>Ok.pure (.inl (by simp))) (λ _=>Ok.pure (.inr ⟨⟨by omega,by omega⟩,hy⟩))
theorem Arx {b:Aa} (h:Ax b) {p:Ad} (hp:Av b p) (i:Int):Ok (Aj7 b p i) λ y=>y.2≠0\/Av b y.1:=by
 have hn:=hp.ncl
 unfold Aj7
 rw [Hh h hp]
 simp only [ac]
 refine (Axv h hp i).bind λ y hy=>c6 (λ hc=>Ok.pure (.inl (by simpa using hc))) (λ hc=>?_)
 simp only [dL] at hc
 rcases hy with hy | ⟨hr,hf⟩
 ·exact absurd hc hy
 ·refine (cV hr.1 (by omega)).bind λ _ _=>(cY hr.1 (by omega)).bind λ z hz=>?_
  obtain⟨x,hx⟩:∃ x,b.Ah[i.toNat]? = some x:=⟨_,ai (by omega)⟩
  have hq:=Azm hp hx (hf x hx)
  rw [←hz] at hq
  rw [Tm h hq]
  exact Ok.pure (.inr (Ka hq (Iw _ _) (Rc hq)))
theorem Aqz {b:Aa} (h:Ax b) {p:Ad} (hp:Av b p) (i n:Int):Ok (Aj5 b p i n) λ y=>y.2≠0\/Av b y.1:=by
 have hn:=hp.nso
 unfold Aj5
 rw [E2 h hp,Hh h hp]
 simp only [ac]
 refine c6 (λ hc=>by simp at hc) (λ _=>c6 (λ _=>Ok.pure (.inl (by simp))) (λ hr=>?_))
 simp only [Am9,bz,dF] at hr
 refine (Tb h hp n).bind λ y hy=>?_
 refine Ok.bind (P:=λ _=>True) (d9 (λ _=>d8 (by omega) (by omega)) λ _=>trivial) λ u _=>?_
 refine c6 (λ _=>Ok.pure (.inl (by simp))) (λ hc=>?_)
 simp only [bz,cL] at hc
 have hy:=hy hc.1
 unfold Ata
 rw [E2 h hp,T5 h hp]
 simp only [ac,dM,cond_false]
 have hrun:∀ w,p.Ae[y.1.toNat]? = some w->D9 w:=λ w hw=>hp.run w (ae hw)
 refine c6 (λ _=>?_) (λ _=>?_)
 ·refine (Atw h hp _).bind λ z hz=>(cV hy.1 hy.2).bind λ w hw=>?_
  rw [Aap hz]
  exact Ok.pure (.inr (Ka hp (Ht _ _ _) (Qu (hrun w hw) _ _ hz hp.run)))
 ·refine (cV hy.1 hy.2).bind λ w hw=>?_
  have hz:∀ k,k∈[i]->0<=k/\k<p.Ae.length:=λ k hk=>by
   simp only [aC] at hk
   subst hk;omega
  rw [Aap hz]
  exact Ok.pure (.inr (Ka hp (Ht _ _ _) (Qu (hrun w hw) _ _ hz hp.run)))
theorem Tc {b:Aa} (h:Ax b) {p:Ad} (hc:p.Ai.length=b.Ah.length) (t:Int) {i:Int} (h0:0<=i) (h1:i<b.Ae.length):Ok (Qg ⟨b,p,t⟩ i) λ _=>True:=by
 obtain⟨j,x,e,hx,_⟩:=Ajn h h0 h1
 have hj:=(aa.1 hx).1
 unfold Qg
 rw [Ajo h,e]
 simp only [ac]
 exact (d8 (by omega) (by omega)).bind λ _ _=>Ok.pure trivial
def V5 (b:Aa) (y:Int×Bc):Prop:=y.1≠0\/Av b y.2.Au
theorem Ap7 {b:Aa} (h:Ax b) {p:Ad} (hp:Av b p) {t:Int} (ht:0<=t/\t<=2147483648) {i:Int} (h0:0<=i) (h1:i<b.Ae.length):Ok (Zf ⟨b,p,t⟩ i) (V5 b):=by
 have hn:=hp.nso
 have hbl:p.Al.length<=1000:=by have:=hp.brk.len;omega
 unfold Zf
 refine (d8 h0 (by dsimp only;omega)).bind λ u _=>Ok.bind (P:=λ _=>True) (d9 (λ _=>dg (Gy hbl _ _)) λ _=>trivial) λ _ _=>?_
 refine c6 (λ _=>Ok.pure (.inl (by simp))) (λ _=>(d8 h0 h1).bind λ s _=>?_)
 refine Ok.bind (P:=λ _=>True) (d9 (λ _=>Tc h hp.ncl t h0 h1) λ _=>trivial) λ _ _=>?_
 refine c6 (λ _=>?_) (λ _=>?_)
 ·exact (cY h0 (by dsimp only;omega)).bind λ z hz=>Ok.pure (.inr (by
   rw [hz]
   exact Ka hp (by simp) (M5 hp.run ⟨by dsimp only;omega,ht,by dsimp only;omega,by dsimp only;omega⟩)))
 ·exact (cY h0 (by dsimp only;omega)).bind λ z hz=>Ok.pure (.inr (by
   rw [hz]
   exact Ka hp (by simp) (M5 hp.run ⟨by dsimp only;omega,ht,by dsimp only;omega,by dsimp only;omega⟩)))
theorem Aut {b:Aa} (h:Ax b) {p:Ad} (hp:Av b p) {t:Int} {i:Int} (h0:0<=i) (h1:i<b.Ae.length):Ok (Ze ⟨b,p,t⟩ i) (V5 b):=by
 have hn:=hp.nso
 unfold Ze
 refine (cV h0 (by dsimp only;omega)).bind λ u hu=>?_
 have hr:=hp.run u (ae hu)
 refine Ok.bind (P:=λ _=>True) (d9 (λ _=>Tc h hp.ncl t h0 h1) λ _=>trivial) λ _ _=>?_
 refine c6 (λ _=>Ok.pure (.inl (by simp))) (λ _=>(cY h0 (by dsimp only;omega)).bind λ z hz=>Ok.pure (.inr ?_))
 rw [hz]
 exact Ka hp (by simp) (M5 hp.run ⟨by dsimp only;omega,hr.2⟩)
theorem Aq0 {b:Aa} {p:Ad} (hp:Av b p) {t:Int} {i v:Int} (h0:0<=i) (h1:i<b.Ag.length):Ok (Zd ⟨b,p,t⟩ i v) (V5 b):=by
 have hn:=hp.nli
 unfold Zd
 refine Ok.bind (P:=λ y=>0<=v->b.Ag[i.toNat]? = some y) (cT (λ _=>(cV h0 h1).mono λ y hy _=>hy) λ hg hv=>(hg ⟨by simp;omega,trivial⟩).elim) λ c hc=>?_
 refine c6 (λ _=>Ok.pure (.inl (by simp))) (λ hr=>?_)
 simp only [Acp,bz,dF] at hr
 have hc:=hc (by omega)
 refine (d8 h0 (by dsimp only;omega)).bind λ _ _=>(cY h0 (by dsimp only;omega)).bind λ z hz=>Ok.pure (.inr ?_)
 subst hz
 exact {
  ncl:=hp.ncl
  nso:=hp.nso
  nli:=by simpa using hp.nli
  run:=hp.run
  lim:=λ k m y hk hy=>by
   dsimp only at hk
   rw [ay] at hk
   split at hk
   ·rename_i e
    split at hk
    ·cases hk
     rw [←e,hc] at hy;cases hy;omega
    ·cases hk
   ·exact hp.lim k m y hk hy
  one:=hp.one
  brk:=hp.brk}
theorem Au8 (x:Int):0<=E0 x/\E0 x<=3599:=by
 have:=Qr (x:=x) (n:=3600) (by omega)
 unfold E0
 by_cases h:Int.tmod x 3600<0
 ·rw [dJ h,cond_true,A0 (by omega)];omega
 ·rw [dK h,cond_false];omega
theorem Auq {b:Aa} (h:Ax b) {p:Ad} (hp:Av b p):Ok (Aj2 b p) λ y=>Av b y.1/\y.1.Ai=p.Ai/\y.2=0:=by
 have hs:=h.sol
 have hn:=hp.nso
 unfold Aj2
 rw [E2 h hp,Hh h hp]
 simp only [ac]
 refine c6 (λ hc=>by simp at hc) (λ _=>?_)
 refine Ok.andThen (A:=λ s=>s.length=p.Ae.length/\∀ x,x∈s->D9 x) (B:=λ (_:Unit)=>False) ?_ (λ s hs=>Ok.pure ⟨Ka hp hs.1 hs.2,rfl,rfl⟩) (λ _ h=>h.elim)
 refine c8 (I:=λ _ s=>s.length=p.Ae.length/\∀ x,x∈s->D9 x) ⟨rfl,hp.run⟩ (λ j x s hx hs=>?_) λ s hs=>hs
 have hj:=(aa.1 hx).1
 have hcnt:cnt 0 j=(j:Int):=Cw (by omega)
 unfold Ag1
 rw [hcnt]
 refine c6 (λ _=>?_) (λ _=>c7 hs)
 refine (cV (by omega) (by omega)).bind λ u hu=>(cY (by omega) (by omega)).bind λ z hz=>c7 ?_
 have hr:=hs.2 u (ae hu)
 rw [hz]
 exact⟨by simpa using hs.1,M5 hs.2 ⟨hr.1,hr.2.1,hr.2.2.1,Au8 _⟩⟩
theorem Aup {b:Aa} (h:Ax b) {p:Ad} (hp:Av b p) (t:Int):Ok (Zc ⟨b,p,t⟩) λ y=>Av b y.Au:=by
 have hso:=h.sol
 unfold Zc
 refine (Auq h hp).bind λ ⟨q,e⟩ hq=>?_
 dsimp only at hq ⊢
 obtain⟨hq,_,_⟩:=hq
 have hn:=hq.nso
 refine Ok.andThen (A:=λ s=>s.2.length=q.Ae.length/\∀ x,x∈s.2->D9 x) (B:=λ (_:Unit)=>False) ?_ (λ s hs=>Ok.pure (Ka hq hs.1 hs.2)) (λ _ h=>h.elim)
 refine c9 (λ s=>(0<=s.1/\s.1<=(q.Ae.length:Int))/\s.2.length=q.Ae.length/\∀ x,x∈s.2->D9 x) (λ s=>((q.Ae.length:Int)-s.1).toNat) _ _ ?_ ?_ ?_
 ·exact⟨by dsimp only;omega,rfl,hq.run⟩
 ·dsimp only;omega
 ·rintro⟨i,s⟩ ⟨⟨h1,h2⟩,h3,h4⟩
  dsimp only at h1 h2 h3 h4
  unfold zC Aco
  dsimp only
  refine c6 (λ hc=>?_) (λ _=>cX ⟨h3,h4⟩)
  simp only [dE] at hc
  have e1:w64 (i+1)=i+1:=A0 (by omega)
  refine (cV h1 (by omega)).bind λ u hu=>?_
  have hr:=h4 u (ae hu)
  refine Ok.bind (P:=λ _=>True) (d9 (λ _=>Tc h hq.ncl t h1 (by omega)) λ _=>trivial) λ _ _=>?_
  refine Ok.bind (P:=λ _=>True) (d9 (λ _=>d8 h1 (by omega)) λ _=>trivial) λ _ _=>?_
  rw [e1]
  refine c6 (λ _=>?_) (λ _=>c7 ⟨⟨by dsimp only;omega,h3,h4⟩,by dsimp only;omega⟩)
  refine (cY h1 (by omega)).bind λ z hz=>c7 ⟨⟨by dsimp only;omega,?_,?_⟩,by dsimp only;omega⟩
  ·dsimp only;rw [hz];simpa using h3
  ·dsimp only;rw [hz];exact M5 h4 ⟨by dsimp only;omega,hr.2⟩
theorem bet {x lo hi:Int} (h:lo<=x/\x<=hi):Ce x lo hi=true:=(J_ x lo hi).2 h
def ofL (b:Aa) (q:Ak->Bool):List Int:=(b.Ah.zipIdx.filter λ z=>q z.1).map λ z=>(z.2:Int)
theorem Aa6 {b:Aa} (h:Ax b) (k i:Int):R6 b k i=some (ofL b λ x=>Kt k i x):=by
 have hb:=h.brl
 refine d5 ?_
 unfold R6
 refine Ok.andThen (A:=λ s=>s=ofL b λ x=>Kt k i x) (B:=λ (_:Unit)=>False) ?_ (λ s hs=>Ok.pure hs) (λ _ h=>h.elim)
 refine c8 (I:=λ j s=>s=((b.Ah.zipIdx.take j).filter λ z=>Kt k i z.1).map λ z=>(z.2:Int)) rfl (λ j x s hx hs=>?_) λ s hs=>?_
 ·have hj:=(aa.1 hx).1
  have hcnt:cnt 0 j=(j:Int):=Cw (by omega)
  have hz:b.Ah.zipIdx[j]? = some (x,j):=by rw [List.getElem?_zipIdx,hx];simp
  have hsl:s.length<=j:=by
   rw [hs,au]
   exact aw (aW _ _) (by simp;omega)
  unfold Ahs
  rw [hcnt,Bp hz,bu,bJ,←hs]
  refine c6 (λ hq=>?_) (λ hq=>c7 (by simp [hq]))
  exact (cW (by simp;omega)).bind λ y hy=>c7 (by rw [hy];simp [hq])
 ·rw [hs,show b.Ah.length=b.Ah.zipIdx.length from by simp,aB];rfl
theorem Ak2 (q:Ak->Bool):∀ (l:List Ak) (k:Nat),((l.zipIdx k).filter λ z=>q z.1).length=(l.filter q).length
 | [],_=>rfl
 | x::l,k=>by
  simp only [List.zipIdx_cons,aT]
  split <;> simp [Ak2 q l (k+1)]
theorem Au7 (b:Aa) (q:Ak->Bool):(ofL b q).length=(b.Ah.filter q).length:=by
 unfold ofL
 rw [au,Ak2]
theorem Aqi (k:Int) (hk:k≠1) (i:Int) (x:Ak):Kt k i x=(x.Kind==k&&x.B==i):=by
 unfold Kt
 have:(k==1)=false:=dH.2 hk
 rw [this];simp
theorem Z_ {b:Aa} {k:Int} (hk:k≠1) (i:Nat):(ofL b λ x=>Kt k (i:Int) x).length=(brs b.Ah k i).length:=by
 rw [Au7]
 unfold brs
 congr 1
 exact List.filter_congr λ x _=>Aqi k hk i x
theorem Aau {b:Aa} (h:Ax b):Aki b=some true:=by
 have hs:=h.sol
 have hc:=h.col
 have hb:=h.buses
 have hbl:=h.brl
 refine d5 ?_
 unfold Aki
 rw [Dv b.Ah 0 λ j x hj=>?_]
 ·rw [show ∀ (f:Unit->Option Bool),andThen (some (Ctl.next ()):Option (Ctl Unit Bool)) some f=f () from λ _=>rfl]
  refine Ok.andThen (A:=λ _=>True) (B:=λ (_:Bool)=>False) ?_ (λ _ _=>?_) (λ _ h=>h.elim)
  ·refine c9 (λ s=>0<=s/\s<=(b.Ae.length:Int)) (λ s=>((b.Ae.length:Int)-s).toNat) _ (0:Int) (by omega) (by omega) ?_
   rintro i ⟨h1,h2⟩
   unfold Ahe Ags
   refine c6 (λ hq=>?_) (λ _=>cX trivial)
   simp only [dE] at hq
   obtain⟨n,rfl⟩:∃ n:Nat,i=(n:Int):=⟨i.toNat,by omega⟩
   rw [Aa6 h]
   simp only [ac]
   have hone:=h.one n (by omega)
   rw [Z_ (by decide),hone,A0 (by omega)]
   refine c6 (λ hc=>by simp at hc) (λ _=>c7 ⟨by omega,by omega⟩)
  ·refine Ok.andThen (A:=λ _=>True) (B:=λ (_:Bool)=>False) ?_ (λ _ _=>Ok.pure rfl) (λ _ h=>h.elim)
   refine c9 (λ s=>0<=s/\s<=(b.Ag.length:Int)) (λ s=>((b.Ag.length:Int)-s).toNat) _ (0:Int) (by omega) (by omega) ?_
   rintro i ⟨h1,h2⟩
   unfold Ahd Agr
   refine c6 (λ hq=>?_) (λ _=>cX trivial)
   simp only [dE] at hq
   obtain⟨n,rfl⟩:∃ n:Nat,i=(n:Int):=⟨i.toNat,by omega⟩
   rw [Aa6 h]
   simp only [ac]
   have hany:=h.any n (by omega)
   have hpos:0<(brs b.Ah 3 n).length:=List.length_pos_iff.2 hany
   rw [Z_ (by decide),A0 (by omega)]
   refine c6 (λ hc=>?_) (λ _=>c7 ⟨by omega,by omega⟩)
   simp only [dE] at hc;omega
 ·have hjl := (aa.1 hj).1
  obtain⟨⟨a0,a1⟩,hk⟩:=h.br x (ae hj)
  rw [aI]
  have hcnt:cnt 0 j=(j:Int):=Cw (by omega)
  have e1:w64 (b.Am-1)=b.Am-1:=A0 (by omega)
  have e2:w64 (x.A+1)=x.A+1:=A0 (by omega)
  have e3:w64 ((b.Ae.length:Int)-1)=(b.Ae.length:Int)-1:=A0 (by omega)
  have e4:w64 ((b.Ag.length:Int)-1)=(b.Ag.length:Int)-1:=A0 (by omega)
  unfold Ahf Anj Ani Anh
  rw [e1,e2,e3,e4,hcnt,bet (x:=x.A) (by omega)]
  simp only [aR,cond_false]
  rcases hk with⟨hk,h1,h2⟩ | ⟨hk,h1,h2⟩ | ⟨hk,h1,h2⟩
  ·rw [hk,bet (x:=x.B) (lo:=x.A+1) (by omega)];rfl
  ·rw [hk,bet (x:=x.B) (lo:=0) (hi:=(b.Ae.length:Int)-1) (by omega)];rfl
  ·rw [hk, bet (x := x.B) (lo := 0) (hi := (b.Ag.length : Int) - 1) (by omega)]
   have hcut:cutI b.Ah 0 (j:Int)=some (b.Ah.take j):=by
    refine d5 ((Ok.cutI (by omega) (by omega) (by omega)).mono λ y hy=>?_)
    rw [hy];simp
   show ((cutI b.Ah 0 (j:Int)).bind λ y9=>andThen (foldI (uH x) y9 0 ()) (λ v=>some (Ctl.ret v)) λ z1=>some (Ctl.next ()))=some (Ctl.next ())
   rw [hcut]
   simp only [ac]
   rw [Dv _ 0 λ m y hy=>?_]
   ·rfl
   ·have hml:m<j:=by
     have:=(aa.1 hy).1
     simp only [aS] at this;omega
    have hyb:b.Ah[m]? = some y:=by
     rw [an,if_pos hml] at hy;exact hy
    unfold uH
    have hne:Acv x y=false:=by
     unfold Acv
     rw [cm]
     intro e
     simp only [bG,ab,dG] at e
     obtain⟨e1,e2,e3⟩:=e
     have hn:=h.nodup x.B.toNat
     have hsplit:b.Ah=b.Ah.take j++(x::b.Ah.drop (j+1)):=by
      conv=>lhs;rw [←bT j b.Ah]
      rw [List.drop_eq_getElem_cons hjl]
      have:b.Ah[j]=x:=by
       rw [ai hjl] at hj;cases hj;rfl
      rw [this]
     rw [hsplit,Hi,bJ] at hn
     have hBn:x.B=(x.B.toNat:Int):=by omega
     have hmem1:y.A∈(brs (b.Ah.take j) 3 x.B.toNat).map (·.A):=by
      refine ao.2 ⟨y,?_,rfl⟩
      unfold brs
      refine ax.2 ⟨ae hy,?_⟩
      rw [e1,hk,e3,←hBn];simp
     have hmem2:x.A∈(brs (x::b.Ah.drop (j+1)) 3 x.B.toNat).map (·.A):=by
      refine ao.2 ⟨x,?_,rfl⟩
      unfold brs
      refine ax.2 ⟨ak,?_⟩
      rw [hk,←hBn];simp
     exact (List.nodup_append.1 hn).2.2 _ hmem1 _ hmem2 e2
    rw [hne];rfl
theorem Ae5 {b:Aa} (h:Ax b):Akh b=some true:=by
 unfold Akh
 rw [Dv b.Ae 0 λ j x hj=>?_]
 ·rfl
 ·obtain⟨h1,h2,h3⟩:=h.so x (ae hj)
  unfold Ahc Ang
  rw [bet h1,bet h2,bet h3];rfl
theorem zN {b:Aa} (h:Ax b):Akg b=some true:=by
 have hcl:=h.col
 unfold Akg
 rw [Dv b.Ag 0 λ j x hj=>?_]
 ·rfl
 ·obtain⟨h1,h2,h3,h4,h5,h6,h7⟩:=h.co j x hj
  have hjl:=(aa.1 hj).1
  rw [aI]
  have hcnt:cnt 0 j=(j:Int):=Cw (by omega)
  unfold Ahb Anf
  rw [bet h1,bet h2,bet h3,bet h4]
  have hd:decide ((x.Needs.length:Int)>4)=false:=by simp;omega
  rw [hd]
  simp only [aR,Bool.or_false,cond_false]
  rw [Dv x.Needs 0 λ m n hm=>?_]
  ·rfl
  ·have hml:=(aa.1 hm).1
   rw [aI]
   have hcm:cnt 0 m=(m:Int):=Cw (by omega)
   have hn:=h6 n (ae hm)
   unfold Aha Ane
   rw [hcnt,hcm,A0 (n:=(j:Int)-1) (by omega),bet (x:=n) (by omega)]
   cases m with
   | zero=>rfl
   | succ m=>
    obtain⟨a,ha⟩:∃ a,x.Needs[m]? = some a:=⟨_,ai (by omega)⟩
    have hlt:=h7 m a n ha hm
    have e:w64 (((m+1:Nat):Int)-1)=(m:Int):=by rw [A0 (by omega)];omega
    have hp:decide (((m+1:Nat):Int)>0)=true:=dJ (by omega)
    have hq:decide (a>=n)=false:=by simp;omega
    rw [e,By ha,hp]
    simp [Ar,Eh,hq]
theorem Aqf {b:Aa} (h:Ax b):Xr b=some 0:=by
 have h1:=h.buses
 have h2:=h.brl
 have h3:=h.sol
 have h4:=h.col
 have h5:=h.phase
 have h6:=h.freq
 unfold Xr
 rw [Aau h,Ae5 h,zN h]
 have e:Ac0 b=false:=by
  rw [cm];intro e
  simp [Ac0] at e;omega
 have e2:Acz b true true true=false:=by
  rw [cm];intro e
  simp [Acz] at e;omega
 rw [e]
 simp only [cond_false,ac]
 have g1:(Ar [(!true,false)] (some true) default:Option Bool)=some true:=rfl
 have g2:(Ar [(!true || !true,false)] (some true) default:Option Bool)=some true:=rfl
 rw [g1,ac,g2,ac,e2];rfl
theorem vD (i:Nat) (C:List Bool):∀ (l:List Ak) (c:List Bool) (k:Nat),C.drop k=c->l.length=c.length ->
  (((l.zipIdx k).filter λ z=>z.1.Kind==3&&z.1.B==(i:Int)).filter λ z=>C.getD z.2 false).length=(C7 l c i).length
 | [],_,_,_,_=>by simp [C7]
 | x::l,[],_,_,h=>by simp at h
 | x::l,v::c,k,hd,h=>by
  have hv:C[k]? = some v:=by
   have:=congrArg (·[0]?) hd
   simpa [List.getElem?_drop] using this
  have hd':C.drop (k+1)=c:=by rw [←bM,hd];rfl
  have ih:=vD i C l c (k+1) hd' (by simpa using h)
  have hg:C.getD k false=v:=by simp [List.getD,hv]
  simp only [List.zipIdx_cons,aT,C7,cj] at ih ⊢
  cases hq:(x.Kind==3&&x.B==(i:Int)) with
  | false=>simpa only [Bool.false_and,bm,if_false] using ih
  | true=>
   simp only [if_true,aT,hg]
   cases v with
   | false=>simpa only [Bool.and_false,bm,if_false] using ih
   | true=>simpa only [cq,if_true,aL,Nat.add_right_cancel_iff] using ih
theorem K4 {b:Aa} (h:Ax b) {p:Ad} (hp:Av b p):F75 b p=some 0:=by
 have h3:=h.sol
 have h4:=h.col
 have hbl:=h.brl
 have hncl:=hp.ncl
 have hnso:=hp.nso
 have hnli:=hp.nli
 refine d5 ?_
 unfold F75
 rw [Aqf h]
 simp only [ac]
 refine c6 (λ hc=>by simp at hc) (λ _=>c6 (λ hc=>?_) (λ _=>?_))
 ·simp [Aub,hncl,hnso,hnli] at hc
 rw [Dv p.Ae 0 λ j x hj=>?_]
 ·rw [show ∀ (f : Unit -> Option Int), andThen (some (Ctl.next ()) : Option (Ctl Unit Int)) some f = f () from λ _ => rfl]
  rw [Dv p.An 0 λ j x hj=>?_]
  ·rw [show ∀ (f : Unit -> Option Int), andThen (some (Ctl.next ()) : Option (Ctl Unit Int)) some f = f () from λ _ => rfl]
   have hlen:=hp.brk.len
   refine c6 (λ hc=>?_) (λ _=>?_)
   ·simp only [dE] at hc;omega
   rw [Dv p.Al 0 λ j x hj=>?_]
   ·rw [show ∀ (f:Unit->Option Int),andThen (some (Ctl.next ()):Option (Ctl Unit Int)) some f=f () from λ _=>rfl]
    refine Ok.andThen (A:=λ _=>True) (B:=λ (_:Int)=>False) ?_ (λ _ _=>Ok.pure rfl) (λ _ h=>h.elim)
    refine c9 (λ s=>0<=s/\s<=(b.Ag.length:Int)) (λ s=>((b.Ag.length:Int)-s).toNat) _ (0:Int) (by omega) (by omega) ?_
    rintro i ⟨g1,g2⟩
    unfold Aoj At8
    refine c6 (λ hq=>?_) (λ _=>cX trivial)
    simp only [dE] at hq
    obtain⟨n,rfl⟩:∃ n:Nat,i=(n:Int):=⟨i.toNat,by omega⟩
    rw [Aa6 h]
    simp only [ac]
    have hone:=hp.one n (by omega)
    have hz:ofL b (λ x=>Kt 3 (n:Int) x)=((b.Ah.zipIdx.filter λ z=>z.1.Kind==3&&z.1.B==(n:Int)).map λ z=>(z.2:Int)):=by
     unfold ofL
     congr 1
     exact List.filter_congr λ z _=>Aqi 3 (by decide) n z.1
    have hzf:=vD n p.Ai b.Ah p.Ai 0 rfl (by omega)
    rw [hz]
    have hin:∀ z,z∈(b.Ah.zipIdx.filter λ z=>z.1.Kind==3&&z.1.B==(n:Int))->z.2<p.Ai.length:=by
     rintro⟨x,j⟩ hm
     have:=(ax.1 hm).1
     rw [List.mem_zipIdx_iff_getElem?] at this
     have:=(aa.1 this).1
     dsimp only;omega
    have hsz:(b.Ah.zipIdx.filter λ z=>z.1.Kind==3&&z.1.B==(n:Int)).length<=24:=aw (aW _ _) (by simpa using hbl)
    generalize hm:(b.Ah.zipIdx.filter λ z=>z.1.Kind==3&&z.1.B==(n:Int))=m at hin hsz hzf
    refine (c8 (xs:=m.map λ z=>(z.2:Int)) (I:=λ j s=>s=(((m.take j).filter λ z=>p.Ai.getD z.2 false).length:Int)) (A:=λ s=>s=((m.filter λ z=>p.Ai.getD z.2 false).length:Int)) (B:=λ (_:Unit)=>False) rfl (λ j x s hx hs=>?_) λ s hs=>?_).inner (λ s hs=>?_) (λ _ h=>h.elim)
    ·rw [az,bU] at hx
     obtain⟨z,hz,rfl⟩:=hx
     have hzl:=hin z (ae hz)
     obtain⟨v,hv⟩:∃ v,p.Ai[z.2]? = some v:=⟨_,ai hzl⟩
     have hg:p.Ai.getD z.2 false=v:=by simp [List.getD,hv]
     have hle:((m.take j).filter λ z=>p.Ai.getD z.2 false).length<=24:=aw (aW _ _) (by simp;omega)
     unfold Aoi
     rw [By hv,Bp hz,bu]
     simp only [ac]
     refine c6 (λ hq=>c7 ?_) (λ hq=>c7 ?_)
     ·rw [hs,A0 (by omega),aT,hg,if_pos hq]
      simp
     ·rw [hs,aT,hg,if_neg (ff hq)]
      simp
    ·rw [au,aB] at hs;exact hs
    ·rw [hs,hzf,A0 (by omega)]
     refine c6 (λ hc=>?_) (λ _=>c7 ⟨by omega,by omega⟩)
     simp only [dE] at hc;omega
   ·have hjl:=(aa.1 hj).1
    rw [aI]
    have hcnt:cnt 0 j=(j:Int):=Cw (by omega)
    unfold Aok At9
    rw [(Yg h x).2 (hp.brk.mem x (ae hj)),hcnt]
    cases j with
    | zero=>rfl
    | succ j=>
     obtain⟨a,ha⟩:∃ a,p.Al[j]? = some a:=⟨_,ai (by omega)⟩
     have hlt:=hp.brk.asc j a x ha hj
     have e:w64 (((j+1:Nat):Int)-1)=(j:Int):=by rw [A0 (by omega)];omega
     have hpz:decide (((j+1:Nat):Int)>0)=true:=dJ (by omega)
     have hb:Aes a x=true:=by
      unfold Aes
      unfold Qa at hlt
      simp only [aA,ab,dE,dG]
      exact hlt
     rw [e,By ha,hpz]
     simp [Ar,Eh,hb]
  ·have hjl:=(aa.1 hj).1
   rw [aI]
   have hcnt:cnt 0 j=(j:Int):=Cw (by omega)
   obtain⟨c,hc⟩:∃ c,b.Ag[j]? = some c:=⟨_,ai (by omega)⟩
   unfold Aol
   rw [hcnt,By hc]
   simp only [ac]
   rw [bet (hp.lim j x c hj hc)];rfl
 ·have hr:=hp.run x (ae hj)
  unfold Aom Aua
  rw [bet hr.1,bet hr.2.1,bet hr.2.2.1,bet hr.2.2.2];rfl
theorem Ams {l:List Ab} {n:Nat} {x:Ab} (h:l[n]? = some x):E7 (l.take n++l.drop (n+1)) n x=l:=by
 have hn:=(aa.1 h).1
 have ht:(l.take n).length=n:=by simp;omega
 unfold E7
 rw [cH (by omega),List.take_take,Nat.min_self,List.drop_append_of_le_length (by omega),List.drop_of_length_le (by omega),List.nil_append]
 conv=>rhs;rw [←bT n l]
 rw [List.drop_eq_getElem_cons hn]
 have:l[n]=x:=by rw [ai hn] at h;cases h;rfl
 rw [this]
theorem L4 {l:List Ab} {n j:Nat} (hn:n<l.length) {y:Ab} (h:(l.take n++l.drop (n+1))[j]? = some y):(j<n/\l[j]? = some y)\/(n<=j/\l[j+1]? = some y):=by
 have ht:(l.take n).length=n:=by simp;omega
 rw [b9] at h
 split at h
 ·rename_i h1
  rw [ht] at h1
  rw [an,if_pos h1] at h
  exact .inl ⟨h1,h⟩
 ·rename_i h1
  rw [ht] at h1 h
  rw [ar] at h
  refine .inr ⟨by omega,?_⟩
  rw [←h];congr 1;omega
theorem Arq {b:Aa} (h:Ax b) {l:List Ab} (hl:Fa b l) {n:Nat} (hn:n<l.length):Fa b (l.take n++l.drop (n+1)):=by
 have hs:=H4 h hl
 have hsm:∀ y,y∈l->Da y:=λ y hy=>(hl.mem y hy).small h
 have hlen:=hl.len
 refine⟨by simp;omega,λ y hy=>?_,λ j y z hy hz=>?_⟩
 ·rcases am.1 hy with hy | hy
  ·exact hl.mem y (bk hy)
  ·exact hl.mem y (bX hy)
 ·rcases L4 hn hy with⟨a1,a2⟩ | ⟨a1,a2⟩ <;> rcases L4 hn hz with⟨b1,b2⟩ | ⟨b1,b2⟩
  ·exact hl.asc j y z a2 b2
  ·exact (zZ (hsm y (ae a2)) (hsm z (ae b2))).2 (hs j (j+1+1) y z (by omega) a2 b2)
  ·omega
  ·exact hl.asc (j+1) y z a2 b2
theorem Arr {b:Aa} (h:Ax b) {l:List Ab} (hl:Fa b l) {n:Nat} {x:Ab} (hx:l[n]? = some x):At (l.take n++l.drop (n+1)) x n/\(l.take n++l.drop (n+1))[n]? ≠ some x:=by
 have hs:=H4 h hl
 have hn:=(aa.1 hx).1
 refine⟨⟨by simp;omega,λ j y hj hy=>?_,λ j y hj hy=>?_⟩,λ e=>?_⟩
 ·rcases L4 hn hy with⟨_,a2⟩ | ⟨a1,_⟩
  ·exact hs j n y x hj a2 hx
  ·omega
 ·rcases L4 hn hy with⟨a1,_⟩ | ⟨_,a2⟩
  ·omega
  ·have:=hs n (j+1) x y (by omega) hx a2;omega
 ·rcases L4 hn e with⟨a1,_⟩ | ⟨_,a2⟩
  ·omega
  ·have:=hs n (n+1) x x (by omega) hx a2;omega
theorem Avp {b:Aa} (h:Ax b) {p:Ad} (hp:Av b p) (t:Int) {x:Ab} (hx:Ct b x) (v:Bool):Ok (Jd ⟨b,p,t⟩ x v) (V5 b):=by
 obtain⟨n,hat⟩:=A24 h hp.brk hx
 have hlen:=hp.brk.len
 have hsearch:=Oe (H4 h hp.brk) (λ y hy=>(hp.brk.mem y hy).small h) (hx.small h) (by omega)
 have hbad:∀ (hv:(p.Al[n]? = some x)↔v=true),Ok (Jd ⟨b,p,t⟩ x v) (V5 b):=by
  intro hv
  unfold Jd
  refine hsearch.bind λ y hy=>?_
  obtain⟨m,e1,hat2,hf⟩:=hy
  have e2:=hat.uniq hat2
  subst e2
  have:y.2=v:=by
   rw [bP];exact hf.trans hv
  rw [this]
  exact c6 (λ _=>Ok.pure (.inl (by simp))) (λ hc=>by simp at hc)
 by_cases hin:p.Al[n]? = some x
 ·cases v with
  | true=>exact hbad ⟨λ _=>rfl,λ _=>hin⟩
  | false=>
   have hn:=(aa.1 hin).1
   have he:=Arr h hp.brk hin
   have hq:Av b ⟨p.Ai,p.Ae,p.An,p.Al.take n++p.Al.drop (n+1)⟩:={ncl:=hp.ncl,nso:=hp.nso,nli:=hp.nli,run:=hp.run,lim:=hp.lim,one:=hp.one,brk:=Arq h hp.brk hn}
   have:=Avb h (p:=⟨p.Ai,p.Ae,p.An,p.Al.take n++p.Al.drop (n+1)⟩) hq.brk (q:=p) hx t he.1 he.2 (by simp;omega) (Ams hin).symm hp.nso
   rw [this]
   refine Ok.pure (.inr ?_)
   exact Ka hq (Tq _ _ _) (Abx hp.run (λ hk=>by have:=hp.nso;unfold Ct at hx;omega) (by omega))
 ·cases v with
  | false=>exact hbad ⟨λ e=>absurd e hin,λ e=>by cases e⟩
  | true=>
   by_cases hl:p.Al.length<32
   ·rw [Avq h hp hx t hat hin hl]
    exact Ok.pure (.inr (Ai4 h hp hx hat hin hl))
   ·unfold Jd
    refine hsearch.bind λ y _=>c6 (λ _=>Ok.pure (.inl (by simp))) (λ _=>c6 (λ _=>Ok.pure (.inl (by simp))) (λ hc=>?_))
    simp [Rt] at hc;omega
def Ayq:Ad:=⟨[],[],[],[]⟩
theorem Aq4 {b:Aa} (a:Aw):Ok (Akc b a) λ y=>y=true->((a.Kind=1\/a.Kind=2)->Ct b ⟨2,a.Unit⟩)/\((a.Kind=3\/a.Kind=4)->Ct b ⟨1,a.Unit⟩)/\(a.Kind=5->Ct b ⟨4,a.Unit⟩)/\((a.Kind=8\/a.Kind=9)->Ct b ⟨a.Value,a.Unit⟩):=by
 unfold Akc
 refine Ok.andThen (A:=λ z=>z=true↔(a.Kind=1\/a.Kind=2)) (B:=λ (_:Unit)=>False) ?_ (λ z hz=>?_) (λ _ h=>h.elim)
 ·unfold Ag4
  refine c6 (λ hk=>d7 ?_) (λ hk=>d7 ?_)
  ·simp only [dG] at hk ⊢;omega
  ·simp only [dH,ne_eq] at hk
   simp only [dG];omega
 refine c6 (λ hq=>Ok.pure λ hk=>?_) (λ hq=>?_)
 ·have:=hz.1 hq
  have hk:=(Nl b _ _).1 hk
  exact⟨λ _=>hk,λ e=>by omega,λ e=>by omega,λ e=>by omega⟩
 have hn12:¬(a.Kind=1\/a.Kind=2):=λ e=>by rw [hz.2 e] at hq;cases hq
 refine Ok.andThen (A:=λ z=>z=true↔(a.Kind=3\/a.Kind=4)) (B:=λ (_:Unit)=>False) ?_ (λ z hz=>?_) (λ _ h=>h.elim)
 ·unfold Ag3
  refine c6 (λ hk=>d7 ?_) (λ hk=>d7 ?_)
  ·simp only [dG] at hk ⊢;omega
  ·simp only [dH,ne_eq] at hk
   simp only [dG];omega
 refine c6 (λ hq=>Ok.pure λ hk=>?_) (λ hq=>?_)
 ·have:=hz.1 hq
  have hk:=(Nl b _ _).1 hk
  exact⟨λ e=>by omega,λ _=>hk,λ e=>by omega,λ e=>by omega⟩
 have hn34:¬(a.Kind=3\/a.Kind=4):=λ e=>by rw [hz.2 e] at hq;cases hq
 refine c6 (λ hq=>Ok.pure λ hk=>?_) (λ hq5=>c6 (λ hq=>Ok.pure λ _=>?_) (λ hq6=>c6 (λ hq=>Ok.pure λ hk=>?_) (λ hq8=>c6 (λ hq=>Ok.pure λ hk=>?_) (λ hq9=>Ok.pure λ _=>?_))))
 ·simp only [dG] at hq
  have hk:=(Nl b _ _).1 hk
  exact⟨λ e=>by omega,λ e=>by omega,λ _=>hk,λ e=>by omega⟩
 ·simp only [dG] at hq
  exact⟨λ e=>by omega,λ e=>by omega,λ e=>by omega,λ e=>by omega⟩
 ·have hk:=(Nl b _ _).1 hk
  simp only [dG] at hq
  exact⟨λ e=>by omega,λ e=>by omega,λ e=>by omega,λ _=>hk⟩
 ·have hk:=(Nl b _ _).1 hk
  simp only [dG] at hq
  exact⟨λ e=>by omega,λ e=>by omega,λ e=>by omega,λ _=>hk⟩
 ·simp only [dH,ne_eq] at hq5 hq8 hq9
  exact⟨λ e=>by omega,λ e=>by omega,λ e=>by omega,λ e=>by omega⟩
theorem A2q {b:Aa} (h:Ax b) {p:Ad} (hp:Av b p) {t:Int} (ht:0<=t/\t<=2147483648) {a:Aw} (hk:1<=a.Kind/\a.Kind<=9)
  (hw:((a.Kind=1\/a.Kind=2)->Ct b ⟨2,a.Unit⟩)/\((a.Kind=3\/a.Kind=4)->Ct b ⟨1,a.Unit⟩)/\(a.Kind=5->Ct b ⟨4,a.Unit⟩)/\((a.Kind=8\/a.Kind=9)->Ct b ⟨a.Value,a.Unit⟩)):Ok (Zk ⟨b,p,t⟩ a) (V5 b):=by
 obtain⟨w1,w2,w3,w4⟩:=hw
 unfold Ct at w2 w3
 dsimp only at w2 w3
 unfold Zk
 refine c6 (λ _=>(Arx h hp _).bind λ y hy=>Ok.pure hy) (λ q1=>?_)
 refine c6 (λ _=>(Au5 h hp _).bind λ y hy=>Ok.pure hy) (λ q2=>?_)
 refine c6 (λ _=>(Aqz h hp _ _).bind λ y hy=>Ok.pure hy) (λ q6=>?_)
 refine c6 (λ q=>?_) (λ q3=>?_)
 ·simp only [dG] at q
  exact (Ap7 h hp ht (by omega) (by omega)).bind λ y hy=>Ok.pure hy
 refine c6 (λ q=>?_) (λ q4=>?_)
 ·simp only [dG] at q
  exact (Aut h hp (by omega) (by omega)).bind λ y hy=>Ok.pure hy
 refine c6 (λ q=>?_) (λ q5=>?_)
 ·simp only [dG] at q
  exact (Aq0 hp (by omega) (by omega)).bind λ y hy=>Ok.pure hy
 refine c6 (λ _=>(Aup h hp t).bind λ y hy=>Ok.pure (.inr hy)) (λ q7=>?_)
 simp only [dH,ne_eq] at q1 q2 q3 q4 q5 q6 q7
 exact (Avp h hp t (w4 (by omega)) _).bind λ y hy=>Ok.pure hy
theorem A0v {b:Aa} (h:Ax b) {p:Ad} (hp:Av b p) (t:Int) (a:Aw):Ok (uK b p t a) λ y=>(y.2≠0/\y.1=Ayq)\/(y.2=0/\Av b y.1):=by
 unfold uK
 rw [E2 h hp,Hh h hp]
 simp only [ac]
 refine c6 (λ hc=>by simp at hc) (λ _=>c6 (λ _=>Ok.pure (.inl ⟨by simp,rfl⟩)) (λ hr=>?_))
 simp only [Ann,bz,dF] at hr
 refine (Aq4 a).bind λ y hy=>c6 (λ _=>Ok.pure (.inl ⟨by simp,rfl⟩)) (λ hk=>?_)
 simp only [cL] at hk
 refine (A2q h hp (by omega) (by omega) (hy hk)).bind λ z hz=>c6 (λ hc=>Ok.pure (.inl ⟨by simpa using hc,rfl⟩)) (λ hc=>?_)
 simp only [dL] at hc
 rcases hz with hz | hz
 ·exact absurd hc hz
 ·exact Ok.pure (.inr ⟨rfl,hz⟩)

abbrev Ei:=List (Ak×Bool)
def Tie (L:Ei) (i j:Nat):Prop:=∃ z,z∈L/\z.1.Kind=1/\z.2=true/\((z.1.A.toNat=i/\z.1.B.toNat=j)\/(z.1.A.toNat=j/\z.1.B.toNat=i))
theorem Tie.symm {L:Ei} {i j:Nat} (h:Tie L i j):Tie L j i:=by
 obtain⟨z,h1,h2,h3,h4⟩:=h
 exact⟨z,h1,h2,h3,h4.symm⟩
inductive D1 (L:Ei) (i:Nat):Nat->Nat->Prop
 | refl:D1 L i 0 i
 | stay {r j:Nat}:D1 L i r j->D1 L i (r+1) j
 | step {r j k:Nat}:D1 L i r j->Tie L j k->D1 L i (r+1) k
def Hl (L:Ei) (i j:Nat):Prop:=∃ r,D1 L i r j
theorem Hl.refl (L:Ei) (i:Nat):Hl L i i:=⟨0,.refl⟩
theorem Hl.tie {L:Ei} {i j k:Nat} (h:Hl L i j) (t:Tie L j k):Hl L i k:=by
 obtain⟨r,h⟩:=h;exact⟨r+1,h.step t⟩
theorem Hl.trans {L:Ei} {i j k:Nat} (h:Hl L i j) (h2:Hl L j k):Hl L i k:=by
 obtain⟨r,h2⟩:=h2
 induction h2 with
 | refl=>exact h
 | stay _ ih=>exact ih
 | step _ t ih=>exact ih.tie t
theorem Hl.symm {L:Ei} {i j:Nat} (h:Hl L i j):Hl L j i:=by
 obtain⟨r,h⟩:=h
 induction h with
 | refl=>exact .refl L i
 | stay _ ih=>exact ih
 | step _ t ih=>exact (Hl.tie (.refl L _) t.symm).trans ih
theorem D1.le {L:Ei} {i j r s:Nat} (h:D1 L i r j) (hs:r<=s):D1 L i s j:=by
 induction s with
 | zero=>
  have:r=0:=by omega
  subst this;exact h
 | succ s ih=>
  by_cases e:r=s+1
  ·subst e;exact h
  ·exact (ih (by omega)).stay
open Classical in
noncomputable def cn (p:Nat->Prop):Nat->Nat
 | 0=>0
 | n+1=>cn p n+if p n then 1 else 0
theorem At4 (p:Nat->Prop):∀ n,cn p n<=n
 | 0=>af _
 | n+1=>by have:=At4 p n;unfold cn;split <;> omega
theorem qO {p q:Nat->Prop}:∀ n,(∀ k,k<n->p k->q k)->cn p n<=cn q n
 | 0,_=>af _
 | n+1,h=>by
  have:=qO n λ k hk=>h k (by omega)
  have h1:=h n (by omega)
  unfold cn
  by_cases hp:p n
  ·rw [if_pos hp,if_pos (h1 hp)];omega
  ·rw [if_neg hp];split <;> omega
theorem Ajh {p q:Nat->Prop}:∀ n,(∀ k,k<n->p k->q k)->cn p n=cn q n->∀ k,k<n->q k->p k
 | 0,_,_,k,hk,_=>by omega
 | n+1,h,e,k,hk,hq=>by
  have hm:=qO n λ k hk=>h k (by omega)
  have h1:=h n (by omega)
  unfold cn at e
  by_cases hp:p n
  ·rw [if_pos hp,if_pos (h1 hp)] at e
   by_cases ek:k=n
   ·subst ek;exact hp
   ·exact Ajh n (λ k hk=>h k (by omega)) (by omega) k (by omega) hq
  ·rw [if_neg hp] at e
   by_cases hqn:q n
   ·rw [if_pos hqn] at e;omega
   ·rw [if_neg hqn] at e
    by_cases ek:k=n
    ·subst ek;exact absurd hq hqn
    ·exact Ajh n (λ k hk=>h k (by omega)) (by omega) k (by omega) hq
def Yy (L:Ei) (n:Nat):Prop:=∀ i j,Tie L i j->i<n/\j<n
theorem D1.lt {L:Ei} {n i j r:Nat} (hL:Yy L n) (hi:i<n) (h:D1 L i r j):j<n:=by
 induction h with
 | refl=>exact hi
 | stay _ ih=>exact ih
 | step _ t _=>exact (hL _ _ t).2
theorem Yo {L:Ei} {n i j:Nat} (hL:Yy L n) (_:i<n) (h:Hl L i j):D1 L i n j:=by
 have hst:∃ r,r<=n/\∀ k,k<n->D1 L i (r+1) k->D1 L i r k:=by
  by_cases hex:∃ r,r<=n/\∀ k,k<n->D1 L i (r+1) k->D1 L i r k
  ·exact hex
  exfalso
  have hgrow:∀ r,r<=n->cn (D1 L i r) n<cn (D1 L i (r+1)) n:=by
   intro r hr
   have hm:=qO (p:=D1 L i r) (q:=D1 L i (r+1)) n λ k _ h=>h.stay
   rcases Nat.lt_or_eq_of_le hm with h | h
   ·exact h
   ·exact absurd ⟨r,hr,Ajh n (λ k _ h=>h.stay) h⟩ hex
  have hge:∀ r,r<=n+1->r<=cn (D1 L i r) n:=by
   intro r
   induction r with
   | zero=>intro _;omega
   | succ r ih=>intro hr;have:=ih (by omega);have:=hgrow r (by omega);omega
  have h1:=hge (n+1) (af _)
  have h2:=At4 (D1 L i (n+1)) n
  omega
 obtain⟨r,hr,hs⟩:=hst
 obtain⟨s,h⟩:=h
 have key:∀ s k,D1 L i s k->D1 L i r k:=by
  intro s k h
  induction h with
  | refl=>exact D1.refl.le (by omega)
  | stay _ ih=>exact ih
  | step h0 t ih=>exact hs _ (hL _ _ t).2 (ih.step t)
 exact (key s j h).le hr
def Dt (b:Aa) (p:Ad):Ei:=b.Ah.zip p.Ai
theorem Z1 {b:Aa} (h:Ax b) (p:Ad):Yy (Dt b p) b.Am.toNat:=by
 rintro i j ⟨z,hz,hk,_,he⟩
 have:=h.br z.1 (bV hz).1
 unfold R9 at this
 omega
theorem Ax9 {s:List Int} {i:Nat} (h:i<s.length):s[i]? = some (s.getD i 0):=by
 rw [ai h];simp [List.getD,List.getElem?_eq_getElem h]
theorem Tg {s:List Int} {z:Ak×Bool} {i:Nat} (hi:i<s.length):(F1 s z).getD i 0=if (z.1.Kind=1/\z.2=true)/\(i=z.1.A.toNat\/i=z.1.B.toNat) then min (s.getD z.1.A.toNat 0) (s.getD z.1.B.toNat 0) else s.getD i 0:=by
 unfold F1
 by_cases hk:z.1.Kind=1/\z.2=true
 ·rw [if_pos hk]
  by_cases hB:i=z.1.B.toNat
  ·rw [if_pos ⟨hk,.inr hB⟩]
   simp [List.getD,←hB,hi]
  ·by_cases hA:i=z.1.A.toNat
   ·rw [if_pos ⟨hk,.inl hA⟩]
    have h1:¬z.1.B.toNat=i:=λ e=>hB e.symm
    simp only [List.getD,bt h1]
    rw [←hA,bD hi];rfl
   ·rw [if_neg (λ e=>e.2.elim hA hB)]
    have h1:¬z.1.B.toNat=i:=λ e=>hB e.symm
    have h2:¬z.1.A.toNat=i:=λ e=>hA e.symm
    simp only [List.getD,bt h1,bt h2]
 ·rw [if_neg hk,if_neg (λ e=>hk e.1)]
def Lab (L:Ei) (s:List Int):Prop:=∀ i,i<s.length->Hl L (s.getD i 0).toNat i
theorem Ama {L:Ei} {s:List Int} (h:Lab L s) {z:Ak×Bool} (hz:z∈L) (hr:z.1.Kind=1->z.1.A.toNat<s.length/\z.1.B.toNat<s.length):Lab L (F1 s z):=by
 intro i hi
 rw [Fi] at hi
 rw [Tg hi]
 split
 ·rename_i hc
  obtain⟨⟨hk,hv⟩,hab⟩:=hc
  obtain⟨ha,hb⟩:=hr hk
  have tAB:Tie L z.1.A.toNat z.1.B.toNat:=⟨z,hz,hk,hv,.inl ⟨rfl,rfl⟩⟩
  have c1:=h _ ha
  have c2:=h _ hb
  rcases Int.le_total (s.getD z.1.A.toNat 0) (s.getD z.1.B.toNat 0) with e | e
  ·rw [Int.min_eq_left e]
   rcases hab with rfl | rfl
   ·exact c1
   ·exact c1.tie tAB
  ·rw [Int.min_eq_right e]
   rcases hab with rfl | rfl
   ·exact c2.tie tAB.symm
   ·exact c2
 ·exact h i hi
theorem Q9 {L:Ei} {n:Nat}:∀ (l:Ei) (s:List Int),s.length=n->(∀ z,z∈l->z∈L/\(z.1.Kind=1->z.1.A.toNat<n/\z.1.B.toNat<n))->Lab L s->Lab L (Ee l s)
 | [],_,_,_,h=>h
 | z::l,s,hs,hz,h=>Q9 l (F1 s z) (by rw [Fi];exact hs) (λ y hy=>hz y (al _ hy)) (Ama h (hz z ak).1 (by rw [hs];exact (hz z ak).2))
theorem Ti {s:List Int} (z:Ak×Bool) {i:Nat} (hi:i<s.length):(F1 s z).getD i 0<=s.getD i 0:=by
 rw [Tg hi]
 split
 ·rename_i hc
  rcases hc.2 with rfl | rfl
  ·exact Int.min_le_left _ _
  ·exact Int.min_le_right _ _
 ·exact Int.le_refl _
theorem Q_:∀ (l:Ei) (s:List Int) {i:Nat},i<s.length->(Ee l s).getD i 0<=s.getD i 0
 | [],_,_,_=>Int.le_refl _
 | z::l,s,i,hi=>Int.le_trans (Q_ l (F1 s z) (by rw [Fi];exact hi)) (Ti z hi)
theorem Ya:∀ (l:Ei) (s:List Int) {z:Ak×Bool},z∈l->z.1.Kind=1->z.2=true->z.1.A.toNat<s.length->z.1.B.toNat<s.length->∀ i,i=z.1.A.toNat\/i=z.1.B.toNat->(Ee l s).getD i 0<=min (s.getD z.1.A.toNat 0) (s.getD z.1.B.toNat 0)
 | [],_,_,h,_,_,_,_,_,_=>by cases h
 | y::l,s,z,hz,hk,hv,ha,hb,i,hi=>by
  show (Ee l (F1 s y)).getD i 0<=_
  have hil:i<s.length:=by rcases hi with rfl | rfl <;> assumption
  by_cases e:z=y
  ·subst e
   refine Int.le_trans (Q_ l _ (by rw [Fi];exact hil)) ?_
   rw [Tg hil,if_pos ⟨⟨hk,hv⟩,hi⟩]
   exact Int.le_refl _
  ·have hz':z∈l:=by
    rcases ag.1 hz with h | h
    ·exact absurd h e
    ·exact h
   refine Int.le_trans (Ya l (F1 s y) hz' hk hv (by rw [Fi];exact ha) (by rw [Fi];exact hb) i hi) ?_
   have h1:=Ti y ha
   have h2:=Ti y hb
   omega
theorem Ls {n i:Nat} (h:i<n):(Di n).getD i 0=(i:Int):=by
 simp [Di,List.getD,List.getElem?_range h]
theorem Aiw {L:Ei} {n:Nat} (hL:Yy L n):∀ r i j,i<n->j<n->D1 L j r i->((List.range r).foldl (λ s _=>Ee L s) (Di n)).getD i 0<=(j:Int):=by
 intro r
 have hlen:∀ r,((List.range r).foldl (λ s _=>Ee L s) (Di n)).length=n:=by
  intro r
  induction r with
  | zero=>simp [Di]
  | succ r ih=>rw [ck,ba];simp only [bA,List.foldl_nil,Gn];exact ih
 induction r with
 | zero=>
  intro i j hi hj h
  cases h
  show (Di n).getD i 0<=_
  rw [Ls hi]
  exact Int.le_refl _
 | succ r ih=>
  intro i j hi hj h
  have hrl:=hlen r
  rw [ck,ba]
  simp only [bA,List.foldl_nil]
  generalize (List.range r).foldl (λ s _=>Ee L s) (Di n)=s at *
  cases h with
  | stay h=>exact Int.le_trans (Q_ L s (by omega)) (ih i j hi hj h)
  | step h t=>
   rename_i k
   have hk:=hL _ _ t
   have h1:=ih k j hk.1 hj h
   obtain⟨z,hz,hz1,hz2,he⟩:=t
   have hA:z.1.A.toNat<s.length:=by omega
   have hB:z.1.B.toNat<s.length:=by omega
   have h2:=Ya L s hz hz1 hz2 hA hB i (by omega)
   rcases he with⟨e1,e2⟩ | ⟨e1,e2⟩
   ·rw [e1] at h2;omega
   ·rw [e2] at h2;omega
theorem X9 {b:Aa} (h:Ax b) (p:Ad) {i j:Nat} (hi:i<b.Am.toNat) (hj:j<b.Am.toNat):(groups b p).getD i 0=(groups b p).getD j 0↔Hl (Dt b p) i j:=by
 have hL:=Z1 h p
 have hlen:=Jg b p
 have hlab:Lab (Dt b p) (groups b p):=by
  have hz:∀ z,z∈Dt b p->z∈Dt b p/\(z.1.Kind=1->z.1.A.toNat<b.Am.toNat/\z.1.B.toNat<b.Am.toNat):=by
   intro z hz
   refine⟨hz,λ hk=>?_⟩
   have:=h.br z.1 (bV hz).1
   unfold R9 at this
   omega
  have key:∀ (xs:List Nat) (s:List Int),s.length=b.Am.toNat->Lab (Dt b p) s->Lab (Dt b p) (xs.foldl (λ s _=>Ee (b.Ah.zip p.Ai) s) s):=by
   intro xs
   induction xs with
   | nil=>intro s _ h;exact h
   | cons x xs ih=>intro s hl h;exact ih _ (by rw [Gn];exact hl) (Q9 _ s hl hz h)
  refine key _ _ (by simp [Di]) ?_
  intro k hk
  have hk':k<b.Am.toNat:=by simpa [Di] using hk
  rw [Ls hk']
  exact .refl _ k
 have hlow:∀ i j,i<b.Am.toNat->j<b.Am.toNat->Hl (Dt b p) j i->(groups b p).getD i 0<=(j:Int):=λ i j hi hj hc=>Aiw hL _ i j hi hj (Yo hL hj hc)
 have hlo:=Tj h p
 have hrange:∀ i,i<b.Am.toNat->0<=(groups b p).getD i 0/\((groups b p).getD i 0).toNat<b.Am.toNat:=by
  intro i hi
  have:=hlo i _ (Ax9 (by omega))
  omega
 constructor
 ·intro e
  have c1:=hlab i (by omega)
  have c2:=hlab j (by omega)
  rw [e] at c1
  exact c1.symm.trans c2
 ·intro hc
  have r1:=hrange i hi
  have r2:=hrange j hj
  have c1:=hlab i (by omega)
  have c2:=hlab j (by omega)
  have l1:=hlow j _ hj r1.2 (c1.trans hc)
  have l2:=hlow i _ hi r2.2 (c2.trans hc.symm)
  omega
def G2 (s:List Bool) (z:Ak×Bool):List Bool:=
 if (z.1.Kind=1/\z.2=true)/\(s.getD z.1.A.toNat false || s.getD z.1.B.toNat false)=true then (s.set z.1.A.toNat true).set z.1.B.toNat true else s
theorem F8 (s:List Bool) (z:Ak×Bool):(G2 s z).length=s.length:=by unfold G2;split <;> simp
def Hm (L:Ei) (s:List Bool):List Bool:=L.foldl G2 s
theorem Ma:∀ (l:Ei) (s:List Bool),(Hm l s).length=s.length
 | [],_=>rfl
 | z::l,s=>by show (Hm l (G2 s z)).length=_;rw [Ma l,F8]
theorem Aqd {s:List Bool} {m i:Nat} (hi:i<s.length):(s.set m true).getD i false=(decide (m=i) || s.getD i false):=by
 by_cases e:m=i
 ·subst e;simp [List.getD,hi]
 ·simp [List.getD,List.getElem?_set_ne e,e]
theorem Lq {s:List Bool} {z:Ak×Bool} {i:Nat} (hi:i<s.length):(G2 s z).getD i false=true↔s.getD i false=true\/(((z.1.Kind=1/\z.2=true)/\(s.getD z.1.A.toNat false || s.getD z.1.B.toNat false)=true)/\(i=z.1.A.toNat\/i=z.1.B.toNat)):=by
 unfold G2
 split
 ·rename_i hc
  rw [Aqd (by simpa using hi),Aqd hi,aA,aA,decide_eq_true_iff,decide_eq_true_iff]
  constructor
  ·rintro (e | e | e)
   ·exact .inr ⟨hc,.inr e.symm⟩
   ·exact .inr ⟨hc,.inl e.symm⟩
   ·exact .inl e
  ·rintro (e | ⟨_,e | e⟩)
   ·exact .inr (.inr e)
   ·exact .inr (.inl e.symm)
   ·exact .inl e.symm
 ·rename_i hc
  exact⟨.inl,λ e=>e.elim id λ e=>absurd e.1 hc⟩
def Got (L:Ei) (n:Nat) (s:List Bool):Prop:=∀ i,i<s.length->s.getD i false=true->Hl L n i
theorem Alm {L:Ei} {n:Nat} {s:List Bool} (h:Got L n s) {z:Ak×Bool} (hz:z∈L) (hr:z.1.Kind=1->z.1.A.toNat<s.length/\z.1.B.toNat<s.length):Got L n (G2 s z):=by
 intro i hi e
 rw [F8] at hi
 rcases (Lq hi).1 e with e | ⟨⟨⟨hk,hv⟩,ho⟩,hab⟩
 ·exact h i hi e
 ·obtain⟨ha,hb⟩:=hr hk
  have t:Tie L z.1.A.toNat z.1.B.toNat:=⟨z,hz,hk,hv,.inl ⟨rfl,rfl⟩⟩
  simp only [aA] at ho
  rcases ho with ho | ho
  ·have c:=h _ ha ho
   rcases hab with rfl | rfl
   ·exact c
   ·exact c.tie t
  ·have c:=h _ hb ho
   rcases hab with rfl | rfl
   ·exact c.tie t.symm
   ·exact c
theorem X3 {L:Ei} {n m:Nat}:∀ (l:Ei) (s:List Bool),s.length=m->(∀ z,z∈l->z∈L/\(z.1.Kind=1->z.1.A.toNat<m/\z.1.B.toNat<m))->Got L n s->Got L n (Hm l s)
 | [],_,_,_,h=>h
 | z::l,s,hs,hz,h=>X3 l (G2 s z) (by rw [F8];exact hs) (λ y hy=>hz y (al _ hy)) (Alm h (hz z ak).1 (by rw [hs];exact (hz z ak).2))
theorem Qw:∀ (l:Ei) (s:List Bool) {i:Nat},i<s.length->s.getD i false=true->(Hm l s).getD i false=true
 | [],_,_,_,h=>h
 | z::l,s,_,hi,h=>Qw l (G2 s z) (by rw [F8];exact hi) ((Lq hi).2 (.inl h))
theorem X2:∀ (l:Ei) (s:List Bool) {z:Ak×Bool},z∈l->z.1.Kind=1->z.2=true->z.1.A.toNat<s.length->z.1.B.toNat<s.length->(s.getD z.1.A.toNat false || s.getD z.1.B.toNat false)=true->∀ i,i=z.1.A.toNat\/i=z.1.B.toNat->(Hm l s).getD i false=true
 | [],_,_,h,_,_,_,_,_,_,_=>by cases h
 | y::l,s,z,hz,hk,hv,ha,hb,ho,i,hi=>by
  show (Hm l (G2 s y)).getD i false=true
  have hil:i<s.length:=by rcases hi with rfl | rfl <;> assumption
  by_cases e:z=y
  ·subst e
   exact Qw l _ (by rw [F8];exact hil) ((Lq hil).2 (.inr ⟨⟨⟨hk,hv⟩,ho⟩,hi⟩))
  ·have hz':z∈l:=by
    rcases ag.1 hz with h | h
    ·exact absurd h e
    ·exact h
   refine X2 l (G2 s y) hz' hk hv (by rw [F8];exact ha) (by rw [F8];exact hb) ?_ i hi
   simp only [aA] at ho ⊢
   exact ho.imp (λ e=>(Lq ha).2 (.inl e)) (λ e=>(Lq hb).2 (.inl e))
def Lr (L:Ei) (r:Nat) (s:List Bool):List Bool:=(List.range r).foldl (λ s _=>Hm L s) s
theorem Lg (L:Ei) (r:Nat) (s:List Bool):Lr L (r+1) s=Hm L (Lr L r s):=by
 unfold Lr;rw [ck,ba];rfl
theorem Iq (L:Ei) (s:List Bool):∀ r,(Lr L r s).length=s.length
 | 0=>rfl
 | r+1=>by rw [Lg,Ma,Iq L s r]
theorem Ah9 {L:Ei} {n m:Nat} (hL:Yy L m) {s:List Bool} (hs:s.length=m) (hn:s.getD n false=true):∀ r i,i<m->D1 L n r i->(Lr L r s).getD i false=true:=by
 intro r
 induction r with
 | zero=>intro i _ h;cases h;exact hn
 | succ r ih=>
  intro i hi h
  rw [Lg]
  have hl:=Iq L s r
  cases h with
  | stay h=>exact Qw L _ (by omega) (ih i hi h)
  | step h t=>
   rename_i k
   have hk:=hL _ _ t
   have h1:=ih k hk.1 h
   obtain⟨z,hz,hz1,hz2,he⟩:=t
   refine X2 L _ hz hz1 hz2 (by omega) (by omega) ?_ i (by omega)
   rcases he with⟨e1,_⟩ | ⟨_,e2⟩
   ·rw [e1,h1];rfl
   ·rw [e2,h1];simp
def Ke (b:Aa) (p:Ad) (n:Nat):List Int:=((List.range b.Am.toNat).filter λ i=>(groups b p).getD i 0==(groups b p).getD n 0).map λ (i:Nat)=>(i:Int)
theorem Aqg {b:Aa} (h:Ax b) {p:Ad} (hp:Av b p) {n:Nat} (hn:n<b.Am.toNat):Akj b p (n:Int)=some (Ke b p n):=by
 have hbu:=h.buses
 have hbl:=h.brl
 have hncl:=hp.ncl
 have hL:=Z1 h p
 refine d5 ?_
 unfold Akj
 refine (Ok.mkI (by omega) (by omega)).bind λ y hy=>?_
 have hyl:y.length=b.Am.toNat:=by rw [hy];simp
 refine (d8 (by omega) (by omega)).bind λ _ _=>(cY (by omega) (by omega)).bind λ z hz=>?_
 rw [aE] at hz
 have hzl:z.length=b.Am.toNat:=by rw [hz];simpa using hyl
 have hzn:z.getD n false=true:=by rw [hz];simp [List.getD,hyl,hn]
 have hzg:Got (Dt b p) n z:=by
  intro i hi e
  have hiy:i<y.length:=by omega
  rw [hz,Aqd hiy] at e
  simp only [aA,dE] at e
  rcases e with e | e
  ·subst e;exact .refl _ _
  ·rw [hy] at e;simp [List.getD,show i<b.Am.toNat by omega] at e
 clear hz
 refine Ok.andThen (A:=λ s=>s=Lr (Dt b p) b.Am.toNat z) (B:=λ (_:Unit)=>False) ?_ (λ s hs=>?_) (λ _ h=>h.elim)
 ·refine c8 (I:=λ j s=>s=Lr (Dt b p) j z) rfl (λ j x s hx hs=>?_) λ s hs=>by rw [hs,hzl]
  unfold Ahi
  have hsl:s.length=b.Am.toNat:=by rw [hs,Iq,hzl]
  refine (c8 (I:=λ k r=>r=Hm ((Dt b p).take k) s) (A:=λ r=>r=Hm (Dt b p) s) (B:=λ (_:Unit)=>False) rfl (λ k u r hu hr=>?_) λ r hr=>?_).inner (λ r hr=>c7 (by rw [hr,hs,Lg])) (λ _ h=>h.elim)
  ·have hk:=(aa.1 hu).1
   have hcnt:cnt 0 k=(k:Int):=Cw (by omega)
   have hrl:r.length=b.Am.toNat:=by rw [hr,Ma,hsl]
   obtain⟨⟨a0,a1⟩,hkind⟩:=h.br u (ae hu)
   obtain⟨v,hv⟩:∃ v,p.Ai[k]? = some v:=⟨_,ai (by omega)⟩
   have hzk:(Dt b p)[k]? = some (u,v):=by unfold Dt;rw [List.getElem?_zip_eq_some];exact⟨hu,hv⟩
   have hnext:Hm ((Dt b p).take (k+1)) s=G2 r (u,v):=by
    rw [Bp hzk,Hm,ba,hr];rfl
   rw [hnext]
   have hB:u.Kind=1->0<=u.B/\u.B<b.Am:=λ e=>by omega
   unfold Ahh
   rw [hcnt,By hv]
   by_cases k1:u.Kind=1
   ·have h2:=hB k1
    obtain⟨ga,hga⟩:∃ ga,r[u.A.toNat]? = some ga:=⟨_,ai (by omega)⟩
    obtain⟨gb,hgb⟩:∃ gb,r[u.B.toNat]? = some gb:=⟨_,ai (by omega)⟩
    have hda:r.getD u.A.toNat false=ga:=by simp [List.getD,hga]
    have hdb:r.getD u.B.toNat false=gb:=by simp [List.getD,hgb]
    have ea:getI r u.A=some ga:=by have:=By hga;rwa [bF a0] at this
    have eb:getI r u.B=some gb:=by have:=By hgb;rwa [bF h2.1] at this
    rw [dG.2 k1]
    refine Ok.bind (P:=λ w=>w=v) (cT (λ _=>Ok.pure rfl) λ hn=>(hn ⟨rfl,trivial⟩).elim) λ w hw=>?_
    subst hw
    cases w with
    | false=>
     refine Ok.bind (P:=λ _=>True) (d9 (λ _=>d8 a0 (by omega)) λ _=>trivial) λ _ _=>?_
     refine Ok.bind (P:=λ _=>True) (d9 (λ _=>d8 h2.1 (by omega)) λ _=>trivial) λ _ _=>?_
     refine c6 (λ hq=>by simp [T_] at hq) (λ _=>c7 ?_)
     unfold G2
     rw [if_neg (by simp)]
    | true=>
     rw [ea,eb]
     refine Ok.bind (P:=λ w=>w=ga) (cT (λ _=>Ok.pure rfl) λ hn=>(hn ⟨rfl,trivial⟩).elim) λ w hw=>?_
     subst hw
     refine Ok.bind (P:=λ x=>(w || x)=(w || gb)) (cT (λ _=>Ok.pure rfl) λ hn=>?_) λ x hx=>?_
     ·cases w with
      | true=>rfl
      | false=>exact (hn ⟨rfl,rfl,trivial⟩).elim
     have hc8:T_ u true w x=(w || gb):=by
      unfold T_
      rw [hx,dG.2 k1];rfl
     rw [hc8]
     refine c6 (λ hq=>?_) (λ hq=>c7 ?_)
     ·refine Ok.bind (P:=λ _=>True) (dg rfl) λ _ _=>(cY a0 (by omega)).bind λ r1 e1=>?_
      refine (d8 h2.1 (by rw [e1];simp;omega)).bind λ _ _=>(cY h2.1 (by rw [e1];simp;omega)).bind λ r2 e2=>c7 ?_
      rw [e2,e1]
      unfold G2
      rw [if_pos ⟨⟨k1,rfl⟩,by rw [hda,hdb];exact hq⟩]
     ·unfold G2
      rw [if_neg (λ e=>by have:=e.2;rw [hda,hdb,hq] at this;cases this)]
   ·have k0:(u.Kind==1)=false:=dH.2 k1
    rw [k0]
    refine Ok.bind (P:=λ _=>True) (cT (λ hg=>absurd hg.1 (by simp)) λ _=>trivial) λ y7 _=>?_
    refine Ok.bind (P:=λ _=>True) (cT (λ hg=>absurd hg.1 (by simp)) λ _=>trivial) λ y9 _=>?_
    refine Ok.bind (P:=λ _=>True) (cT (λ hg=>absurd hg.1 (by simp)) λ _=>trivial) λ y11 _=>?_
    refine c6 (λ hq=>by simp [T_,k0] at hq) (λ _=>c7 ?_)
    unfold G2
    rw [if_neg (λ e=>k1 e.1.1)]
  ·have:b.Ah.length=(Dt b p).length:=by unfold Dt;rw [List.length_zip];omega
   rw [hr,this,aB]
 ·have hsl:s.length=b.Am.toNat:=by rw [hs,Iq,hzl]
  have hval:∀ i,i<b.Am.toNat->s.getD i false=((groups b p).getD i 0==(groups b p).getD n 0):=by
   intro i hi
   rw [bP,dG,X9 h p hi hn]
   have hg:∀ r,Got (Dt b p) n (Lr (Dt b p) r z):=by
    intro r
    induction r with
    | zero=>exact hzg
    | succ r ih=>
     rw [Lg]
     refine X3 (m:=b.Am.toNat) _ _ (by rw [Iq,hzl]) (λ y hy=>⟨hy,λ hk=>?_⟩) ih
     have:=h.br y.1 (bV hy).1
     unfold R9 at this
     omega
   constructor
   ·intro e
    rw [hs] at e
    exact (hg _ i (by rw [Iq,hzl];exact hi) e).symm
   ·intro c
    rw [hs]
    exact Ah9 hL hzl hzn _ i hi (Yo hL hn c.symm)
  refine Ok.andThen (A:=λ y=>y=Ke b p n) (B:=λ (_:Unit)=>False) ?_ (λ y hy=>Ok.pure hy) (λ _ h=>h.elim)
  refine c8 (I:=λ j y=>y=((List.range j).filter λ i=>(groups b p).getD i 0==(groups b p).getD n 0).map λ (i:Nat)=>(i:Int)) rfl (λ j x y hx hy=>?_) λ y hy=>?_
  ·have hj:=(aa.1 hx).1
   have hcnt:cnt 0 j=(j:Int):=Cw (by omega)
   have hv:=hval j (by omega)
   have hxd:s.getD j false=x:=by simp [List.getD,hx]
   rw [hxd] at hv
   have hyl2:y.length<=j:=by rw [hy];exact E9 _ j
   rw [Gv,←hy]
   unfold Ahg
   refine c6 (λ hq=>?_) (λ hq=>c7 ?_)
   ·refine (cW (by simp;omega)).bind λ w hw=>c7 ?_
    rw [hw,hcnt,if_pos (by rw [←hv];exact hq)]
   ·rw [if_neg (by rw [←hv,hq];simp),aZ]
  ·rw [hy,hsl];rfl
def ofZ (b:Aa) (k i:Int):List (Ak×Nat):=b.Ah.zipIdx.filter λ z=>z.1.Kind==k&&z.1.B==i
theorem Aij {b:Aa} {k:Int} (hk:k≠1) (i:Int):(ofL b λ x=>Kt k i x)=(ofZ b k i).map λ z=>(z.2:Int):=by
 unfold ofL ofZ
 congr 1
 exact List.filter_congr λ z _=>Aqi k hk i z.1
theorem Z9 {b:Aa} {k i:Int} {z:Ak×Nat} (h:z∈ofZ b k i):b.Ah[z.2]? = some z.1:=by
 have:=(ax.1 h).1
 rwa [List.mem_zipIdx_iff_getElem?] at this
theorem Aam (q:Ak->Bool) (C:List Bool):∀ (l:List Ak) (c:List Bool) (k:Nat),C.drop k=c->l.length=c.length ->
  (((l.zipIdx k).filter λ z=>q z.1).find? λ z=>C.getD z.2 false).map (·.1)=((l.zip c).find? λ z=>q z.1&&z.2).map (·.1)
 | [],_,_,_,_=>by simp
 | x::l,[],_,_,h=>by simp at h
 | x::l,v::c,k,hd,h=>by
  have hv:C[k]? = some v:=by
   have:=congrArg (·[0]?) hd
   simpa [List.getElem?_drop] using this
  have hd':C.drop (k+1)=c:=by rw [←bM,hd];rfl
  have ih:=Aam q C l c (k+1) hd' (by simpa using h)
  have hg:C.getD k false=v:=by simp [List.getD,hv]
  simp only [List.zipIdx_cons,aT,cj,cM]
  cases hq:q x with
  | false=>simpa only [Bool.false_and,bm,if_false] using ih
  | true=>
   simp only [if_true,cM,hg,bv]
   cases v with
   | false=>exact ih
   | true=>rfl
theorem Al3 {b:Aa} {p:Ad} (hc:p.Ai.length=b.Ah.length) (k i:Int):E6 b p k i=((ofZ b k i).find? λ z=>p.Ai.getD z.2 false).map (·.1.A):=by
 have:=Aam (λ x=>x.Kind==k&&x.B==i) p.Ai b.Ah p.Ai 0 rfl (by omega)
 unfold E6 ofZ
 have h2:=congrArg (Option.map (·.A)) this
 simp only [Option.map_map] at h2
 exact h2.symm
theorem Yp {b:Aa} {p:Ad} (hc:p.Ai.length=b.Ah.length) {k i:Int} {z:Ak×Nat} (h:z∈ofZ b k i):p.Ai[z.2]? = some (p.Ai.getD z.2 false):=by
 have:=(aa.1 (Z9 h)).1
 rw [ai (by omega)]
 simp [List.getD,List.getElem?_eq_getElem (show z.2<p.Ai.length by omega)]
theorem qM {b:Aa} (h:Ax b) {p:Ad} (hp:Av b p) (i:Int):Xn b p i=some (Fj (G9 b p i)):=by
 have hn:=hp.nso
 have hc:=hp.ncl
 refine d5 ?_
 unfold Xn
 rw [K4 h hp]
 simp only [ac]
 by_cases hi:0<=i/\i<b.Ae.length
 ·obtain⟨x,hx⟩:∃ x,p.Ae[i.toNat]? = some x:=⟨_,ai (by omega)⟩
  have hg:getI p.Ae i=some x:=by have:=By hx;rwa [bF hi.1] at this
  have hd:p.Ae.getD i.toNat default=x:=by simp [List.getD,hx]
  have hcond:((((0:Int) != 0) || (decide (i<0))) || (decide (i>=(b.Ae.length:Int))))=false:=by
   rw [cm];intro e;simp at e;omega
  rw [hcond,hg]
  refine Ok.bind (P:=λ y=>y=x) (cT (λ _=>Ok.pure rfl) λ hn=>(hn ⟨rfl,trivial⟩).elim) λ y hy=>?_
  subst hy
  refine c6 (λ hq=>Ok.pure ?_) (λ hq=>?_)
  ·simp only [Yv,hcond,aV,bne_iff_ne,ne_eq] at hq
   unfold G9
   rw [if_neg (λ e=>by rw [hd] at e;exact hq e.2.2)];rfl
  ·simp only [Yv,hcond,aV,dL] at hq
   have hcon:G9 b p i=E6 b p 2 i:=by
    unfold G9
    rw [if_pos ⟨hi.1,by omega,by rw [hd];exact hq⟩]
   rw [Aa6 h,Aij (by decide),hcon,Al3 hc]
   simp only [ac]
   obtain⟨n,rfl⟩:∃ n:Nat,i=(n:Int):=⟨i.toNat,by omega⟩
   have hlen:=Z_ (b:=b) (k:=2) (by decide) n
   rw [Aij (by decide),h.one n (by omega),au] at hlen
   obtain⟨z,hz⟩:=List.length_eq_one_iff.1 hlen
   have hzm:z∈ofZ b 2 (n:Int):=by rw [hz];exact ak
   have hcz:=Yp hc hzm
   have hbz:=Z9 hzm
   rw [hz]
   show Ok ((getI [(z.2:Int)] 0).bind _) _
   rw [show getI [(z.2:Int)] 0=some (z.2:Int) from rfl]
   simp only [ac,By hcz,cM,List.find?_nil]
   cases hv:p.Ai.getD z.2 false with
   | false=>exact Ok.pure rfl
   | true=>
    simp only [aR,cond_false,By hbz,ac]
    exact Ok.pure rfl
 ·refine Ok.bind (P:=λ _=>True) (cT (λ hg=>?_) λ _=>trivial) λ y _=>?_
  ·have:=hg.1
   simp at this;omega
  refine c6 (λ hq=>Ok.pure ?_) (λ hq=>?_)
  ·unfold G9
   rw [if_neg (λ e=>hi (by omega))];rfl
  ·simp [Yv] at hq;omega
theorem Arn {b:Aa} (h:Ax b) {p:Ad} (hp:Av b p) {i:Int} (h0:0<=i) (h1:i<b.Ag.length):Aej b p i=some (Fj (E6 b p 3 i)):=by
 have hc:=hp.ncl
 refine d5 ?_
 unfold Aej
 rw [K4 h hp]
 simp only [ac]
 refine c6 (λ hq=>?_) (λ _=>?_)
 ·simp [Ank] at hq;omega
 rw [Aa6 h,Aij (by decide),Al3 hc]
 simp only [ac]
 have key:∀ (m:List (Ak×Nat)) (k:Nat),(∀ z,z∈m->b.Ah[z.2]? = some z.1/\p.Ai[z.2]? = some (p.Ai.getD z.2 false)) ->
   foldI (uJ b p) (m.map λ z=>(z.2:Int)) k ()=match m.find? λ z=>p.Ai.getD z.2 false with
    | some z=>some (.ret (z.1.A,true))
    | none=>some (.next ()):=by
  intro m
  induction m with
  | nil=>intro k _;rfl
  | cons z m ih=>
   intro k hm
   obtain⟨e1,e2⟩:=hm z ak
   simp only [bw,foldI,uJ,By e1,By e2,ac,cM]
   cases p.Ai.getD z.2 false with
   | true=>rfl
   | false=>exact ih (k+1) λ y hy=>hm y (al _ hy)
 rw [key _ 0 λ z hz=>⟨Z9 hz,Yp hc hz⟩]
 cases (ofZ b 3 i).find? λ z=>p.Ai.getD z.2 false with
 | none=>exact Ok.pure rfl
 | some z=>exact Ok.pure rfl
theorem Al8 (l:List Int) (x:Int):Ph l x=some (l.any (· == x)):=by
 unfold Ph
 have:∀ (l:List Int) (k:Nat),foldI (uI x) l k ()=bif l.any (· == x) then some (.ret true) else some (.next ()):=by
  intro l
  induction l with
  | nil=>intro k;rfl
  | cons y l ih=>
   intro k
   simp only [foldI,uI,List.any_cons]
   cases hy:(y==x) with
   | true=>rfl
   | false=>simp only [cond_false,aV];exact ih (k+1)
 rw [this]
 cases l.any (· == x) <;> rfl
theorem Aaq {b:Aa} {p:Ad} {n:Nat} {a:Int} (h0:0<=a) (h1:a<b.Am):(Ke b p n).any (· == a)=((groups b p).getD a.toNat 0==(groups b p).getD n 0):=by
 rw [bP,List.any_eq_true]
 constructor
 ·rintro⟨x,hx,e⟩
  rw [dG] at e;subst e
  obtain⟨i,hi,rfl⟩:=ao.1 hx
  rw [aE]
  exact (ax.1 hi).2
 ·intro e
  refine⟨a,ao.2 ⟨a.toNat,ax.2 ⟨aY.2 (by omega),e⟩,by omega⟩,by simp⟩
theorem J2 {b:Aa} (h:Ax b) (p:Ad) {n:Nat} (hn:n<b.Am.toNat):0<=(groups b p).getD n 0/\((groups b p).getD n 0).toNat<=n/\(((groups b p).getD n 0).toNat:Int)=(groups b p).getD n 0:=by
 have:=Tj h p n _ (Ax9 (by rw [Jg];exact hn))
 omega
theorem Af7 {b:Aa} (h:Ax b) {p:Ad} (hp:Av b p) {n:Nat} (hn:n<b.Am.toNat):Pi b p (n:Int)=some (isl b p ((groups b p).getD n 0).toNat,true):=by
 have hso:=h.sol
 have hco:=h.col
 have hg:=J2 h p hn
 refine d5 ?_
 unfold Pi
 rw [K4 h hp]
 simp only [ac]
 refine c6 (λ hc=>?_) (λ _=>?_)
 ·simp [Anx] at hc;omega
 rw [Aqg h hp hn]
 simp only [ac]
 refine Ok.andThen (A:=λ s=>s.2=Gs b p b.Ae.length ((groups b p).getD n 0).toNat) (B:=λ (_:Unit)=>False) ?_ (λ s hs=>?_) (λ _ h=>h.elim)
 ·refine c9 (λ s=>(0<=s.1/\s.1<=(b.Ae.length:Int))/\s.2=Gs b p s.1.toNat ((groups b p).getD n 0).toNat) (λ s=>((b.Ae.length:Int)-s.1).toNat) _ _ ?_ ?_ ?_
  ·exact⟨by dsimp only;omega,rfl⟩
  ·dsimp only;omega
  ·rintro⟨i,s⟩ ⟨⟨g1,g2⟩,g3⟩
   dsimp only at g1 g2 g3
   unfold Ahu Anw
   dsimp only
   have hsl:s.length<=i.toNat:=by rw [g3];exact E9 _ _
   refine c6 (λ hq=>?_) (λ hq=>cX ?_)
   ·simp only [dE] at hq
    have e1:w64 (i+1)=i+1:=A0 (by omega)
    have e2:(i+1).toNat=i.toNat+1:=by omega
    have e3:((i.toNat:Nat):Int)=i:=by omega
    rw [e1,qM h hp]
    simp only [ac,Al8]
    have hnext:Gs b p (i.toNat+1) ((groups b p).getD n 0).toNat=s++if (G3 b p (G9 b p i)==some (((groups b p).getD n 0).toNat:Int))=true then [i] else []:=by
     unfold Gs at g3 ⊢
     rw [Gv,←g3,e3]
    have hskip:(G3 b p (G9 b p i)==some (((groups b p).getD n 0).toNat:Int))=false->Ok (some (.next (i+1,s)):Option (Ctl (Int×List Int) Unit)) (Hw (λ s'=>((0<=s'.1/\s'.1<=(b.Ae.length:Int))/\s'.2=Gs b p s'.1.toNat ((groups b p).getD n 0).toNat)/\((b.Ae.length:Int)-s'.1).toNat<((b.Ae.length:Int)-i).toNat) (λ s=>s.2=Gs b p b.Ae.length ((groups b p).getD n 0).toNat) (λ _=>False)):=by
     intro hf
     refine c7 ⟨⟨by dsimp only;omega,?_⟩,by dsimp only;omega⟩
     dsimp only
     rw [e2,hnext,hf];simp
    cases hco:G9 b p i with
    | none=>
     refine Ok.bind (P:=λ _=>True) (cT (λ hg=>absurd hg.1 (by simp [Fj])) λ _=>trivial) λ y _=>?_
     refine c6 (λ hq=>by simp [Fj] at hq) (λ _=>hskip (by rw [hco];rfl))
    | some a=>
     have ha:=Ach h hco
     refine Ok.bind (P:=λ y=>y=(Ke b p n).any (· == a)) (cT (λ _=>Ok.pure rfl) λ hn=>(hn ⟨rfl,trivial⟩).elim) λ y hy=>?_
     rw [Aaq ha.1 ha.2] at hy
     have hgr:(G3 b p (G9 b p i)==some (((groups b p).getD n 0).toNat:Int))=((groups b p).getD a.toNat 0==(groups b p).getD n 0):=by
      rw [hco,hg.2.2];rfl
     refine c6 (λ hq=>?_) (λ hq=>?_)
     ·simp only [Fj,bv] at hq
      refine (cW (by simp;omega)).bind λ w hw=>c7 ⟨⟨by dsimp only;omega,?_⟩,by dsimp only;omega⟩
      dsimp only
      rw [e2,hnext,hgr,←hy,hq,hw];rfl
     ·simp only [Fj,bv] at hq
      exact hskip (by rw [hgr,←hy,hq])
   ·simp only [dF] at hq
    dsimp only
    rw [g3]
    have:i.toNat=b.Ae.length:=by omega
    rw [this]
 ·refine Ok.andThen (A:=λ s=>s.2=Ho b p b.Ag.length ((groups b p).getD n 0).toNat) (B:=λ (_:Unit)=>False) ?_ (λ t ht=>Ok.pure ?_) (λ _ h=>h.elim)
  ·refine c9 (λ s=>(0<=s.1/\s.1<=(b.Ag.length:Int))/\s.2=Ho b p s.1.toNat ((groups b p).getD n 0).toNat) (λ s=>((b.Ag.length:Int)-s.1).toNat) _ _ ?_ ?_ ?_
   ·exact⟨by dsimp only;omega,rfl⟩
   ·dsimp only;omega
   ·rintro⟨i,s⟩ ⟨⟨g1,g2⟩,g3⟩
    dsimp only at g1 g2 g3
    unfold Aht Anv
    dsimp only
    have hsl:s.length<=i.toNat:=by rw [g3];exact E9 _ _
    refine c6 (λ hq=>?_) (λ hq=>cX ?_)
    ·simp only [dE] at hq
     have e1:w64 (i+1)=i+1:=A0 (by omega)
     have e2:(i+1).toNat=i.toNat+1:=by omega
     have e3:((i.toNat:Nat):Int)=i:=by omega
     rw [e1,Arn h hp g1 hq]
     simp only [ac,Al8]
     have hnext:Ho b p (i.toNat+1) ((groups b p).getD n 0).toNat=s++if (G3 b p (E6 b p 3 i)==some (((groups b p).getD n 0).toNat:Int))=true then [i] else []:=by
      unfold Ho at g3 ⊢
      rw [Gv,←g3,e3]
     have hskip:(G3 b p (E6 b p 3 i)==some (((groups b p).getD n 0).toNat:Int))=false->Ok (some (.next (i+1,s)):Option (Ctl (Int×List Int) Unit)) (Hw (λ s'=>((0<=s'.1/\s'.1<=(b.Ag.length:Int))/\s'.2=Ho b p s'.1.toNat ((groups b p).getD n 0).toNat)/\((b.Ag.length:Int)-s'.1).toNat<((b.Ag.length:Int)-i).toNat) (λ s=>s.2=Ho b p b.Ag.length ((groups b p).getD n 0).toNat) (λ _=>False)):=by
      intro hf
      refine c7 ⟨⟨by dsimp only;omega,?_⟩,by dsimp only;omega⟩
      dsimp only
      rw [e2,hnext,hf];simp
     cases hco:E6 b p 3 i with
     | none=>
      refine Ok.bind (P:=λ _=>True) (cT (λ hg=>absurd hg.1 (by simp [Fj])) λ _=>trivial) λ y _=>?_
      refine c6 (λ hq=>by simp [Fj] at hq) (λ _=>hskip (by rw [hco];rfl))
     | some a=>
      have ha:=Ns h hco
      refine Ok.bind (P:=λ y=>y=(Ke b p n).any (· == a)) (cT (λ _=>Ok.pure rfl) λ hn=>(hn ⟨rfl,trivial⟩).elim) λ y hy=>?_
      rw [Aaq ha.1 ha.2] at hy
      have hgr:(G3 b p (E6 b p 3 i)==some (((groups b p).getD n 0).toNat:Int))=((groups b p).getD a.toNat 0==(groups b p).getD n 0):=by
       rw [hco,hg.2.2];rfl
      refine c6 (λ hq=>?_) (λ hq=>?_)
      ·simp only [Fj,bv] at hq
       refine (cW (by simp;omega)).bind λ w hw=>c7 ⟨⟨by dsimp only;omega,?_⟩,by dsimp only;omega⟩
       dsimp only
       rw [e2,hnext,hgr,←hy,hq,hw];rfl
      ·simp only [Fj,bv] at hq
       exact hskip (by rw [hgr,←hy,hq])
    ·simp only [dF] at hq
     dsimp only
     rw [g3]
     have:i.toNat=b.Ag.length:=by omega
     rw [this]
  ·rw [hs,ht]
   unfold isl E_ Ke
   rw [hg.2.2]
def Ie (b:Aa) (p:Ad) (f:Nat):Bool:=(groups b p).getD f 0==(f:Int)
theorem La {b:Aa} (h:Ax b) (p:Ad) {n:Nat} (hn:n<b.Am.toNat):Ie b p ((groups b p).getD n 0).toNat=true:=by
 have hg:=J2 h p hn
 unfold Ie
 rw [dG,hg.2.2]
 have hm:((groups b p).getD n 0).toNat<b.Am.toNat:=by omega
 have hL:=Z1 h p
 have hself:Hl (Dt b p) ((groups b p).getD n 0).toNat n:=by
  have hlab:∀ (xs:List Nat) (s:List Int),s.length=b.Am.toNat->Lab (Dt b p) s->Lab (Dt b p) (xs.foldl (λ s _=>Ee (b.Ah.zip p.Ai) s) s):=by
   intro xs
   induction xs with
   | nil=>intro s _ h;exact h
   | cons x xs ih=>
    intro s hl h2
    refine ih _ (by rw [Gn];exact hl) (Q9 _ s hl (λ z hz=>⟨hz,λ hk=>?_⟩) h2)
    have:=h.br z.1 (bV hz).1
    unfold R9 at this
    omega
  refine hlab (List.range b.Am.toNat) (Di b.Am.toNat) (by simp [Di]) ?_ n ?_
  ·intro k hk
   rw [Ls (by simpa [Di] using hk)]
   exact .refl _ k
  ·have:=Jg b p
   unfold groups at this
   rw [this];exact hn
 exact (X9 h p hm hn).2 hself
theorem Ari {b:Aa} (h:Ax b) (p:Ad) {f:Nat} (hf:f<b.Am.toNat):Jr (isl b p f)=Ie b p f:=by
 rw [bP]
 unfold Jr isl E_
 simp only [aX,dH,ne_eq,au]
 constructor
 ·intro e
  have hne:(List.range b.Am.toNat).filter (λ i=>(groups b p).getD i 0==(f:Int))≠[]:=λ e2=>e (by rw [e2];rfl)
  obtain⟨i,hi⟩:=List.exists_mem_of_ne_nil _ hne
  obtain⟨h1,h2⟩:=ax.1 hi
  rw [dG] at h2
  have:=La h p (aY.1 h1)
  rw [h2,aE] at this
  exact this
 ·intro e e2
  have hm:f∈(List.range b.Am.toNat).filter (λ i=>(groups b p).getD i 0==(f:Int)):=ax.2 ⟨aY.2 hf,e⟩
  have:=List.length_pos_iff.2 (List.ne_nil_of_mem hm)
  omega
def Lh (b:Aa) (p:Ad) (n:Nat):List Nat:=(List.range n).filter (Ie b p)
theorem Jf {b:Aa} (h:Ax b) (p:Ad):B_ b p=(Lh b p b.Am.toNat).map (isl b p):=by
 unfold B_ Lh
 rw [List.filter_map]
 congr 1
 exact List.filter_congr λ f hf=>Ari h p (aY.1 hf)
theorem All {b:Aa} (h:Ax b) (p:Ad) {n:Nat} (hn:n<b.Am.toNat):∃ m:Nat,(Ke b p n)[0]? = some (m:Int)/\(m=n↔Ie b p n=true):=by
 have hg:=J2 h p hn
 have hm:((groups b p).getD n 0).toNat<b.Am.toNat:=by omega
 have hgg:=La h p hn
 unfold Ie at hgg
 rw [dG,hg.2.2] at hgg
 have hfind:(List.range b.Am.toNat).find? (λ i=>(groups b p).getD i 0==(groups b p).getD n 0)=some ((groups b p).getD n 0).toNat:=by
  rw [List.find?_range_eq_some]
  refine⟨by rw [dG];exact hgg,aY.2 hm,λ j hj=>?_⟩
  simp only [aX,dH,ne_eq]
  intro e
  have:=J2 h p (n:=j) (by omega)
  omega
 refine⟨((groups b p).getD n 0).toNat,?_,?_⟩
 ·unfold Ke
  rw [az,←List.head?_eq_getElem?,List.head?_filter,hfind];rfl
 ·unfold Ie
  rw [dG];omega
theorem Abf {b:Aa} (h:Ax b) {p:Ad} (hp:Av b p):uG b p=some (B_ b p):=by
 have hbu:=h.buses
 rw [Jf h]
 refine d5 ?_
 unfold uG
 rw [K4 h hp]
 simp only [ac]
 refine c6 (λ hc=>by simp at hc) (λ _=>?_)
 refine Ok.andThen (A:=λ s=>s.2=(Lh b p b.Am.toNat).map (isl b p)) (B:=λ (_:Unit)=>False) ?_ (λ s hs=>Ok.pure hs) (λ _ h=>h.elim)
 refine c9 (λ s=>(0<=s.1/\s.1<=b.Am)/\s.2=(Lh b p s.1.toNat).map (isl b p)) (λ s=>(b.Am-s.1).toNat) _ _ ?_ ?_ ?_
 ·exact⟨by dsimp only;omega,rfl⟩
 ·dsimp only;omega
 ·rintro⟨i,s⟩ ⟨⟨g1,g2⟩,g3⟩
  dsimp only at g1 g2 g3
  unfold Ag9
  dsimp only
  refine c6 (λ hq=>?_) (λ hq=>cX ?_)
  ·simp only [dE] at hq
   obtain⟨n,rfl⟩:∃ n:Nat,i=(n:Int):=⟨i.toNat,by omega⟩
   have hn:n<b.Am.toNat:=by omega
   have e1:w64 ((n:Int)+1)=(n:Int)+1:=A0 (by omega)
   have e2:((n:Int)+1).toNat=n+1:=by omega
   have hg:=J2 h p hn
   obtain⟨m,hm,hmn⟩:=All h p hn
   have hbuses:(isl b p ((groups b p).getD n 0).toNat).Am=Ke b p n:=by
    unfold isl E_ Ke
    rw [hg.2.2]
   rw [aE] at g3
   have hsl:s.length<=n:=by
    rw [g3,au]
    exact aw (aW _ _) (by simp)
   have hnext:Lh b p (n+1)=Lh b p n++if Ie b p n=true then [n] else []:=by
    unfold Lh
    rw [ck,bu]
    congr 1
    cases hq:Ie b p n <;> simp [hq]
   rw [e1,Af7 h hp hn]
   simp only [ac,hbuses]
   have hg0:getI (Ke b p n) 0=some (m:Int):=By (j:=0) hm
   rw [hg0]
   simp only [ac]
   refine c6 (λ hq=>?_) (λ hq=>c7 ⟨⟨by dsimp only;omega,?_⟩,by dsimp only;omega⟩)
   ·simp only [dG] at hq
    have hle:=hmn.1 (by omega)
    refine (cW (by simp;omega)).bind λ w hw=>c7 ⟨⟨by dsimp only;omega,?_⟩,by dsimp only;omega⟩
    dsimp only
    have hgn:((groups b p).getD n 0).toNat=n:=by
     unfold Ie at hle
     rw [dG] at hle;omega
    rw [e2,hnext,if_pos hle,hw,g3,bJ,hgn];rfl
   ·simp only [dH,ne_eq] at hq
    have hle:¬Ie b p n=true:=λ e=>hq (by rw [hmn.2 e])
    dsimp only
    rw [e2,hnext,if_neg hle,aZ,g3]
  ·simp only [dF] at hq
   dsimp only
   have:i.toNat=b.Am.toNat:=by omega
   rw [g3,this]
theorem Afd {b:Aa} (h:Ax b) {p:Ad} (hp:Av b p):uX b p=some (⟨p.Ai,Fp b p,p.An,p.Al⟩,0):=by
 have hn:=hp.nso
 refine d5 ?_
 unfold uX
 rw [K4 h hp]
 simp only [ac]
 refine c6 (λ hc=>by simp at hc) (λ _=>?_)
 refine Ok.bind (P:=λ y=>y=⟨p.Ai,Fp b p,p.An,p.Al⟩) ?_ λ y hy=>Ok.pure (by rw [hy])
 unfold Akk
 rw [Avv h hp,Abf h hp]
 simp only [ac]
 refine Ok.andThen (A:=λ s=>s=Fp b p) (B:=λ (_:Unit)=>False) ?_ (λ s hs=>Ok.pure (by rw [hs])) (λ _ h=>h.elim)
 refine c8 (I:=λ j s=>s=((B_ b p).take j).foldl (Dq p) p.Ae) rfl (λ j x s hx hs=>?_) λ s hs=>?_
 ·have hi:=Pv (ae hx)
  have hl:s.length=p.Ae.length:=by rw [hs,Lk]
  have hnext:((B_ b p).take (j+1)).foldl (Dq p) p.Ae=Dq p s x:=by rw [Bp hx,ba,←hs];rfl
  rw [hnext]
  unfold Ahk
  cases hsrc:x.Ae with
  | nil=>exact c7 (by unfold Dq;rw [hsrc])
  | cons m l=>
   have hm:=hi m (by rw [hsrc];exact ak)
   obtain⟨u,hu⟩:∃ u,p.Ae[m.toNat]? = some u:=⟨_,ai (by omega)⟩
   have hgu:getI p.Ae m=some u:=by have:=By hu;rwa [bF hm.1] at this
   have hd:p.Ae.getD m.toNat default=u:=by simp [List.getD,hu]
   have hf:Dq p s x=Fq u (m::l) s:=by unfold Dq;rw [hsrc];simp only [hd]
   rw [hf]
   have hin:∀ k,k∈m::l->0<=k/\k<p.Ae.length:=λ k hk=>by
    have:=hi k (by rw [hsrc];exact hk)
    omega
   refine (c8 (I:=λ k r=>r=Fq u ((m::l).take k) s) (A:=λ r=>r=Fq u (m::l) s) (B:=λ (_:Unit)=>False) rfl (λ k n r hk hr=>?_) λ r hr=>by rw [hr,aB]).inner (λ r hr=>c7 hr) (λ _ h=>h.elim)
   have hnk:=hin n (ae hk)
   have hrl:r.length=p.Ae.length:=by rw [hr,Ht,hl]
   unfold Ahj
   rw [hsrc,show getI (m::l) 0=some m from rfl]
   simp only [ac,hgu]
   refine (cV hnk.1 (by omega)).bind λ v hv=>(cY hnk.1 (by omega)).bind λ r1 e1=>?_
   have hvg:r1[n.toNat]? = some (⟨v.State,v.Since,u.Aq,v.Phase⟩:Aj):=by rw [e1,bD (by omega)]
   refine Ok.bind (P:=λ w=>w=(⟨v.State,v.Since,u.Aq,v.Phase⟩:Aj)) ((cV hnk.1 (by rw [e1];simp;omega)).mono λ w hw=>by rw [hvg] at hw;cases hw;rfl) λ w hw=>?_
   refine (cY hnk.1 (by rw [e1];simp;omega)).bind λ r2 e2=>c7 ?_
   have hdv:r.getD n.toNat default=v:=by simp [List.getD,hv]
   rw [vM hk,←hr,hdv,e2,e1,hw,List.set_set];rfl
 ·rw [aB] at hs;exact hs
theorem Aqa {ss:List Aj} {n:Nat} (h:n<ss.length):ss.set n (ss.getD n default)=ss:=by
 apply bC
 intro i
 rw [ay]
 split
 ·rename_i e;subst e
  simp [List.getD,List.getElem?_eq_getElem h]
 ·rfl
theorem vN {like:Aj}:∀ (idx:List Int) (ss:List Aj),(∀ i,i∈idx->i.toNat<ss.length/\Wo like (ss.getD i.toNat default)=ss.getD i.toNat default)->Fq like idx ss=ss
 | [],_,_=>rfl
 | i::idx,ss,h=>by
  obtain⟨h1,h2⟩:=h i ak
  show Fq like idx (ss.set i.toNat (Wo like (ss.getD i.toNat default)))=ss
  rw [h2,Aqa h1]
  exact vN idx ss λ j hj=>h j (al _ hj)
theorem Wz {ss:List Aj} {m n:Nat} {y:Aj}:(ss.set m y).getD n default=if m=n/\m<ss.length then y else ss.getD n default:=by
 unfold List.getD
 rw [ay]
 by_cases e:m=n
 ·subst e
  by_cases hl:m<ss.length
  ·simp [hl]
  ·simp [hl]
 ·simp [e]
theorem Xz (like:Aj):∀ (idx:List Int) (ss:List Aj) (n:Nat),((Fq like idx ss).getD n default).State=(ss.getD n default).State
 | [],_,_=>rfl
 | i::idx,ss,n=>by
  show ((Fq like idx _).getD n default).State=_
  rw [Xz like idx,Wz]
  split
  ·rename_i e;rw [←e.1];rfl
  ·rfl
theorem Wp {like:Aj}:∀ (idx:List Int) (ss:List Aj) {n:Nat},(∀ i,i∈idx->i.toNat≠n)->(Fq like idx ss).getD n default=ss.getD n default
 | [],_,_,_=>rfl
 | i::idx,ss,n,h=>by
  show (Fq like idx _).getD n default=_
  rw [Wp idx _ (λ j hj=>h j (al _ hj)),Wz,if_neg (λ e=>h i ak e.1)]
theorem Af0 {like:Aj}:∀ (idx:List Int) (ss:List Aj) {n:Nat},n<ss.length->(∃ i,i∈idx/\i.toNat=n)->((Fq like idx ss).getD n default).Aq=like.Aq/\((Fq like idx ss).getD n default).Phase=like.Phase
 | [],_,_,_,h=>by obtain⟨_,h,_⟩:=h;cases h
 | i::idx,ss,n,hn,h=>by
  by_cases hr:∃ j,j∈idx/\j.toNat=n
  ·exact Af0 idx _ (by simpa using hn) hr
  ·have hi:i.toNat=n:=by
    obtain⟨j,hj,e⟩:=h
    rcases ag.1 hj with rfl | hj
    ·exact e
    ·exact absurd ⟨j,hj,e⟩ hr
   have:(Fq like (i::idx) ss).getD n default=Wo like (ss.getD i.toNat default):=by
    show (Fq like idx _).getD n default=_
    rw [Wp idx _ (λ j hj e=>hr ⟨j,hj,e⟩),Wz,if_pos ⟨hi,by omega⟩]
   rw [this];exact⟨rfl,rfl⟩
def Aey (b:Aa) (p:Ad):Prop:=∀ x,x∈B_ b p->∀ i j,i∈x.Ae->j∈x.Ae ->
 (p.Ae.getD i.toNat default).Aq=(p.Ae.getD j.toNat default).Aq/\(p.Ae.getD i.toNat default).Phase=(p.Ae.getD j.toNat default).Phase
theorem Abm {b:Aa} {p:Ad} (hn:p.Ae.length=b.Ae.length) (h:Aey b p):Fp b p=p.Ae:=by
 have key:∀ l:List Ap,(∀ x,x∈l->x∈B_ b p)->l.foldl (Dq p) p.Ae=p.Ae:=by
  intro l
  induction l with
  | nil=>intro _;rfl
  | cons x l ih=>
   intro hl
   have hx:=hl x ak
   have hst:Dq p p.Ae x=p.Ae:=by
    unfold Dq
    split
    ·rfl
    ·rename_i i r e
     refine vN _ _ λ j hj=>?_
     have hj2:=Pv hx j hj
     have ha:=h x hx i j (by rw [e];exact ak) hj
     refine⟨by omega,?_⟩
     unfold Wo
     rw [ha.1,ha.2]
   rw [bA,hst]
   exact ih λ y hy=>hl y (al _ hy)
 exact key _ λ _ hx=>hx
theorem Afc (p:Ad) (s:List Aj) (x:Ap) (n:Nat):((Dq p s x).getD n default).State=(s.getD n default).State:=by
 unfold Dq
 split
 ·rfl
 ·exact Xz _ _ _ _
theorem zR (b:Aa) (p:Ad) (n:Nat):((Fp b p).getD n default).State=(p.Ae.getD n default).State:=by
 have key:∀ (l:List Ap) (s:List Aj),((l.foldl (Dq p) s).getD n default).State=(s.getD n default).State:=by
  intro l
  induction l with
  | nil=>intro s;rfl
  | cons x l ih=>intro s;rw [bA,ih,Afc]
 exact key _ _
theorem zQ {b:Aa} {p q:Ad} (hc:q.Ai=p.Ai) (hl:q.Ae.length=p.Ae.length) (hs:∀ n:Nat,(q.Ae.getD n default).State=(p.Ae.getD n default).State):B_ b q=B_ b p:=by
 have hled:∀ k i,E6 b q k i=E6 b p k i:=λ k i=>by unfold E6;rw [hc]
 have hgr:groups b q=groups b p:=by unfold groups;rw [hc]
 have hcon:∀ i,G9 b q i=G9 b p i:=λ i=>by unfold G9;rw [hled,hl,hs]
 have hgo:∀ o,G3 b q o=G3 b p o:=λ o=>by unfold G3;rw [hgr]
 have hisl:isl b q=isl b p:=by
  funext f
  unfold isl E_ Gs Ho
  simp only [hgr,hled,hcon,hgo]
 unfold B_
 rw [hisl]
theorem Z3 {b:Aa} {p:Ad} {f:Nat} {i:Int}:i∈(isl b p f).Ae↔∃ k:Nat,i=(k:Int)/\k<b.Ae.length/\G3 b p (G9 b p (k:Int))=some (f:Int):=by
 constructor
 ·intro h
  obtain⟨k,hk,e⟩:=ao.1 h
  obtain⟨h1,h2⟩:=ax.1 hk
  exact⟨k,e.symm,aY.1 h1,by rwa [dG] at h2⟩
 ·rintro⟨k,e,h1,h2⟩
  exact ao.2 ⟨k,ax.2 ⟨aY.2 h1,by rw [dG];exact h2⟩,e.symm⟩
theorem Ap8 {b:Aa} {p:Ad} {f g:Nat} (hfg:f≠g) {i j:Int} (hi:i∈(isl b p f).Ae) (hj:j∈(isl b p g).Ae):i.toNat≠j.toNat:=by
 obtain⟨k,rfl,_,e1⟩:=Z3.1 hi
 obtain⟨m,rfl,_,e2⟩:=Z3.1 hj
 rw [aE,aE]
 intro e;subst e
 rw [e1] at e2
 have:=bc e2
 exact hfg (by omega)
def Aaa (b:Aa) (p:Ad) (f:Nat):Aj:=p.Ae.getD ((isl b p f).Ae.headD 0).toNat default
theorem Abo {b:Aa} {p:Ad} {n:Nat}:∀ (fs:List Nat) (s:List Aj),(∀ f,f∈fs->∀ i,i∈(isl b p f).Ae->i.toNat≠n)->((fs.map (isl b p)).foldl (Dq p) s).getD n default=s.getD n default
 | [],_,_=>rfl
 | f::fs,s,h=>by
  rw [bw,bA,Abo fs _ (λ g hg=>h g (al _ hg))]
  have hf:=h f ak
  unfold Dq
  split
  ·rfl
  ·exact Wp _ _ hf
theorem qD {b:Aa} {p:Ad} (hn:p.Ae.length=b.Ae.length):∀ (fs:List Nat) (s:List Aj),s.length=p.Ae.length->fs.Nodup->∀ f,f∈fs->∀ i,i∈(isl b p f).Ae ->
  (((fs.map (isl b p)).foldl (Dq p) s).getD i.toNat default).Aq=(Aaa b p f).Aq/\(((fs.map (isl b p)).foldl (Dq p) s).getD i.toNat default).Phase=(Aaa b p f).Phase
 | [],_,_,_,_,h,_,_=>by cases h
 | g::fs,s,hs,hnd,f,hf,i,hi=>by
  obtain⟨h1,h2⟩:=List.nodup_cons.1 hnd
  rw [bw,bA]
  by_cases e:f=g
  ·subst e
   rw [Abo fs _ (λ k hk j hj=>Ap8 (λ e=>h1 (by rw [←e];exact hk)) hj hi)]
   obtain⟨k,rfl,hk,_⟩:=Z3.1 hi
   unfold Dq
   split
   ·rename_i e;rw [e] at hi;cases hi
   ·rename_i m r e
    have:Aaa b p f=p.Ae.getD m.toNat default:=by unfold Aaa;rw [e];rfl
    rw [this]
    exact Af0 _ _ (by rw [aE];omega) ⟨_,hi,rfl⟩
  ·rcases ag.1 hf with h | hf
   ·exact absurd h e
   ·exact qD hn fs _ (by rw [Nw];exact hs) h2 f hf i hi
theorem qB {b:Aa} (h:Ax b) {p:Ad} (hn:p.Ae.length=b.Ae.length):Aey b ⟨p.Ai,Fp b p,p.An,p.Al⟩:=by
 have hisl:B_ b ⟨p.Ai,Fp b p,p.An,p.Al⟩=B_ b p:=zQ rfl (Iw b p) (zR b p)
 intro x hx i j hi hj
 rw [hisl,Jf h] at hx
 obtain⟨f,hf,rfl⟩:=ao.1 hx
 have hnd:(Lh b p b.Am.toNat).Nodup:=(List.nodup_range).sublist List.filter_sublist
 have hfl:Fp b p=((Lh b p b.Am.toNat).map (isl b p)).foldl (Dq p) p.Ae:=by
  rw [←Jf h];rfl
 have e1:=qD hn _ p.Ae rfl hnd f hf i hi
 have e2:=qD hn _ p.Ae rfl hnd f hf j hj
 dsimp only
 rw [hfl]
 exact⟨e1.1.trans e2.1.symm,e1.2.trans e2.2.symm⟩
def Is (b:Aa) (p:Ad) (n:Nat):Bool:=decide (((isl b p ((groups b p).getD n 0).toNat).Ae.length:Int)>0)
theorem Alw {b:Aa} (h:Ax b) {p:Ad} (hp:Av b p) {n:Nat} (hn:n<b.Am.toNat):F74 b p (n:Int)=some (Is b p n):=by
 unfold F74
 rw [Af7 h hp hn]
 simp [Is]
theorem An3 {b:Aa} {p:Ad} {n f:Nat} (hn:n<b.Am.toNat):(isl b p f).Am.any ((n:Int) == ·)=((groups b p).getD n 0==(f:Int)):=by
 rw [bP,List.any_eq_true]
 constructor
 ·rintro⟨x,hx,e⟩
  rw [dG] at e;subst e
  obtain⟨i,hi,e⟩:=ao.1 hx
  have:i=n:=by omega
  subst this
  exact (ax.1 hi).2
 ·intro e
  exact⟨n,ao.2 ⟨n,ax.2 ⟨aY.2 hn,e⟩,rfl⟩,by simp⟩
theorem of_eq {b:Aa} (h:Ax b) {p:Ad} (hp:Av b p) {n:Nat} (hn:n<b.Am.toNat):Jv b p (n:Int)=some (isl b p ((groups b p).getD n 0).toNat,true):=by
 have hg:=J2 h p hn
 have hbu:=h.buses
 unfold Jv
 rw [Ko h hp,Jf h]
 simp only [ac]
 have key:∀ (fs:List Nat) (k:Nat),foldI (Qh (n:Int)) (fs.map (isl b p)) k ()=if ((groups b p).getD n 0).toNat∈fs then some (.ret (isl b p ((groups b p).getD n 0).toNat,true)) else some (.next ()):=by
  intro fs
  induction fs with
  | nil=>intro k;rfl
  | cons f fs ih=>
   intro k
   have hbl:(isl b p f).Am.length<=9223372036854775807:=by
    have:=E9 (λ i=>(groups b p).getD i 0==(f:Int)) b.Am.toNat
    simp only [isl,E_]
    omega
   simp only [bw,foldI,Qh,Ge _ _ hbl,ac,An3 hn]
   by_cases e:(groups b p).getD n 0=(f:Int)
   ·have e2:((groups b p).getD n 0).toNat=f:=by omega
    rw [dG.2 e,e2,if_pos ak];rfl
   ·have e2:((groups b p).getD n 0).toNat≠f:=by omega
    rw [dH.2 e]
    simp only [cond_false]
    rw [ih]
    by_cases hm:((groups b p).getD n 0).toNat∈fs
    ·rw [if_pos hm,if_pos (al _ hm)]
    ·rw [if_neg hm,if_neg (λ hh=>(ag.1 hh).elim e2 hm)]
 have hm:((groups b p).getD n 0).toNat∈Lh b p b.Am.toNat:=ax.2 ⟨aY.2 (by omega),La h p hn⟩
 rw [key,if_pos hm]
 rfl
theorem Agd {b:Aa} (h:Ax b) {p:Ad} (hp:Av b p) {n:Nat} (hn:n<b.Am.toNat):Ael b p (n:Int)=some (Is b p n):=by
 unfold Ael
 rw [of_eq h hp hn]
 simp [Is]
theorem Afs {b:Aa} (h:Ax b) {s:Af} (hs:A1 s):Ok (Aah s b) λ y=>(Av b y.1/\Aey b y.1/\y.1.Al.length<=4)/\A1 y.2:=by
 unfold Aah
 refine (Asw h hs).bind λ y hy=>?_
 rw [Afd h hy.1.1]
 exact Ok.pure ⟨⟨Ka hy.1.1 (Iw b _) (Rc hy.1.1),qB h hy.1.1.nso,hy.1.2⟩,hy.2⟩
theorem Add {b:Aa} (h:Ax b) {s:Af} (hs:A1 s):Ok (Y2 s b) λ y=>((∀ t,V1 b t y.1)/\(5<=y.1.Time/\y.1.Time<=20)/\y.1.Bh=[]/\y.1.Power.Al.length<=4)/\A1 y.2:=by
 have hbu:=h.buses
 unfold Y2
 refine (Fu hs 5 20 (by omega) (by omega) (by omega)).bind λ y hy=>(Afs h hy.1).bind λ z hz=>?_
 refine Ok.andThen (A:=λ s=>A1 ⟨s.2.1,s.2.2.1⟩/\s.2.2.2.length=b.Am.toNat/\∀ x,x∈s.2.2.2->(-1<=x.High/\x.High<=4) /\ -1<=x.Low/\x.Low<=4) (B:=λ (_:Unit)=>False) ?_ (λ s hs=>?_) (λ _ h=>h.elim)
 ·refine c9 (λ s=>(0<=s.1/\s.1<=b.Am)/\A1 ⟨s.2.1,s.2.2.1⟩/\(s.2.2.2.length:Int)=s.1/\∀ x,x∈s.2.2.2->(-1<=x.High/\x.High<=4) /\ -1<=x.Low/\x.Low<=4) (λ s=>(b.Am-s.1).toNat) _ _ ?_ ?_ ?_
  ·exact⟨by dsimp only;omega,hz.2,by simp,λ x hx=>by cases hx⟩
  ·dsimp only;omega
  ·rintro⟨i,L,a,l⟩ ⟨⟨g1,g2⟩,g3,g4,g5⟩
   dsimp only at g1 g2 g3 g4 g5
   unfold Adp
   dsimp only
   refine c6 (λ hq=>?_) (λ hq=>cX ?_)
   ·simp only [dE] at hq
    have e1:w64 (i+1)=i+1:=A0 (by omega)
    rw [e1]
    refine (Fu g3 (-1) 4 (by omega) (by omega) (by omega)).bind λ u hu=>(Fu hu.1 (-1) 4 (by omega) (by omega) (by omega)).bind λ v hv=>(cW (by simp;omega)).bind λ w hw=>c7 ?_
    refine⟨⟨by dsimp only;omega,hv.1,by rw [hw];simp;omega,λ x hx=>?_⟩,by dsimp only;omega⟩
    rw [hw] at hx
    rcases am.1 hx with hx | hx
    ·exact g5 x hx
    ·simp only [aC] at hx
     subst hx
     exact⟨hu.2,hv.2⟩
   ·simp only [dF] at hq
    exact⟨g3,by dsimp only;omega,g5⟩
 ·refine Ok.pure ⟨⟨λ t=>?_,hy.2,rfl,hz.1.2.2⟩,hs.1⟩
  exact {
   st:=hz.1.1
   fol:=Abm hz.1.1.nso hz.1.2.1
   time:=by have:=hy.2;dsimp only;omega
   nro:=hs.2.1
   ros:=λ x hx=>by
    have:=hs.2.2 x hx
    have:=hy.2
    unfold Aae
    dsimp only
    omega}
def M0 (b:Aa) (p:Ad) (i:Nat):Bool:=match E6 b p 3 (i:Int) with
 | none=>false
 | some a=>(Is b p a.toNat && !brk p.Al 4 (i:Int)) && !decide (p.An.getD i 0<(b.Ag.getD i default).Least)
def svB (b:Aa) (p:Ad):Nat->Nat->Bool
 | 0,_=>false
 | k+1,i=>M0 b p i&&(b.Ag.getD i default).Needs.all λ n=>svB b p k n.toNat
theorem Alt {ρ:Type} (f:Int->Bool) (l:List Int) (k:Nat) (g:Nat->Int->Unit->Option (Ctl Unit ρ)) (r:Nat->ρ) (hg:∀ i x,x∈l->g i x ()=bif !f x then some (.ret (r i)) else some (.next ())):(l.all f=true/\foldI g l k ()=some (.next ()))\/(l.all f=false/\∃ j,k<=j/\j<k+l.length/\foldI g l k ()=some (.ret (r j))):=by
 induction l generalizing k with
 | nil=>exact .inl ⟨rfl,rfl⟩
 | cons x l ih=>
  simp only [foldI,hg k x ak,List.all_cons]
  cases f x with
  | true=>
   simp only [aR,cond_false,bv]
   rcases ih (k+1) (λ i y hy=>hg i y (al _ hy)) with h | ⟨h,j,h1,h2,h3⟩
   ·exact .inl h
   ·exact .inr ⟨h,j,by omega,by simp only [aL];omega,h3⟩
  | false=>exact .inr ⟨rfl,k,by omega,by simp only [aL];omega,rfl⟩
theorem Gf {b:Aa} {i:Nat} (h:i<b.Ag.length):b.Ag[i]? = some (b.Ag.getD i default):=by
 rw [ai h];simp [List.getD,List.getElem?_eq_getElem h]
theorem Ps {p:Ad} {i:Nat} (h:i<p.An.length):p.An[i]? = some (p.An.getD i 0):=by
 rw [ai h];simp [List.getD,List.getElem?_eq_getElem h]
theorem Au9 {b:Aa} {p:Ad} {rec:Aa->Ad->Int->Option Bool} {f:Int->Bool} {l:List Int} (hl:l.length<=1000) (hr:∀ x,x∈l->rec b p x=some (f x)):Zl rec l b p=some (!l.all f,b,p):=by
 unfold Zl Ad6
 have key:=Alt f l 0 (Uy b p rec) (λ i=>(cnt 0 i,b,p)) (λ i x hx=>by
  unfold Uy Aek
  rw [hr x hx];rfl)
 rcases key with⟨h1,h2⟩ | ⟨h1,j,_,hj,h2⟩
 ·rw [h2,h1];rfl
 ·have hc:cnt 0 j=(j:Int):=Cw (by omega)
  rw [h2,h1,hc]
  show some (decide ((j:Int)>=0),b,p)=_
  rw [dJ (by omega)];rfl
theorem Aqb {b:Aa} (h:Ax b) {p:Ad} (hp:Av b p):∀ (k i:Nat),i<k->i<b.Ag.length->Zr k b p (i:Int)=some (svB b p k i):=by
 intro k
 induction k with
 | zero=>intro i hi;omega
 | succ k ih=>
  intro i hi hc
  have hnl:=hp.nli
  have hbl:p.Al.length<=1000:=by have:=hp.brk.len;omega
  have hcg:=Gf hc
  have hlg:=Ps (p:=p) (i:=i) (by omega)
  have hco:=h.co i _ hcg
  refine d5 ?_
  show Ok (Zs (Zr k) b p (i:Int)) _
  unfold Zs Aem
  rw [E2 h hp,Abw h hp.ncl,By hlg,By hcg]
  simp only [ac,dM,cond_false]
  cases hl:E6 b p 3 (i:Int) with
  | none=>
   refine Ok.bind (P:=λ _=>True) (cT (λ hg=>absurd hg.1 (by simp [Fj])) λ _=>trivial) λ y3 _=>?_
   refine Ok.bind (P:=λ _=>True) (cT (λ hg=>absurd hg.1 (by simp [Fj])) λ _=>trivial) λ y5 _=>?_
   refine Ok.bind (P:=λ _=>True) (cT (λ hg=>absurd hg.1 (by simp [Fj])) λ _=>trivial) λ y7 _=>?_
   refine Ok.bind (P:=λ _=>True) (cT (λ hg=>absurd hg.1 (by simp [Fj])) λ _=>trivial) λ y9 _=>?_
   refine c6 (λ _=>Ok.pure ?_) (λ hq=>by simp [P5,Fj] at hq)
   simp [svB,M0,hl]
  | some a=>
   have ha:=Ns h hl
   obtain⟨m,rfl⟩:∃ m:Nat,a=(m:Int):=⟨a.toNat,by omega⟩
   have hlive:=Agd h hp (n:=m) (by omega)
   simp only [Fj,hlive,Gy hbl]
   refine Ok.bind (P:=λ y=>y=Is b p m) (cT (λ _=>Ok.pure rfl) λ hn=>(hn ⟨rfl,trivial⟩).elim) λ y3 h3=>?_
   subst h3
   have hbase:M0 b p i=((Is b p m && !brk p.Al 4 (i:Int)) && !decide (p.An.getD i 0<(b.Ag.getD i default).Least)):=by
    unfold M0;rw [hl];simp
   cases hlv:Is b p m with
   | false=>
    refine Ok.bind (P:=λ _=>True) (d9 (λ _=>dg rfl) λ _=>trivial) λ y5 _=>?_
    refine Ok.bind (P:=λ _=>True) (d9 (λ _=>dg rfl) λ _=>trivial) λ y7 _=>?_
    refine Ok.bind (P:=λ _=>True) (d9 (λ _=>dg rfl) λ _=>trivial) λ y9 _=>?_
    refine c6 (λ _=>Ok.pure ?_) (λ hq=>by simp [P5] at hq)
    simp [svB,hbase,hlv]
   | true=>
    refine Ok.bind (P:=λ y=>y=brk p.Al 4 (i:Int)) (cT (λ _=>Ok.pure rfl) λ hn=>(hn ⟨rfl,trivial⟩).elim) λ y5 h5=>?_
    subst h5
    cases hbr:brk p.Al 4 (i:Int) with
    | true=>
     refine Ok.bind (P:=λ _=>True) (d9 (λ _=>dg rfl) λ _=>trivial) λ y7 _=>?_
     refine Ok.bind (P:=λ _=>True) (d9 (λ _=>dg rfl) λ _=>trivial) λ y9 _=>?_
     refine c6 (λ _=>Ok.pure ?_) (λ hq=>by simp [P5] at hq)
     simp [svB,hbase,hbr]
    | false=>
     refine Ok.bind (P:=λ y=>y=p.An.getD i 0) (cT (λ _=>Ok.pure rfl) λ hn=>(hn ⟨rfl,trivial⟩).elim) λ y7 h7=>?_
     refine Ok.bind (P:=λ y=>y=b.Ag.getD i default) (cT (λ _=>Ok.pure rfl) λ hn=>(hn ⟨rfl,trivial⟩).elim) λ y9 h9=>?_
     subst h7;subst h9
     refine c6 (λ hq=>Ok.pure ?_) (λ hq=>?_)
     ·simp only [P5,aR,aV] at hq
      show false=(M0 b p i&&_)
      rw [hbase,hq];simp
     ·simp only [P5,aR,aV] at hq
      have hb1:M0 b p i=true:=by rw [hbase,hlv,hbr,hq];rfl
      have hsv:svB b p (k+1) i=(b.Ag.getD i default).Needs.all λ n=>svB b p k n.toNat:=by
       show (M0 b p i&&_)=_
       rw [hb1,bv]
      rw [Au9 (f:=λ n=>svB b p k n.toNat) (by have:=hco.2.2.2.2.1;omega) (λ x hx=>?_)]
      ·rw [hsv]
       refine Ok.pure ?_
       simp
      ·have hx2:=hco.2.2.2.2.2.1 x hx
       have hih:=ih x.toNat (by omega) (by omega)
       rwa [bF hx2.1] at hih
theorem Ah6 {b:Aa} (h:Ax b) {p:Ad} (hp:Av b p) {i:Nat} (hi:i<b.Ag.length):Ato b p (i:Int)=some (svB b p 1000 i):=by
 have:=h.col
 exact Aqb h hp 1000 i (by omega) hi
theorem zW {m n:Int} (h0:0<=m) (h:m<=n):m*m<=n*n:=Int.mul_le_mul h h h0 (by omega)
theorem Auz {x:Int} (h0:0<=x) (h1:x<=1000000000000000000):Ok (Akl x) λ y=>y.2=0/\0<=y.1/\y.1*y.1<=x/\x<(y.1+1)*(y.1+1):=by
 unfold Akl
 refine c6 (λ hc=>?_) (λ _=>?_)
 ·simp only [Anm,aA,dE] at hc;omega
 refine Ok.andThen (A:=λ s=>0<=s.1/\s.1*s.1<=x/\x<(s.1+1)*(s.1+1)) (B:=λ (_:Unit)=>False) ?_ (λ s hs=>Ok.pure ⟨rfl,hs⟩) (λ _ h=>h.elim)
 refine c9 (λ s=>(0<=s.1/\s.1<=s.2/\s.2<=1000000000)/\s.1*s.1<=x/\x<(s.2+1)*(s.2+1)) (λ s=>(s.2-s.1).toNat) _ _ ?_ ?_ ?_
 ·refine⟨by dsimp only;omega,by dsimp only;omega,by dsimp only;omega⟩
 ·dsimp only;omega
 ·rintro⟨l,u⟩ ⟨⟨g1,g2,g3⟩,g4,g5⟩
  dsimp only at g1 g2 g3 g4 g5
  unfold Ahl Anl
  dsimp only
  refine c6 (λ hq=>?_) (λ hq=>cX ?_)
  ·simp only [dE] at hq
   obtain⟨m,hm⟩:∃ m,m=(l+u+1) / 2:=⟨_,rfl⟩
   have e1:w64 (Int.tdiv (w64 (w64 (l+u)+1)) 2)=m:=by
    rw [A0 (n:=l+u) (by omega),A0 (n:=l+u+1) (by omega),cF (by omega),←hm,A0 (by omega)]
   have hmm:m*m<=1000000000*1000000000:=zW (by omega) (by omega)
   have hm0:0<=m*m:=Int.mul_nonneg (by omega) (by omega)
   rw [e1,A0 (n:=m*m) (by omega)]
   refine c6 (λ hc=>?_) (λ hc=>?_)
   ·simp only [dE] at hc
    exact c7 ⟨⟨by dsimp only;omega,hc,g5⟩,by dsimp only;omega⟩
   ·simp only [dF] at hc
    rw [A0 (n:=m-1) (by omega)]
    refine c7 ⟨⟨by dsimp only;omega,g4,?_⟩,by dsimp only;omega⟩
    dsimp only
    have:m-1+1=m:=by omega
    rw [this];omega
  ·simp only [dF] at hq
   have:l=u:=by omega
   subst this
   exact⟨g1,g4,g5⟩
theorem Ark {n:Int} (h0:0<=n) (h1:n<=1000000000000000000):(bif decide ((Int.tmod (-n) 1000)<0) then some (w64 ((w64 (Int.tdiv (-n) 1000))-1)) else some (w64 (Int.tdiv (-n) 1000)):Option Int)=some (-((n+999) / 1000)):=by
 have e1:Int.tmod (-n) 1000 = -(n % 1000):=by rw [Int.neg_tmod,Int.tmod_eq_emod_of_nonneg h0]
 have e2:Int.tdiv (-n) 1000 = -(n / 1000):=by rw [Int.neg_tdiv,cF h0]
 rw [e1,e2,A0 (n:=-(n / 1000)) (by omega)]
 by_cases h:-(n % 1000)<0
 ·rw [dJ h,cond_true,A0 (by omega)]
  congr 1;omega
 ·rw [dK h,cond_false]
  congr 1;omega
theorem A2g {n:Int} (h0:0<=n) (h1:n<=1000000000000000000):Aka n 1000=some ((n+999) / 1000,0):=by
 unfold Aka Ad3 Ate Ad2
 have e:Xc n 1000=false:=by
  rw [cm];intro e
  simp [Xc] at e;omega
 have e0:w64 (0-n) = -n:=by rw [A0 (by omega)];omega
 have en:nzI (1000:Int)=some ():=rfl
 rw [e,e0,en]
 simp only [cond_false,ac]
 rw [Ark h0 h1]
 simp only [ac]
 rw [A0 (by omega)]
 congr 2;omega
def V4 (x:Cf):Prop:=∃ f,f∈([0,450,800,1350,1800,2600,3500]:List Int)/\∃ v,v∈([0,100,300,900,1799]:List Int)/\x=⟨f,(f+v) % 3600⟩
theorem A2d {s:Af} (hs:A1 s):Ok (Akf s) λ y=>V4 y.1/\A1 y.2:=by
 unfold Akf
 refine (Cv hs _ (by simp) (by simp)).bind λ u hu=>(Cv hu.1 _ (by simp) (by simp)).bind λ v hv=>Ok.pure ⟨⟨u.1,hu.2,v.1,hv.2,?_⟩,hv.1⟩
 have h1:u.1=0\/u.1=450\/u.1=800\/u.1=1350\/u.1=1800\/u.1=2600\/u.1=3500:=by simpa using hu.2
 have h2:v.1=0\/v.1=100\/v.1=300\/v.1=900\/v.1=1799:=by simpa using hv.2
 rcases h1 with e | e | e | e | e | e | e <;> rcases h2 with e2 | e2 | e2 | e2 | e2 <;> rw [e,e2] <;> rfl
theorem An7 {x:Cf} (h:V4 x):Xm x=true:=by
 obtain⟨f,hf,v,hv,rfl⟩:=h
 have h1:f=0\/f=450\/f=800\/f=1350\/f=1800\/f=2600\/f=3500:=by simpa using hf
 have h2:v=0\/v=100\/v=300\/v=900\/v=1799:=by simpa using hv
 rcases h1 with e | e | e | e | e | e | e <;> rcases h2 with e2 | e2 | e2 | e2 | e2 <;> rw [e,e2] <;> rfl
structure Ji (x:Ay):Prop where
 kind:1<=x.Kind/\x.Kind<=3
 station:0<=x.Station/\x.Station<=1
 max:0<=x.Max/\x.Max<=40
 rate:0<=x.Rate/\x.Rate<=50
 cost:1<=x.Cost/\x.Cost<=100
 arcs:x.Db.length<=4
 arc:∀ a,a∈x.Db->V4 a
theorem Afr {s:Af} (hs:A1 s):Ok (Akt s) λ y=>Ji y.1/\A1 y.2:=by
 unfold Akt
 refine (Fu hs 1 3 (by omega) (by omega) (by omega)).bind λ k hk=>(C4 hk.1 2 (by omega) (by omega)).bind λ st hst=>(Cv hst.1 _ (by simp) (by simp)).bind λ m hm=>(Cv hm.1 _ (by simp) (by simp)).bind λ r hr=>(Cv hr.1 _ (by simp) (by simp)).bind λ c hc=>(C4 hc.1 3 (by omega) (by omega)).bind λ n hn=>?_
 have h1:m.1=0\/m.1=1\/m.1=7\/m.1=20\/m.1=40:=by simpa using hm.2
 have h2:r.1=0\/r.1=1\/r.1=5\/r.1=50:=by simpa using hr.2
 have h3:c.1=1\/c.1=2\/c.1=3\/c.1=100:=by simpa using hc.2
 refine Ok.andThen (A:=λ s=>A1 ⟨s.2.1,s.2.2.1⟩/\s.2.2.2.length<=4/\∀ a,a∈s.2.2.2->V4 a) (B:=λ (_:Unit)=>False) ?_ (λ s hs=>Ok.pure ⟨⟨hk.2,by dsimp only;omega,by dsimp only;omega,by dsimp only;omega,by dsimp only;omega,hs.2.1,hs.2.2⟩,hs.1⟩) (λ _ h=>h.elim)
 refine c9 (λ s=>(0<=s.1/\s.1+(s.2.2.2.length:Int)<=2)/\A1 ⟨s.2.1,s.2.2.1⟩/\∀ a,a∈s.2.2.2->V4 a) (λ s=>s.1.toNat) _ _ ?_ ?_ ?_
 ·exact⟨⟨by dsimp only;omega,by simp;omega⟩,hn.1,λ a ha=>by cases ha⟩
 ·dsimp only;omega
 ·rintro⟨i,L,a,l⟩ ⟨⟨g1,g2⟩,g3,g4⟩
  dsimp only at g1 g2 g3 g4
  unfold Ahr
  dsimp only
  refine c6 (λ hq=>?_) (λ _=>cX ⟨g3,by dsimp only;omega,g4⟩)
  simp only [dE] at hq
  have e1:w64 (i-1)=i-1:=A0 (by omega)
  rw [e1]
  refine (A2d g3).bind λ u hu=>(cW (by simp;omega)).bind λ w hw=>c7 ⟨⟨⟨by dsimp only;omega,by rw [hw];simp;omega⟩,hu.2,λ x hx=>?_⟩,by dsimp only;omega⟩
  rw [hw] at hx
  rcases am.1 hx with hx | hx
  ·exact g4 x hx
  ·simp only [aC] at hx;subst hx;exact hu.1
theorem Av3 {l:List Cf} (h:∀ a,a∈l->V4 a):Zi l=some false:=by
 unfold Zi Ad4
 rw [Dv l 0 λ j a ha=>?_]
 ·rfl
 ·unfold yV Akb
  rw [An7 (h a (ae ha))];rfl
theorem Wa {x:Ay} (h:Ji x):Xq x=some true:=by
 obtain⟨h1,h2,h3,h4,h5,h6,h7⟩:=h
 unfold Xq
 have e:((((((Dp x.Kind 1 3)&&(Dp x.Station 0 1))&&(Dp x.Max 0 5000))&&(Dp x.Rate 0 5000))&&(Dp x.Cost 1 100))&&(decide ((x.Db.length:Int)<=4)))=true:=by
  unfold Dp
  simp only [ab,dE]
  omega
 rw [e,Av3 h7]
 rfl
structure Yz (x:Ca):Prop where
 bow:0<=x.Bow/\x.Bow<=60
 stern:1<=x.Stern/\x.Stern<=40
 len:x.A3.length<=8
 thr:∀ t,t∈x.A3->Ji t
theorem Asu {s:Af} (hs:A1 s) {n:Int} (h0:0<=n/\n<=8):Ok (F83 s n) λ y=>(Yz y.1/\(y.1.A3.length:Int)<=n)/\A1 y.2:=by
 unfold F83
 rw [A0 (by omega)]
 refine (Cv hs _ (by simp) (by simp)).bind λ u hu=>(Cv hu.1 _ (by simp) (by simp)).bind λ v hv=>(C4 hv.1 (n+1) (by omega) (by omega)).bind λ k hn=>?_
 have h1:u.1=0\/u.1=1\/u.1=30\/u.1=60:=by simpa using hu.2
 have h2:v.1=1\/v.1=25\/v.1=40:=by simpa using hv.2
 refine Ok.andThen (A:=λ s=>A1 ⟨s.2.1,s.2.2.1⟩/\(s.2.2.2.length:Int)<=n/\∀ a,a∈s.2.2.2->Ji a) (B:=λ (_:Unit)=>False) ?_ (λ s hs=>Ok.pure ⟨⟨⟨by dsimp only;omega,by dsimp only;omega,by have:=hs.2.1;dsimp only;omega,hs.2.2⟩,hs.2.1⟩,hs.1⟩) (λ _ h=>h.elim)
 refine c9 (λ s=>(0<=s.1/\s.1+(s.2.2.2.length:Int)<=n)/\A1 ⟨s.2.1,s.2.2.1⟩/\∀ a,a∈s.2.2.2->Ji a) (λ s=>s.1.toNat) _ _ ?_ ?_ ?_
 ·have:=hn.2
  exact⟨⟨by dsimp only;omega,by simp;omega⟩,hn.1,λ a ha=>by cases ha⟩
 ·dsimp only;omega
 ·rintro⟨i,L,a,l⟩ ⟨⟨g1,g2⟩,g3,g4⟩
  dsimp only at g1 g2 g3 g4
  unfold Aoh
  dsimp only
  refine c6 (λ hq=>?_) (λ _=>cX ⟨g3,by dsimp only;omega,g4⟩)
  simp only [dE] at hq
  have e1:w64 (i-1)=i-1:=A0 (by omega)
  rw [e1]
  refine (Afr g3).bind λ u hu=>(cW (by simp;omega)).bind λ w hw=>c7 ⟨⟨⟨by dsimp only;omega,by rw [hw];simp;omega⟩,hu.2,λ x hx=>?_⟩,by dsimp only;omega⟩
  rw [hw] at hx
  rcases am.1 hx with hx | hx
  ·exact g4 x hx
  ·simp only [aC] at hx;subst hx;exact hu.1
theorem Alh {x:Ca} (h:Yz x):Xs x=some 0:=by
 have h1:=h.bow
 have h2:=h.stern
 have h3:=h.len
 unfold Xs
 have e1:decide ((x.A3.length:Int)>8)=false:=dK (by omega)
 have e2:Ac1 x=false:=by
  rw [cm];intro e
  simp only [Ac1,aA,ab,dE,dG] at e
  omega
 have e3:Zm x.A3=some false:=by
  unfold Zm Ad8
  rw [Dv x.A3 0 λ j a ha=>?_]
  ·rfl
  ·unfold zD Ati
   rw [Wa (h.thr a (ae ha))];rfl
 rw [e1,e2,e3];rfl
theorem qL {x:Ay} (h:Ji x) {l:Int} (h0:0<=l) (h1:l<=5000):0<=l*l*x.Cost/\l*l*x.Cost<=2500000000:=by
 have hc:=h.cost
 have h2:l*l<=5000*5000:=zW h0 h1
 have h3:0<=l*l:=Int.mul_nonneg h0 h0
 have h4:l*l*x.Cost<=25000000*100:=Int.mul_le_mul (by omega) (by omega) (by omega) (by omega)
 exact⟨Int.mul_nonneg h3 (by omega),by omega⟩
theorem Au4 {x:Ay} (h:Ji x) {l:Int} (h0:0<=l) (h1:l<=5000):w64 ((w64 ((w64 (l*l))+(w64 (0*0))))*x.Cost)=l*l*x.Cost:=by
 have hc:=qL h h0 h1
 have h2:l*l<=5000*5000:=zW h0 h1
 have h3:0<=l*l:=Int.mul_nonneg h0 h0
 have e0:w64 (0*0)=0:=by rw [A0 (by omega)];rfl
 rw [A0 (n:=l*l) (by omega),e0,Int.add_zero,A0 (n:=l*l) (by omega),A0 (by omega)]
theorem Aqp {x:Ay} (h:Ji x) {l:Int} (h0:0<=l) (h1:l<=5000):Akm x ⟨l,0⟩=some ((l*l*x.Cost+999) / 1000,0):=by
 have hc:=qL h h0 h1
 unfold Akm
 have e:Xl ⟨l,0⟩=true:=by
  unfold Xl
  simp only [ab,dE];omega
 rw [Wa h,e]
 simp only [ac,aR,Bool.or_self,cond_false]
 rw [Au4 h h0 h1,A2g hc.1 (by omega)];rfl
theorem Ava {x:Ay} (h:Ji x) (w:Int):Ok (Aku x w) λ y=>(0<=y/\y<=x.Max)/\(0<=w->(y*y*x.Cost+999) / 1000<=w):=by
 have hm:=h.max
 have hc:=h.cost
 have hci:=qL h hm.1 (by omega)
 unfold Aku
 rw [Aqp h hm.1 (by omega)]
 simp only [ac]
 refine c6 (λ hq=>Ok.pure ⟨⟨by omega,hm.1⟩,λ hw=>by simp only [Int.mul_zero,Int.zero_mul];omega⟩) (λ hq=>?_)
 simp only [dM,aV,dF] at hq
 refine c6 (λ ha=>?_) (λ ha=>?_)
 ·simp only [dE] at ha
  exact Ok.pure ⟨⟨hm.1,by omega⟩,λ _=>by omega⟩
 ·simp only [dF] at ha
  refine (Ok.nzI (by omega)).bind λ _ _=>?_
  have hlt:1000*w<x.Max*x.Max*x.Cost:=by omega
  have hd0:0<=1000*w / x.Cost:=Int.ediv_nonneg (by omega) (by omega)
  have hd1:1000*w / x.Cost<=1000*w:=Int.ediv_le_self _ (by omega)
  rw [A0 (n:=1000*w) (by omega),cF (by omega),A0 (n:=1000*w / x.Cost) (by omega)]
  refine (Auz hd0 (by omega)).bind λ f hf=>Ok.pure ?_
  obtain⟨_,f0,f1,_⟩:=hf
  have hmul:1000*w / x.Cost*x.Cost<=1000*w:=Int.ediv_mul_le _ (by omega)
  have hff:f.1*f.1*x.Cost<=1000*w / x.Cost*x.Cost:=Int.mul_le_mul_of_nonneg_right f1 (by omega)
  refine⟨⟨f0,?_⟩,λ _=>by omega⟩
  rcases Int.lt_or_le x.Max f.1 with hgt | hle
  ·exfalso
   have:=zW hm.1 (Int.le_of_lt hgt)
   have:=Int.mul_le_mul_of_nonneg_right this (show 0<=x.Cost by omega)
   omega
  ·exact hle
theorem Yc (n:Int):∀ (l:List A7) (k:Nat),foldI (Vf n) l k ()=match l.findIdx? λ x=>x.Thruster==n with
  | some j=>some (.ret (cnt 0 (k+j),n))
  | none=>some (.next ())
 | [],_=>rfl
 | x::l,k=>by
  simp only [foldI,Vf,Aev,List.findIdx?_cons]
  cases hq:(x.Thruster==n) with
  | true=>rfl
  | false=>
   simp only [cond_false,bm,if_false]
   rw [Yc n l (k+1)]
   cases l.findIdx? λ x=>x.Thruster==n with
   | none=>rfl
   | some j=>
    have e:k+1+j=k+(j+1):=by omega
    simp only [aU,e]
theorem Arm {b:Aa} (h:Ax b) (n:Int):Zt b.Ag n=some (Jq (λ x:A7=>x.Thruster==n) b.Ag,n):=by
 have hc:=h.col
 unfold Zt Jq
 rw [Yc]
 cases hf:b.Ag.findIdx? λ x=>x.Thruster==n with
 | none=>rfl
 | some j=>
  rw [cG] at hf
  obtain⟨hj,_⟩:=hf
  have e:cnt 0 (0+j)=(j:Int):=by rw [aI];exact Cw (by omega)
  simp only [e];rfl
theorem Agg {α:Type} {q:α->Bool} {xs:List α} (h:0<=Jq q xs):∃ j:Nat,Jq q xs=(j:Int)/\j<xs.length:=by
 unfold Jq at h ⊢
 cases hf:xs.findIdx? q with
 | none=>rw [hf] at h;simp at h
 | some j=>
  rw [cG] at hf
  exact⟨j,rfl,hf.1⟩
def own (b:Aa) (i:Nat):Int:=Jq (λ x:A7=>x.Thruster==(i:Int)) b.Ag
def Ql (b:Aa) (p:Ad) (i:Nat) (t:Ay) (v:Int):Prop:=
 (0<=v/\v<=t.Max)/\(∀ j:Nat,own b i=(j:Int)->(v*v*t.Cost+999) / 1000<=p.An.getD j 0)/\(v≠0->∃ j:Nat,own b i=(j:Int)/\svB b p 1000 j=true)
theorem Aly {b:Aa} {p:Ad} (hp:Av b p) {j:Nat} (hj:j<b.Ag.length):0<=p.An.getD j 0:=by
 have h2:=hp.nli
 exact (hp.lim j _ _ (Ps (p:=p) (by omega)) (Gf hj)).1
theorem Ass {b:Aa} {p:Ad} (hp:Av b p) {t:Ay} (ht:Ji t) (i:Nat):Ql b p i t 0:=by
 refine⟨⟨by omega,ht.max.1⟩,λ j hj=>?_,λ hh=>absurd rfl hh⟩
 obtain⟨k,hk,hlt⟩:=Agg (q:=λ x:A7=>x.Thruster==(i:Int)) (xs:=b.Ag) (by unfold own at hj;omega)
 unfold own at hj
 have:k=j:=by omega
 subst this
 have:=Aly hp hlt
 simp only [Int.mul_zero,Int.zero_mul]
 omega
theorem Av7 {b:Aa} (h:Ax b) {p:Ad} (hp:Av b p) {x:Ca} (hx:Yz x):Ok (F55 x b p) λ y=>y.2=0/\y.1.length=x.A3.length/\∀ (i:Nat) t v,x.A3[i]? = some t->y.1[i]? = some v->Ql b p i t v:=by
 have hlen:=hx.len
 have hnl:=hp.nli
 unfold F55
 rw [Alh hx,E2 h hp]
 simp only [ac]
 refine c6 (λ hc=>by simp at hc) (λ _=>c6 (λ hc=>by simp at hc) (λ _=>?_))
 refine (Ok.mkI (by omega) (by omega)).bind λ z hz=>?_
 refine Ok.andThen (A:=λ s=>s.length=x.A3.length/\∀ (i:Nat) t v,x.A3[i]? = some t->s[i]? = some v->Ql b p i t v) (B:=λ _=>False) ?_ (λ s hs=>Ok.pure ⟨rfl,hs⟩) (λ _ h=>h.elim)
 refine c8 (I:=λ j s=>s.length=x.A3.length/\(∀ (i:Nat) t v,i<j->x.A3[i]? = some t->s[i]? = some v->Ql b p i t v)/\∀ (i:Nat) v,j<=i->s[i]? = some v->v=0) ?_ (λ j t s ht hs=>?_) λ s hs=>?_
 ·rw [hz]
  refine⟨by simp,λ i t v hi=>by omega,λ i v _ hv=>?_⟩
  have:=ae hv
  exact (List.mem_replicate.1 this).2
 ·obtain⟨g1,g2,g3⟩:=hs
  have hj:=(aa.1 ht).1
  have hthr:=hx.thr t (ae ht)
  have hcnt:cnt 0 j=(j:Int):=Cw (by omega)
  unfold Aos
  rw [hcnt,Arm h]
  simp only [ac]
  have stay:Hw (λ s=>s.length=x.A3.length/\(∀ (i:Nat) t v,i<j+1->x.A3[i]? = some t->s[i]? = some v->Ql b p i t v)/\∀ (i:Nat) v,j+1<=i->s[i]? = some v->v=0) (λ s=>s.length=x.A3.length/\∀ (i:Nat) t v,x.A3[i]? = some t->s[i]? = some v->Ql b p i t v) (λ (_:Unit)=>False) (.next s):=by
   refine⟨g1,λ i t' v hi ht' hv=>?_,λ i v hi hv=>g3 i v (by omega) hv⟩
   by_cases e:i=j
   ·subst e
    rw [ht] at ht';cases ht'
    have:=g3 i v (by omega) hv
    subst this
    exact Ass hp hthr i
   ·exact g2 i t' v (by omega) ht' hv
  by_cases hq:0<=own b j
  ·obtain⟨c,hc,hlt⟩:=Agg hq
   have hown:own b j=(c:Int):=hc
   have hsv:=Ah6 h hp hlt
   rw [hc]
   rw [hsv]
   have e1:Ar [(decide ((c:Int)>=0),true)] (some (svB b p 1000 c)) default=some (svB b p 1000 c):=by
    rw [dJ (by omega)];rfl
   rw [e1]
   simp only [ac]
   refine c6 (λ hcc=>?_) (λ _=>⟨_,rfl,stay⟩)
   simp only [ab] at hcc
   have hlim:=Ps (p:=p) (i:=c) (by omega)
   rw [By hlim]
   simp only [ac]
   refine (Ava hthr _).bind λ m hm=>(cV (by omega) (by omega)).bind λ _ _=>(cY (by omega) (by omega)).bind λ s' hs'=>c7 ?_
   subst hs'
   rw [aE]
   refine⟨by rw [bn];exact g1,λ i t' v hi ht' hv=>?_,λ i v hi hv=>?_⟩
   ·rw [ay] at hv
    by_cases e:j=i
    ·subst e
     rw [ht] at ht';cases ht'
     rw [if_pos rfl,if_pos (by omega)] at hv
     cases hv
     refine⟨hm.1,λ k hk=>?_,λ _=>⟨c,hown,hcc.2⟩⟩
     have:k=c:=by omega
     subst this
     exact hm.2 (Aly hp hlt)
    ·rw [if_neg e] at hv
     exact g2 i t' v (by omega) ht' hv
   ·rw [ay,if_neg (by omega)] at hv
    exact g3 i v (by omega) hv
  ·have e0:decide (own b j>=0)=false:=dK (by omega)
   show Ok ((Ar [(decide (own b j>=0),true)] _ _).bind λ y11=>bif (decide (own b j>=0)&&y11) then _ else _) _
   rw [e0]
   exact⟨_,rfl,stay⟩
 ·exact⟨hs.1,λ i t v ht hv=>hs.2.1 i t v (aa.1 ht).1 ht hv⟩
end Go.Proofs.YtiaaaghdkhnonaaGreat
