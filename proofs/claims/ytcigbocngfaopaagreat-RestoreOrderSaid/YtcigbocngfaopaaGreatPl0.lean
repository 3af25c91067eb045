import Derived.Test.YtcigbocngfaopaaGreatMo
import Derived.Test.YtcigbocngfaopaaGreatHo
namespace Go.Proofs.YtcigbocngfaopaaGreat
open Go.SL
theorem Qi {x n:Int} (h:0<n):-n<Int.tmod x n/\Int.tmod x n<n:=by
 have h1:=Int.tmod_lt_of_pos x h
 have h2:=Int.lt_tmod_of_pos x h
 exact⟨h2,h1⟩
theorem Alg {x n:Int} (h:0<n) (h0:0<=x):0<=Int.tmod x n/\Int.tmod x n<n:=⟨Int.tmod_nonneg n h0,(Qi h).2⟩
structure B4 (s:Ap):Prop where
 lo:0<=s.At
 hi:s.At<=s.L.length
 len:s.L.length<=600
def InR (n r:Int):Prop:=(1<=n->0<=r/\r<n)/\(n<1->r=0)
theorem A5g (x n:Int) (h:n<=4611686018427387904):Ok (Akp x n) (InR n):=by
 unfold Akp
 refine c4 (λ h1=>?_) λ h1=>?_
 ·simp only [dw] at h1
  exact c5 ⟨λ h2=>by omega,λ _=>rfl⟩
 ·simp only [dx] at h1
  refine (Ok.nzI (by omega)).bind λ _ _=>(Ok.nzI (by omega)).bind λ _ _=>c5 ⟨λ _=>?_,λ h2=>by omega⟩
  have h2:=Qi (x:=x) (n:=n) (by omega)
  rw [A6 (by omega)]
  exact Alg (by omega) (by omega)
theorem A74 {s:Ap} (hs:B4 s) (n:Int) (h:n<=4611686018427387904):Ok (F60 s n) λ y=>B4 y.2/\InR n y.1:=by
 obtain⟨h1,h2,h3⟩:=hs
 unfold F60
 refine c4 (λ h4=>?_) λ h4=>?_
 ·exact c5 ⟨⟨h1,h2,h3⟩,λ h5=>⟨by simp,by show (0:Int)<n;omega⟩,λ _=>rfl⟩
 ·simp only [dx] at h4
  have e:w64 (s.At+1)=s.At+1:=A6 (by omega)
  rw [e,A6 (n:=s.At+1-1) (by omega)]
  refine (cS (by omega) (by omega)).bind λ x _=>(A5g x n h).bind λ r hr=>c5 ⟨⟨?_,?_,h3⟩,hr⟩
  ·show 0<=s.At+1;omega
  ·show s.At+1<=(s.L.length:Int);omega
theorem Ge {s:Ap} (hs:B4 s) (n:Int) (h0:1<=n) (h:n<=4611686018427387904):Ok (F60 s n) λ y=>B4 y.2/\0<=y.1/\y.1<n:=
 (A74 hs n h).mono λ _ h=>⟨h.1,h.2.1 h0⟩
theorem Aid {s:Ap} (hs:B4 s) (lo hi:Int) (h:lo<=hi) (h0:-1000000000000<=lo) (h1:hi<=1000000000000):Ok (F64 s lo hi) λ y=>B4 y.2/\lo<=y.1/\y.1<=hi:=by
 unfold F64
 have e:w64 (w64 (hi-lo)+1)=hi-lo+1:=by rw [A6 (n:=hi-lo) (by omega),A6 (by omega)]
 rw [e]
 refine (Ge hs _ (by omega) (by omega)).bind λ y hy=>c5 ⟨hy.1,?_⟩
 have:=hy.2
 show lo<=w64 (lo+y.1)/\w64 (lo+y.1)<=hi
 rw [A6 (by omega)]
 omega
theorem Gx {s:Ap} (hs:B4 s) (l:List Int) (h:1<=l.length) (h1:l.length<=1000):Ok (F65 s l) λ y=>B4 y.2/\y.1∈l:=by
 unfold F65
 refine (Ge hs _ (by omega) (by omega)).bind λ y hy=>?_
 have:=hy.2
 refine (cS (by omega) (by omega)).bind λ x hx=>c5 ⟨hy.1,ae hx⟩
theorem A5f (l:List Int):Ok (F6 l) B4:=by
 unfold F6
 refine (Ok.cutI (by omega) (by omega) (by omega)).bind λ y hy=>c5 ⟨by simp,by simp,?_⟩
 subst hy
 simp only [bW,aF]
 omega
def Jd (nb:Int) (ns nc:Nat) (x:Ag):Prop:=
 (0<=x.A/\x.A<nb)/\((x.Kind=1/\x.A<x.B/\x.B<nb)\/(x.Kind=2/\0<=x.B/\x.B<ns)\/(x.Kind=3/\0<=x.B/\x.B<nc))
def brs (l:List Ag) (k:Int) (i:Nat):List Ag:=l.filter λ x=>x.Kind==k&&x.B==(i:Int)
def Ao7 (x:Bc):Prop:=(1<=x.Rating/\x.Rating<=50000)/\(0<=x.Least/\x.Least<=x.Rating)/\0<=x.Start/\x.Start<=600
def Aqr (i:Nat) (x:A3):Prop:=
 (0<=x.Load/\x.Load<=50000)/\(0<=x.Least/\x.Least<=x.Load)/\(0<=x.Bl/\x.Bl<=15)/\(-1<=x.Thruster/\x.Thruster<=7)/\x.Needs.length<=4 /\
 (∀ n,n∈x.Needs->0<=n/\n<(i:Int))/\∀ (j:Nat) a b,x.Needs[j]? = some a->x.Needs[j+1]? = some b->a<b
structure Ar (b:Aa):Prop where
 buses:1<=b.Am/\b.Am<=6
 brl:b.Ad.length<=24
 sol:b.Ac.length<=8
 col:b.Af.length<=16
 phase:0<=b.Phase/\b.Phase<=1800
 freq:0<=b.Au/\b.Au<=6000
 br:∀ x,x∈b.Ad->Jd b.Am b.Ac.length b.Af.length x
 one:∀ i,i<b.Ac.length->(brs b.Ad 2 i).length=1
 any:∀ i,i<b.Af.length->brs b.Ad 3 i≠[]
 nodup:∀ i,((brs b.Ad 3 i).map (·.A)).Nodup
 so:∀ x,x∈b.Ac->Ao7 x
 co:∀ (i:Nat) x,b.Af[i]? = some x->Aqr i x
theorem G7 (l m:List Ag) (k:Int) (i:Nat):brs (l++m) k i=brs l k i++brs m k i:=by unfold brs;rw [bk]
theorem Amk (x:Ag) (k:Int) (i:Nat):brs [x] k i=if x.Kind=k/\x.B=(i:Int) then [x] else []:=by
 unfold brs
 simp only [bl,List.filter_nil,ac,dy]
theorem Kx {l:List Ag} {k:Int} {i:Nat} (h:∀ x,x∈l->x.Kind=k->x.B≠(i:Int)):brs l k i=[]:=by
 unfold brs
 rw [List.filter_eq_nil_iff]
 intro x hx
 simp only [ac,dy,not_and]
 exact h x hx
def Ns (nb:Int) (l:List Ag):Prop:=∀ x,x∈l->x.Kind=1/\0<=x.A/\x.A<x.B/\x.B<nb
structure Sf (nb:Int) (l:List Ag) (so:List Bc):Prop where
 len:l.length<=4+so.length
 br:∀ x,x∈l->(0<=x.A/\x.A<nb)/\((x.Kind=1/\x.A<x.B/\x.B<nb)\/(x.Kind=2/\0<=x.B/\x.B<so.length))
 one:∀ i,i<so.length->(brs l 2 i).length=1
 so:∀ x,x∈so->Ao7 x
structure Zf (nb:Int) (l:List Ag) (ns:Nat) (co:List A3):Prop where
 len:l.length<=4+ns+2*co.length
 br:∀ x,x∈l->Jd nb ns co.length x
 one:∀ i,i<ns->(brs l 2 i).length=1
 any:∀ i,i<co.length->brs l 3 i≠[]
 nodup:∀ i,((brs l 3 i).map (·.A)).Nodup
 co:∀ (i:Nat) x,co[i]? = some x->Aqr i x/\x.Thruster<=2
theorem Sf.cons {nb:Int} {l:List Ag} {so:List Bc} (h:Sf nb l so):Zf nb l so.length [] where
 len:=by have:=h.len;simp;omega
 br x hx:=by
  obtain⟨h1,h2⟩:=h.br x hx
  exact⟨h1,h2.imp id .inl⟩
 one:=h.one
 any i hi:=by simp at hi
 nodup i:=by
  rw [Kx]
  ·simp
  ·intro x hx h3
   obtain⟨_,h2⟩:=h.br x hx
   omega
 co i x hx:=by simp at hx
theorem Sf.add {nb:Int} {l:List Ag} {so:List Bc} (h:Sf nb l so) {x:Ag} {y:Bc} (hx:x.Kind=2/\x.B=so.length/\0<=x.A/\x.A<nb) (hy:Ao7 y):Sf nb (l++[x]) (so++[y]) where
 len:=by have:=h.len;simp;omega
 br z hz:=by
  rcases aq.1 hz with hz | hz
  ·obtain⟨h1,h2⟩:=h.br z hz
   refine⟨h1,?_⟩
   rw [aI]
   simp only [aS,bI]
   omega
  ·simp at hz;subst hz
   refine⟨hx.2.2,.inr ⟨hx.1,?_⟩⟩
   rw [aI]
   simp only [aS,bI]
   omega
 one i hi:=by
  rw [aI] at hi
  simp only [aS,bI] at hi
  rw [G7,Amk,aI]
  by_cases e:i=so.length
  ·rw [Kx,if_pos ⟨hx.1,by omega⟩]
   ·rfl
   ·intro z hz h2
    obtain⟨_,h3⟩:=h.br z hz
    omega
  ·rw [h.one i (by omega),if_neg (by omega)];rfl
 so z hz:=by
  rcases aq.1 hz with hz | hz
  ·exact h.so z hz
  ·simp at hz;subst hz;exact hy
theorem Zf.add {nb:Int} {l m:List Ag} {ns:Nat} {co:List A3} (h:Zf nb l ns co) {y:A3} (hm:∀ x,x∈m->x.Kind=3/\x.B=co.length/\0<=x.A/\x.A<nb) (h1:m≠[]) (h2:m.length<=2) (h3:(m.map (·.A)).Nodup)
  (hy:Aqr co.length y/\y.Thruster<=2):Zf nb (l++m) ns (co++[y]):=by
 have e1:brs m 3 co.length=m:=by
  unfold brs
  rw [cA]
  intro x hx
  obtain⟨g1,g2,_⟩:=hm x hx
  simp [g1,g2]
 have e2:∀ i,i≠co.length->brs m 3 i=[]:=λ i hi=>Kx λ x hx _ e=>by
  have:=(hm x hx).2.1
  omega
 have e3:brs l 3 co.length=[]:=Kx λ x hx h3 e=>by
  obtain⟨_,g⟩:=h.br x hx
  omega
 have hlen:(co++[y]).length=co.length+1:=by simp
 refine⟨?_,λ z hz=>?_,λ i hi=>?_,λ i hi=>?_,λ i=>?_,λ i x hx=>?_⟩
 ·have:=h.len
  rw [aI,hlen];omega
 ·rw [hlen]
  rcases aq.1 hz with hz | hz
  ·obtain⟨g1,g2⟩:=h.br z hz
   exact⟨g1,by omega⟩
  ·obtain⟨g1,g2,g3⟩:=hm z hz
   exact⟨g3,by omega⟩
 ·have:brs m 2 i=[]:=Kx λ x hx h2=>by have:=(hm x hx).1;omega
  rw [G7,this,aG]
  exact h.one i hi
 ·rw [G7]
  rw [hlen] at hi
  by_cases e:i=co.length
  ·subst e;rw [e1];simp [h1]
  ·have:=h.any i (by omega)
   simp [this]
 ·rw [G7]
  by_cases e:i=co.length
  ·subst e;rw [e1,e3];simpa using h3
  ·rw [e2 i e,aG];exact h.nodup i
 ·rw [bX] at hx
  split at hx
  ·exact h.co i x hx
  ·rename_i hi
   have:i=co.length:=by
    have:=(aa.1 hx).1
    simp at this;omega
   subst this
   simp at hx;subst hx;exact hy
theorem Ns.nil (nb:Int):Ns nb []:=λ x hx=>by cases hx
theorem Ns.add {nb:Int} {l:List Ag} (h:Ns nb l) {x:Ag} (hx:x.Kind=1/\0<=x.A/\x.A<x.B/\x.B<nb):Ns nb (l++[x]):=λ z hz=>by
 rcases aq.1 hz with hz | hz
 ·exact h z hz
 ·simp at hz;subst hz;exact hx
theorem Ns.gens {nb:Int} {l:List Ag} (h:Ns nb l) (hl:l.length<=4):Sf nb l [] where
 len:=by simpa using hl
 br x hx:=by have:=h x hx;exact⟨by omega,.inl (by omega)⟩
 one i hi:=by simp at hi
 so x hx:=by cases hx
theorem Ayu {y:Int×Ap} (hy:1<=y.1/\y.1<=4) {s0:Ap} (hs0:B4 s0) :
  Ok (whileN (uT y) 1152921504606846976 (1,s0.L,s0.At,([]:List Ag))) (D1 (λ s=>B4 ⟨s.2.1,s.2.2.1⟩/\Ns y.1 s.2.2.2/\s.2.2.2.length<=3) (λ (_:Unit)=>False)):=by
 refine c9 (λ s=>(1<=s.1/\s.1<=4/\s.1<=y.1)/\B4 ⟨s.2.1,s.2.2.1⟩/\Ns y.1 s.2.2.2/\(s.2.2.2.length:Int)+1<=s.1) (λ s=>(y.1-s.1).toNat) _ _ ?_ ?_ ?_
 ·exact⟨by dsimp only;omega,hs0,Ns.nil _,by simp⟩
 ·dsimp only;omega
 ·rintro⟨i,L,a,l⟩ ⟨⟨h1,h2,h3⟩,h4,h5,h6⟩
  dsimp only at h1 h2 h3 h4 h5 h6
  unfold uT
  refine c4 (λ h=>?_) (λ h=>?_)
  ·simp only [dw] at h
   have e:w64 (i+1)=i+1:=A6 (by omega)
   dsimp only
   rw [e]
   refine (Ge h4 6 (by omega) (by omega)).bind λ u hu=>c4 (λ _=>?_) (λ _=>?_)
   ·refine (Ge hu.1 i h1 (by omega)).bind λ v hv=>(cV (by simp;omega)).bind λ m hm=>c6 ?_
    subst hm
    have:=hv.2
    refine⟨⟨by dsimp only;omega,hv.1,h5.add ⟨rfl,by dsimp only;omega,by dsimp only;omega,by dsimp only;omega⟩,by simp;omega⟩,by dsimp only;omega⟩
   ·refine c6 ⟨⟨by dsimp only;omega,hu.1,h5,by dsimp only;omega⟩,by dsimp only;omega⟩
  ·exact cW ⟨h4,h5,by dsimp only;omega⟩
theorem Ayt {y:Int×Ap} (hy:1<=y.1/\y.1<=4) {s0:Ap} (hs0:B4 s0) {k:Int} (hk:0<=k/\k<5) {l0:List Ag} (hl0:Sf y.1 l0 []) :
  Ok (whileN (uS y) 1152921504606846976 (k,s0.L,s0.At,l0,([]:List Bc))) (D1 (λ s=>B4 ⟨s.2.1,s.2.2.1⟩/\Sf y.1 s.2.2.2.1 s.2.2.2.2/\s.2.2.2.2.length<=4) (λ (_:Unit)=>False)):=by
 refine c9 (λ s=>(0<=s.1/\s.1+(s.2.2.2.2.length:Int)<=4)/\B4 ⟨s.2.1,s.2.2.1⟩/\Sf y.1 s.2.2.2.1 s.2.2.2.2) (λ s=>s.1.toNat) _ _ ?_ ?_ ?_
 ·exact⟨by simp;omega,hs0,hl0⟩
 ·dsimp only;omega
 ·rintro⟨i,L,a,l,so⟩ ⟨⟨h1,h2⟩,h4,h5⟩
  dsimp only at h1 h2 h4 h5
  unfold uS
  refine c4 (λ h=>?_) (λ h=>?_)
  ·simp only [dw] at h
   have e:w64 (i-1)=i-1:=A6 (by omega)
   have hl:=h5.len
   dsimp only
   rw [e]
   refine (Ge h4 y.1 hy.1 (by omega)).bind λ u hu=>(cV (by simp;omega)).bind λ m hm=>?_
   refine (Gx hu.1 _ (by simp) (by simp)).bind λ v hv=>(Gx hv.1 _ (by simp) (by simp)).bind λ p hp=>(Gx hp.1 _ (by simp) (by simp)).bind λ q hq=>(cV (by simp;omega)).bind λ o ho=>c6 ?_
   subst hm;subst ho
   have g1:=hu.2
   have g2:v.1=10\/v.1=50\/v.1=100:=by simpa using hv.2
   have g3:p.1=0\/p.1=5\/p.1=v.1:=by simpa using hp.2
   have g4:q.1=0\/q.1=1\/q.1=3:=by simpa using hq.2
   refine⟨⟨by simp;omega,hq.1,h5.add ⟨rfl,rfl,g1⟩ ⟨by dsimp only;omega,by dsimp only;omega,by dsimp only;omega⟩⟩,by dsimp only;omega⟩
  ·exact cW ⟨h4,h5,by dsimp only;omega⟩
theorem A1j {x:Int} (h:0<=x) (h2:x<=50000):0<=w64 (Int.tdiv x 2)/\w64 (Int.tdiv x 2)<=x:=by
 have:Int.tdiv x 2=x / 2:=Int.tdiv_eq_ediv_of_nonneg h
 rw [this,A6 (by omega)]
 omega
theorem Awv {x:Int} (h:0<=x) (h2:x<=50000):0<=w64 (Int.tdiv x 3)/\w64 (Int.tdiv x 3)<=x:=by
 have:Int.tdiv x 3=x / 3:=Int.tdiv_eq_ediv_of_nonneg h
 rw [this,A6 (by omega)]
 omega
theorem Ays {y:Int×Ap} (hy:1<=y.1/\y.1<=4) {s0:Ap} (hs0:B4 s0) {k:Int} (hk:0<=k/\k<6) {ns:Nat} (hns:ns<=4) {l0:List Ag} (hl0:Zf y.1 l0 ns []) :
  Ok (whileN (uR y) 1152921504606846976 (k,s0.L,s0.At,l0,([]:List A3))) (D1 (λ s=>B4 ⟨s.2.1,s.2.2.1⟩/\Zf y.1 s.2.2.2.1 ns s.2.2.2.2/\s.2.2.2.2.length<=5) (λ (_:Unit)=>False)):=by
 refine c9 (λ s=>(0<=s.1/\s.1+(s.2.2.2.2.length:Int)<=5)/\B4 ⟨s.2.1,s.2.2.1⟩/\Zf y.1 s.2.2.2.1 ns s.2.2.2.2) (λ s=>s.1.toNat) _ _ ?_ ?_ ?_
 ·exact⟨by simp;omega,hs0,hl0⟩
 ·dsimp only;omega
 ·rintro⟨i,L,a,l,co⟩ ⟨⟨h1,h2⟩,h4,h5⟩
  dsimp only at h1 h2 h4 h5
  unfold uR
  refine c4 (λ h=>?_) (λ h=>?_)
  ·simp only [dw] at h
   have e:w64 (i-1)=i-1:=A6 (by omega)
   have hl:=h5.len
   dsimp only
   rw [e]
   refine (Ge h4 y.1 hy.1 (by omega)).bind λ u hu=>(cV (by simp;omega)).bind λ m hm=>?_
   subst hm
   have g1:=hu.2
   refine Ok.bind (P:=λ v=>B4 v.2) (cT (λ _=>(Ge hu.1 4 (by omega) (by omega)).mono λ _ h=>h.1) λ _=>hu.1) λ v hv=>?_
   refine Ok.inner (A:=λ (r:List Ag)=>∃ m,r=l++m/\(∀ x,x∈m->x.Kind=3/\x.B=co.length/\0<=x.A/\x.A<y.1)/\m≠[]/\m.length<=2/\(m.map (·.A)).Nodup) (B:=λ (_:Unit)=>False) ?_ (λ r hr=>?_) (λ _ h=>h.elim)
   ·unfold Aj8
    refine c4 (λ hc=>?_) (λ hc=>?_)
    ·simp only [ac,dw] at hc
     have e2:w64 (u.1+1)=u.1+1:=A6 (by omega)
     rw [e2]
     refine (Ok.nzI (by omega)).bind λ _ _=>(cV (by simp;omega)).bind λ m hm=>d8 ?_
     subst hm
     have g2:=Alg (x:=u.1+1) (n:=y.1) (by omega) (by omega)
     have g3:Int.tmod (u.1+1) y.1≠u.1:=by
      rw [Int.tmod_eq_emod_of_nonneg (by omega)]
      intro e3
      by_cases g4:u.1+1=y.1
      ·rw [g4,Int.emod_self] at e3;omega
      ·rw [Int.emod_eq_of_lt (by omega) (by omega)] at e3;omega
     refine⟨_,aX _ _ _,?_,by simp,by simp,?_⟩
     ·intro x hx
      simp at hx
      rcases hx with rfl | rfl
      ·exact⟨rfl,rfl,g1⟩
      ·exact⟨rfl,rfl,g2⟩
     ·simp
      exact λ h=>g3 h.symm
    ·exact d8 ⟨_,rfl,λ x hx=>by simp at hx;subst hx;exact⟨rfl,rfl,g1⟩,by simp,by simp,by simp⟩
   ·obtain⟨m,rfl,hm,hm1,hm2,hm3⟩:=hr
    refine (Gx hv _ (by simp) (by simp)).bind λ p hp=>(Gx hp.1 _ (by simp) (by simp)).bind λ q hq=>(Ge hq.1 3 (by omega) (by omega)).bind λ pr hpr=>(Aid hpr.1 (-1) 2 (by omega) (by omega) (by omega)).bind λ th hth=>?_
    have k1:p.1=0\/p.1=5\/p.1=20\/p.1=40:=by simpa using hp.2
    have k2:q.1=0\/q.1=w64 (Int.tdiv p.1 2)\/q.1=p.1:=by simpa using hq.2
    have k3:=A1j (x:=p.1) (by omega) (by omega)
    have k4:=hpr.2
    have k5:=hth.2
    refine Ok.bind (P:=λ v=>B4 v.2) (cT (λ _=>(Ge hth.1 4 (by omega) (by omega)).mono λ _ h=>h.1) λ _=>hth.1) λ w hw=>c4 (λ hc=>?_) (λ hc=>?_)
    ·simp only [Az7,ac,dw] at hc
     refine (Ge hw _ (by omega) (by omega)).bind λ n hn=>(cV (by simp;omega)).bind λ o ho=>c6 ?_
     subst ho
     have k6:=hn.2
     refine⟨⟨by simp;omega,hn.1,h5.add hm hm1 hm2 hm3 ⟨⟨by dsimp only;omega,by dsimp only;omega,by dsimp only;omega,by dsimp only;omega,by simp,?_,?_⟩,by dsimp only;omega⟩⟩,by dsimp only;omega⟩
     ·intro z hz;simp at hz;subst hz;exact k6
     ·intro j a b ha hb
      simp at hb
    ·refine (cV (by simp;omega)).bind λ o ho=>c6 ?_
     subst ho
     refine⟨⟨by simp;omega,hw,h5.add hm hm1 hm2 hm3 ⟨⟨by dsimp only;omega,by dsimp only;omega,by dsimp only;omega,by dsimp only;omega,by simp,?_,?_⟩,by dsimp only;omega⟩⟩,by dsimp only;omega⟩
     ·intro z hz;simp at hz
     ·intro j a b ha hb;simp at ha
  ·exact cW ⟨h4,h5,by dsimp only;omega⟩
structure A5h (b:Aa):Prop where
 ok:Ar b
 buses:b.Am<=4
 brl:b.Ad.length<=18
 sol:b.Ac.length<=4
 col:b.Af.length<=5
 thr:∀ x,x∈b.Af->x.Thruster<=2
theorem Aza {s:Ap} (hs:B4 s):Ok (F28 s) λ y=>A5h y.1/\B4 y.2:=by
 unfold F28
 refine (Aid hs 1 4 (by omega) (by omega) (by omega)).bind λ y1 h1=>(Gx h1.1 _ (by simp) (by simp)).bind λ y3 h3=>(Gx h3.1 _ (by simp) (by simp)).bind λ y5 h5=>?_
 refine (Ayu h1.2 h5.1).andThen (λ s0 hs0=>?_) (λ _ h=>h.elim)
 refine Ok.bind (P:=λ v=>B4 v.2) (cT (λ _=>(Ge hs0.1 2 (by omega) (by omega)).mono λ _ h=>h.1) λ _=>hs0.1) λ y15 h15=>?_
 have hb:=h1.2
 refine Ok.andThen (A:=λ (l:List Ag)=>Ns y1.1 l/\l.length<=4) (B:=λ (_:Unit)=>False) ?_ (λ l hl=>?_) (λ _ h=>h.elim)
 ·unfold Aj9
  refine c4 (λ hc=>?_) (λ hc=>d8 ⟨hs0.2.1,by omega⟩)
  simp only [ac,dw] at hc
  have e:w64 (y1.1-1)=y1.1-1:=A6 (by omega)
  rw [e]
  have:=hs0.2.2
  refine (cV (by simp;omega)).bind λ m hm=>d8 ?_
  subst hm
  exact⟨hs0.2.1.add ⟨rfl,by simp,by dsimp only;omega,by dsimp only;omega⟩,by simp;omega⟩
 ·refine (Ge h15 5 (by omega) (by omega)).bind λ y20 h20=>?_
  refine (Ayt h1.2 h20.1 h20.2 (hl.1.gens hl.2)).andThen (λ s2 hs2=>?_) (λ _ h=>h.elim)
  refine (Ge hs2.1 6 (by omega) (by omega)).bind λ y35 h35=>?_
  refine (Ays h1.2 h35.1 h35.2 hs2.2.2 hs2.2.1.cons).andThen (λ s3 hs3=>c5 ⟨?_,hs3.1⟩) (λ _ h=>h.elim)
  obtain⟨_,hc,hl5⟩:=hs3
  have hl4:=hs2.2.2
  have hlen:=hc.len
  have p3:y3.1=0\/y3.1=50\/y3.1=200\/y3.1=1800:=by simpa using h3.2
  have p5:y5.1=0\/y5.1=10\/y5.1=50:=by simpa using h5.2
  refine⟨⟨by dsimp only;omega,by dsimp only;omega,by dsimp only;omega,by dsimp only;omega,by dsimp only;omega,by dsimp only;omega,hc.br,hc.one,hc.any,hc.nodup,hs2.2.1.so,λ i x hx=>(hc.co i x hx).1⟩,by dsimp only;omega,by dsimp only;omega,hl4,hl5,λ x hx=>?_⟩
  obtain⟨i,hi⟩:=ch hx
  exact (hc.co i x hi).2
theorem H5 (x lo hi:Int):F93 x lo hi=true↔lo<=x/\x<=hi:=by
 simp [F93]
theorem yP {x lo hi:Int} (h:lo<=x/\x<=hi):F93 x lo hi=true:=(H5 x lo hi).2 h
theorem Eu (l:List Int) (x:Int) (h:l.length<=9223372036854775807):F59 l x=some (l.any (x == ·)):=by
 unfold F59 Aqp
 rw [Lg (λ y=>x==y) (λ i y=>rfl) l h]
 simp only [ab,Rg]
theorem Ak8 (l:List (List Int)) (h:l.length<=9223372036854775807):Va l=some (l.any λ x=>(x.length:Int)==0):=by
 unfold Va uW
 rw [Lg (λ y=>(y.length:Int)==0) (λ i y=>rfl) l h]
 simp only [ab,Rg]
theorem Ala {b:Aa} (h:Ar b):Ok (F99 b) (· = true):=by
 unfold F99
 have hs:=h.sol
 have hc:=h.col
 have hb:=h.buses
 refine (Ok.mkI (by omega) (by omega)).bind λ ys hys=>(Ok.mkI (by omega) (by omega)).bind λ zs hzs=>?_
 rw [ai] at hys hzs
 refine Ok.andThen (A:=λ s=>s.1=(List.range b.Ac.length).map (λ i=>((brs b.Ad 2 i).length:Int))/\s.2=(List.range b.Af.length).map (λ i=>(brs b.Ad 3 i).map (·.A))) (B:=λ _=>False) ?_ ?_ (λ _ h=>h.elim)
 ·refine c7 (I:=λ j s=>s.1=(List.range b.Ac.length).map (λ i=>((brs (b.Ad.take j) 2 i).length:Int))/\s.2=(List.range b.Af.length).map (λ i=>(brs (b.Ad.take j) 3 i).map (·.A))) ?_ ?_ ?_
  ·exact⟨by rw [hys,Oa];rfl,by rw [hzs,Oa];rfl⟩
  ·rintro j x ⟨us,vs⟩ hx ⟨hu,hv⟩
   dsimp only at hu hv
   subst hu;subst hv
   have hmem:=ae hx
   obtain⟨⟨a0,a1⟩,hk⟩:=h.br x hmem
   have htk:∀ k i,brs (b.Ad.take (j+1)) k i=brs (b.Ad.take j) k i++if x.Kind=k/\x.B=(i:Int) then [x] else []:=λ k i=>by rw [Bg hx,G7,Amk]
   have hall:∀ k i,brs b.Ad k i=brs (b.Ad.take (j+1)) k i++brs (b.Ad.drop (j+1)) k i:=λ k i=>by rw [←G7,ci]
   unfold Ai9
   have e1:w64 (b.Am-1)=b.Am-1:=A6 (by omega)
   have e2:w64 (x.A+1)=x.A+1:=A6 (by omega)
   refine c4 (λ hq=>?_) (λ _=>?_)
   ·rw [e1,yP (by omega)] at hq;simp at hq
   refine c4 (λ hq=>?_) (λ hq=>?_)
   ·simp only [Aov,ac,dy,H5] at hq
    refine c6 ⟨ba λ i _=>?_,ba λ i _=>?_⟩
    ·rw [htk,if_neg (by omega),aG]
    ·rw [htk,if_neg (by omega),aG]
   have hq:=ff hq
   simp only [Aov,ac,dy,H5,e1,e2] at hq
   rcases hk with hk | hk | hk
   ·exact absurd ⟨hk.1,by omega⟩ hq
   ·have hBn:x.B=(x.B.toNat:Int):=by omega
    have hone:=h.one x.B.toNat (by omega)
    have hz:(brs (b.Ad.take j) 2 x.B.toNat).length=0:=by
     rw [hall,htk,if_pos ⟨hk.1,hBn⟩] at hone
     simp at hone;omega
    have hg:((x.Kind==2)&&(F93 x.B 0 (w64 ((((List.range b.Ac.length).map (λ i=>((brs (b.Ad.take j) 2 i).length:Int))).length:Int)-1))))=true:=by
     rw [ac,dy,H5,ax,List.length_range,A6 (by omega)]
     omega
    dsimp only
    refine Ok.bind (P:=λ y=>y=0) (cT (λ _=>(db (by omega) (by omega)).mono λ y hy=>by rw [hy,hz];rfl) λ hn=>(V4 hg hn).elim) λ y hy=>?_
    refine c4 (λ hq2=>?_) (λ hq2=>?_)
    ·refine (db (by omega) (by omega)).bind λ y2 hy2=>(dj (by omega) (by omega)).bind λ y3 hy3=>c6 ⟨?_,ba λ i _=>?_⟩
     ·rw [hy3]
      refine ba λ i hi=>?_
      by_cases e:i=x.B.toNat
      ·subst e
       rw [if_pos rfl,hy2,htk,if_pos ⟨hk.1,hBn⟩,hz,aI,hz]
       rfl
      ·rw [if_neg e,htk,if_neg (by omega),aG]
     ·rw [htk,if_neg (by omega),aG]
    ·have hq2:=ff hq2
     simp only [Aou,ac,hy] at hq2
     rw [ac] at hg
     exact absurd ⟨hg,by simp⟩ hq2
   ·have hBn:x.B=(x.B.toNat:Int):=by omega
    have hnod:=h.nodup x.B.toNat
    have hnot:x.A∉(brs (b.Ad.take j) 3 x.B.toNat).map (·.A):=by
     rw [hall,htk,if_pos ⟨hk.1,hBn⟩] at hnod
     simp only [bm,bJ,List.map_nil] at hnod
     rw [List.nodup_append] at hnod
     have:=hnod.1
     rw [List.nodup_append] at this
     intro hm
     exact this.2.2 _ hm _ (by simp) rfl
    have hg0:((x.Kind==2)&&(F93 x.B 0 (w64 ((((List.range b.Ac.length).map (λ i=>((brs (b.Ad.take j) 2 i).length:Int))).length:Int)-1))))=false:=by
     have:(x.Kind==2)=false:=by rw [dz];omega
     rw [this];rfl
    have hg:((x.Kind==3)&&(F93 x.B 0 (w64 ((((List.range b.Af.length).map (λ i=>(brs (b.Ad.take j) 3 i).map (·.A))).length:Int)-1))))=true:=by
     rw [ac,dy,H5,ax,List.length_range,A6 (by omega)]
     omega
    dsimp only
    refine Ok.bind (P:=λ _=>True) (cT (λ hn=>absurd hn.1 (by rw [hg0];simp)) λ _=>trivial) λ y _=>?_
    refine c4 (λ hq2=>?_) (λ _=>?_)
    ·simp only [Aou,ac,dy] at hq2
     omega
    refine Ok.bind (P:=λ y=>y=(brs (b.Ad.take j) 3 x.B.toNat).map (·.A)) (cT (λ _=>db (by omega) (by omega)) λ hn=>(V4 hg hn).elim) λ y14 hy14=>?_
    have hyl:y14.length<=24:=by
     rw [hy14,ax]
     have:=bh (λ x=>x.Kind==3&&x.B==((x.B.toNat:Nat):Int)) (b.Ad.take j)
     have h1:(brs (b.Ad.take j) 3 x.B.toNat).length<=(b.Ad.take j).length:=bh _ _
     have h2:=h.brl
     rw [aF] at h1
     omega
    refine Ok.bind (P:=λ y=>y=false) (cT (λ _=>?_) λ hn=>(V4 hg hn).elim) λ y16 hy16=>?_
    ·rw [Eu _ _ (by omega)]
     refine c5 ?_
     rw [bK]
     intro z hz
     rw [hy14] at hz
     simp only [dy]
     rintro rfl
     exact hnot hz
    refine c4 (λ hq2=>?_) (λ hq2=>?_)
    ·refine (db (by omega) (by omega)).bind λ y19 hy19=>?_
     rw [hy19,←hy14]
     refine (cV (by simp;omega)).bind λ y21 hy21=>(dj (by omega) (by omega)).bind λ y23 hy23=>c6 ⟨ba λ i _=>?_,?_⟩
     ·rw [htk,if_neg (by omega),aG]
     ·rw [hy23]
      refine ba λ i hi=>?_
      by_cases e:i=x.B.toNat
      ·subst e
       rw [if_pos rfl,hy21,hy14,htk,if_pos ⟨hk.1,hBn⟩,bm]
       rfl
      ·rw [if_neg e,htk,if_neg (by omega),aG]
    ·have hq2:=ff hq2
     simp only [Azq,ac,hy16] at hq2
     rw [ac] at hg
     exact absurd ⟨hg,by simp⟩ hq2
  ·rintro⟨us,vs⟩ ⟨hu,hv⟩
   rw [ay] at hu hv
   exact⟨hu,hv⟩
 ·rintro⟨us,vs⟩ ⟨hu,hv⟩
  dsimp only at hu hv ⊢
  rw [Eu _ _ (by rw [hu];simp;omega)]
  have h0:us.any (λ y=>0==y)=false:=by
   rw [bK,hu]
   intro z hz
   obtain⟨i,hi,rfl⟩:=am.1 hz
   rw [h.one i (by simpa using hi)]
   simp
  have h1:vs.any (λ x=>(x.length:Int)==0)=false:=by
   rw [bK,hv]
   intro z hz
   obtain⟨i,hi,rfl⟩:=am.1 hz
   have:=h.any i (by simpa using hi)
   simp only [ax,dy]
   intro e
   exact this (bL (by omega))
  simp only [h0,ab]
  refine Ok.bind (P:=λ y=>y=false) (cT (λ _=>?_) λ hn=>(V4 rfl hn).elim) λ y hy=>c5 (by rw [hy];rfl)
  rw [Ak8 _ (by rw [hv];simp;omega)]
  exact c5 h1
theorem Aq3 {x:Bc} (h:Ao7 x):Aah x=true:=by
 obtain⟨h1,h2,h3⟩:=h
 simp only [Aah,ac,H5]
 omega
theorem Ak9 {x:A3} {i:Nat} (h:Aqr i x) (hi:i<=1000):Aag x (i:Int)=some true:=by
 obtain⟨h1,h2,h3,h4,h5,h6,h7⟩:=h
 unfold Aag
 have hf:foldI (W5 x (i:Int)) x.Needs 0 ()=some (.next ()):=by
  refine Fp _ _ λ j n hj=>?_
  rw [aL]
  have hn:=h6 n (ae hj)
  have hjl:=(aa.1 hj).1
  have hcnt:cnt 0 j=(j:Int):=Cw (by omega)
  have hin:F93 n 0 (w64 ((i:Int)-1))=true:=by rw [H5,A6 (by omega)];omega
  unfold W5 Auq
  rw [hcnt,hin]
  cases j with
  | zero=>simp [Az,Cj]
  | succ j=>
   obtain⟨p,hp⟩:∃ p,x.Needs[j]? = some p:=⟨_,af (by omega)⟩
   have hlt:=h7 j p n hp hj
   have e:w64 ((((j+1:Nat):Int))-1)=(j:Int):=by rw [A6 (by omega)];omega
   have hg:getI x.Needs (j:Int)=some p:=by
    unfold getI
    simp [hp]
   have hd:decide (((j+1:Nat):Int)>0)=true:=dA (by omega)
   have hd2:decide (p>=n)=false:=by simp;omega
   rw [e,hg,hd]
   simp [Az,Cj,hd2]
 rw [hf]
 have:(((((F93 x.Load 0 50000)&&(F93 x.Least 0 x.Load))&&(F93 x.Bl 0 15))&&(F93 x.Thruster (-1) 7))&&(decide ((x.Needs.length:Int)<=4)))=true:=by
  simp only [ac,H5,dw]
  omega
 simp [andThen,this]
theorem Ahy {b:Aa} (h:Ar b):F51 b=some 0:=by
 refine cZ ?_
 unfold F51
 have h1:=h.buses
 have h2:=h.brl
 have h3:=h.sol
 have h4:=h.col
 have h5:=h.phase
 have h6:=h.freq
 refine c4 (λ hc=>?_) (λ _=>?_)
 ·have:F93 b.Am 1 6=true:=yP (by omega)
  simp only [Az3,this,aJ,dw,bi,bM,false_or] at hc
  omega
 refine (Ala h).bind λ y hy=>?_
 subst hy
 rw [yP (x:=b.Phase) (by omega),yP (x:=b.Au) (by omega)]
 refine Ok.andThen (A:=λ s=>s=true) (B:=λ (_:Unit)=>False) ?_ ?_ (λ _ h=>h.elim)
 ·refine c7 (I:=λ _ s=>s=true) rfl (λ j x s hx hs=>?_) λ _ h=>h
  subst hs
  refine c6 ?_
  rw [Aq3 (h.so x (ae hx))];rfl
 ·rintro s rfl
  refine Ok.andThen (A:=λ s=>s=true) (B:=λ (_:Unit)=>False) ?_ ?_ (λ _ h=>h.elim)
  ·refine c7 (I:=λ _ s=>s=true) rfl (λ j x s hx hs=>?_) λ _ h=>h
   subst hs
   have hj:=(aa.1 hx).1
   unfold Aj2
   have:Az [(true,true)] (Aag x (cnt 0 j)) default=some true:=by
    rw [Cw (by omega),Ak9 (h.co j x hx) (by omega)];rfl
   rw [this]
   exact c6 rfl
  ·rintro s rfl
   exact c5 rfl
def C9 (x:Ai):Prop:=(0<=x.State/\x.State<=3)/\(0<=x.Since/\x.Since<=2147483648)/\(0<=x.Au/\x.Au<=6000)/\0<=x.Phase/\x.Phase<=3599
def Cb (b:Aa) (x:As):Prop:=
 0<=x.Number/\((x.Kind=1/\x.Number<b.Ac.length)\/(x.Kind=2/\x.Number<b.Ad.length)\/(x.Kind=3/\x.Number<b.Am)\/(x.Kind=4/\x.Number<b.Af.length))
def P9 (x y:As):Prop:=x.Kind<y.Kind\/x.Kind=y.Kind/\x.Number<y.Number
structure Eh (b:Aa) (l:List As):Prop where
 len:l.length<=32
 mem:∀ x,x∈l->Cb b x
 asc:∀ (j:Nat) x y,l[j]? = some x->l[j+1]? = some y->P9 x y
def B_ (l:List Ag) (c:List Bool) (i:Nat):List (Ag×Bool):=(l.zip c).filter λ z=>(z.1.Kind==3&&z.1.B==(i:Int))&&z.2
structure Aq (b:Aa) (p:Ab):Prop where
 ncl:p.Ae.length=b.Ad.length
 nso:p.Ac.length=b.Ac.length
 nli:p.Al.length=b.Af.length
 run:∀ x,x∈p.Ac->C9 x
 lim:∀ (i:Nat) n c,p.Al[i]? = some n->b.Af[i]? = some c->0<=n/\n<=c.Load
 one:∀ i,i<b.Af.length->(B_ b.Ad p.Ae i).length<=1
 brk:Eh b p.Ah
theorem Anh {x:Ai} (h:C9 x):F92 x=true:=by
 obtain⟨h1,h2,h3,h4⟩:=h
 simp only [F92,ac,H5]
 omega
theorem Anv (l:List Ai) (h:l.length<=9223372036854775807):Wu l=some (l.any λ x=>!F92 x):=by
 unfold Wu vB
 rw [Lg (λ y=>!F92 y) (λ i y=>rfl) l h]
 simp only [ab,Rg]
theorem Ahx (x y:Int):K1 x y=if x<y then -1 else if x>y then 1 else 0:=by
 have h:∀ z:Int,Y9 z=false:=λ z=>by simp [Y9]
 unfold K1
 rw [h x,h y]
 by_cases h1:x<y
 ·simp [h1]
 ·by_cases h2:y<x <;> simp [h1,h2]
theorem A5n (x y:Int):zZ [x,y]=some (if x=0 then y else x):=by
 unfold zZ
 by_cases h:x=0
 ·subst h
  by_cases h2:y=0
  ·subst h2;rfl
  ·have:(y != 0)=true:=by simpa using h2
   simp [foldI,W0,andThen,this]
 ·have:(x != 0)=true:=by simpa using h
  simp [foldI,W0,andThen,this,h]
theorem A0x {b:Aa} (h:Ar b) {x:As} (hx:Cb b x):F93 x.Number 0 (w64 ((L_ b x.Kind)-1))=true:=by
 have h1:=h.buses
 have h2:=h.brl
 have h3:=h.sol
 have h4:=h.col
 obtain⟨hn,hk⟩:=hx
 have hsz:∃ n,L_ b x.Kind=n/\x.Number<n/\n<=100:=by
  unfold L_
  rcases hk with⟨k,hk⟩ | ⟨k,hk⟩ | ⟨k,hk⟩ | ⟨k,hk⟩ <;> rw [k] <;> exact⟨_,rfl,by simpa using hk,by simp;omega⟩
 obtain⟨n,e,g1,g2⟩:=hsz
 rw [e,H5,A6 (by omega)]
 omega
theorem Aut {b:Aa} (h:Ar b) {l:List As} (hl:Eh b l):F89 b l=some true:=by
 have hlen:=hl.len
 unfold F89
 have hf:foldI (uI b l) l 0 ()=some (.next ()):=by
  refine Fp _ _ λ j x hj=>?_
  rw [aL]
  have hjl:=(aa.1 hj).1
  have hcnt:cnt 0 j=(j:Int):=Cw (by omega)
  have hin:=A0x h (hl.mem x (ae hj))
  unfold uI Azy
  rw [hcnt,hin]
  cases j with
  | zero=>simp [Az,Cj]
  | succ j=>
   obtain⟨p,hp⟩:∃ p,l[j]? = some p:=⟨_,af (by omega)⟩
   have hlt:=hl.asc j p x hp hj
   have e:w64 ((((j+1:Nat):Int))-1)=(j:Int):=by rw [A6 (by omega)];omega
   have hg:getI l (j:Int)=some p:=by unfold getI;simp [hp]
   have hd:decide (((j+1:Nat):Int)>0)=true:=dA (by omega)
   have ho:zZ [K1 p.Kind x.Kind,K1 p.Number x.Number]=some (-1):=by
    rw [A5n,Ahx,Ahx]
    rcases hlt with h1 | ⟨h1,h2⟩
    ·simp [h1]
    ·simp [h1,h2]
   rw [e,hg,hd]
   simp [Az,Cj,ho]
 rw [hf]
 have:decide ((l.length:Int)<=32)=true:=by simp;omega
 simp [andThen,this]
theorem Mf {l:List Ag} {c:List Bool} {j:Nat} {x:Ag} {v:Bool} (hx:l[j]? = some x) (hv:c[j]? = some v) (i:Nat) :
  B_ (l.take (j+1)) (c.take (j+1)) i=B_ (l.take j) (c.take j) i++if ((x.Kind==3&&x.B==(i:Int))&&v)=true then [(x,v)] else []:=by
 unfold B_
 rw [Bg hx,Bg hv,List.zip_append (by
  have h1:=(aa.1 hx).1
  have h2:=(aa.1 hv).1
  simp;omega),bk]
 congr 1
 simp only [bD,List.zip_nil_right,bl,List.filter_nil]
theorem Aug {b:Aa} (h:Ar b) {p:Ab} (hc:p.Ae.length=b.Ad.length) (i:Nat):F94 b p (i:Int)=some (((B_ b.Ad p.Ae i).length:Nat):Int):=by
 refine cZ ?_
 unfold F94
 have hb:=h.brl
 refine Ok.andThen (A:=λ s=>s=(((B_ b.Ad p.Ae i).length:Nat):Int)) (B:=λ (_:Unit)=>False) ?_ (λ s hs=>c5 hs) (λ _ h=>h.elim)
 refine c7 (I:=λ j s=>s=(((B_ (b.Ad.take j) (p.Ae.take j) i).length:Nat):Int)) ?_ (λ j x s hx hs=>?_) λ s hs=>?_
 ·simp [B_]
 ·have hj:=(aa.1 hx).1
  obtain⟨v,hv⟩:∃ v,p.Ae[j]? = some v:=⟨_,af (by omega)⟩
  have hcnt:cnt 0 j=(j:Int):=Cw (by omega)
  have hg:getI p.Ae (j:Int)=some v:=by unfold getI;simp [hv]
  have hle:(B_ (b.Ad.take j) (p.Ae.take j) i).length<=24:=by
   have h1:(B_ (b.Ad.take j) (p.Ae.take j) i).length<=((b.Ad.take j).zip (p.Ae.take j)).length:=bh _ _
   simp at h1;omega
  subst hs
  unfold Ajj Azx
  rw [hcnt,hg,Mf hx hv]
  cases hk:(x.Kind==3&&x.B==(i:Int)) with
  | false=>
   simp only [Az,Cj,Bool.false_and]
   exact c6 (by simp)
  | true=>
   simp only [Az,Cj,aO]
   cases v with
   | false=>exact c6 (by simp)
   | true=>
    refine c6 ?_
    show w64 _=_
    rw [A6 (by omega)]
    simp
 ·rw [ay,←hc,ay] at hs
  exact hs
theorem Cm {b:Aa} (h:Ar b) {p:Ab} (hp:Aq b p):F44 b p=some 0:=by
 refine cZ ?_
 unfold F44
 have h1:=hp.ncl
 have h2:=hp.nso
 have h3:=hp.nli
 have h4:=h.col
 have h5:=h.sol
 rw [Ahy h]
 simp only [ab]
 have c0:Aoz b p=false:=by
  simp [Aoz,h1,h2,h3]
 have c1:((0:Int) != 0)=false:=rfl
 rw [c1,c0,Aut h hp.brk]
 simp only [cond_false,ab]
 have hr:(p.Ac.any λ x=>!F92 x)=false:=by
  rw [bK]
  intro x hx
  rw [Anh (hp.run x hx)];simp
 have:Az [(true,true)] (Wu p.Ac) default=some false:=by
  rw [Anv _ (by omega),hr];rfl
 rw [this]
 simp only [ab]
 refine Ok.andThen (A:=λ s=>s=true) (B:=λ (_:Unit)=>False) ?_ ?_ (λ _ h=>h.elim)
 ·refine c7 (I:=λ _ s=>s=true) rfl (λ j x s hx hs=>?_) λ _ h=>h
  subst hs
  have hj:=(aa.1 hx).1
  obtain⟨c,hc⟩:∃ c,b.Af[j]? = some c:=⟨_,af (by omega)⟩
  have hcnt:cnt 0 j=(j:Int):=Cw (by omega)
  have hg:getI b.Af (j:Int)=some c:=by unfold getI;simp [hc]
  have hl:=hp.lim j x c hx hc
  have hone:=hp.one j (by omega)
  unfold Aj6
  rw [hcnt,hg]
  have e1:Az [(true,true)] (some c) default=some c:=rfl
  rw [e1]
  simp only [ab]
  have e2:(true&&F93 x 0 c.Load)=true:=by rw [yP hl];rfl
  rw [e2,Aug h h1]
  have e3:Az [(true,true)] (some (((B_ b.Ad p.Ae j).length:Nat):Int)) default=some (((B_ b.Ad p.Ae j).length:Nat):Int):=rfl
  rw [e3]
  simp only [ab]
  refine c6 ?_
  simp;omega
 ·rintro s rfl
  exact c5 rfl
theorem Jp (x lo hi:Int):F46 x lo hi=true↔lo<=x/\x<=hi:=by
 simp [F46]
theorem jZ {b:Aa} (h:Ar b) (x:As):F47 b x=true↔Cb b x:=by
 have h1:=h.buses
 have h2:=h.brl
 have h3:=h.sol
 have h4:=h.col
 unfold F47 Cb
 rw [A6 (n:=(b.Ac.length:Int)-1) (by omega),A6 (n:=(b.Ad.length:Int)-1) (by omega),A6 (n:=b.Am-1) (by omega),A6 (n:=(b.Af.length:Int)-1) (by omega)]
 by_cases k1:x.Kind=1
 ·rw [dy.2 k1,cond_true,Jp];omega
 rw [dz.2 k1,cond_false]
 by_cases k2:x.Kind=2
 ·rw [dy.2 k2,cond_true,Jp];omega
 rw [dz.2 k2,cond_false]
 by_cases k3:x.Kind=3
 ·rw [dy.2 k3,cond_true,Jp];omega
 rw [dz.2 k3,cond_false]
 by_cases k4:x.Kind=4
 ·rw [dy.2 k4,cond_true,Jp];omega
 ·rw [dz.2 k4]
  simp only [cond_false,bM,false_iff]
  omega
theorem Ahe {l:List Ag}:∀ {c d:List Bool},c.length=d.length->(∀ k:Nat,c[k]? = some true->d[k]? = some true)->∀ i,(B_ l c i).length<=(B_ l d i).length:=by
 induction l with
 | nil=>intro c d _ _ i;simp [B_]
 | cons x l ih=>
  intro c d hl h i
  cases c with
  | nil=>simp [B_]
  | cons v c=>cases d with
   | nil=>simp at hl
   | cons u d=>
    have:=ih (c:=c) (d:=d) (by simpa using hl) (λ k hk=>by have:=h (k+1) (by simpa using hk);simpa using this) i
    have h0:v=true->u=true:=λ e=>by have:=h 0 (by simp [e]);simpa using this
    unfold B_ at this ⊢
    simp only [bD,bl]
    cases hk:(x.Kind==3&&x.B==(i:Int)) with
    | false=>simpa using this
    | true=>
     cases v with
     | false=>cases u <;> simp <;> omega
     | true=>rw [h0 rfl];simp;omega
theorem Axd {b:Aa} (h:Ar b) {s0:Ap} (hs0:B4 s0) :
  Ok (whileN (Sm b) 1152921504606846976 (0,s0.L,s0.At,([]:List Bool))) (D1 (λ s=>B4 ⟨s.2.1,s.2.2.1⟩/\s.2.2.2.length=b.Ad.length) (λ (_:Unit)=>False)):=by
 have hb:=h.brl
 refine c9 (λ s=>(0<=s.1/\s.1<=(b.Ad.length:Int))/\B4 ⟨s.2.1,s.2.2.1⟩/\(s.2.2.2.length:Int)=s.1) (λ s=>((b.Ad.length:Int)-s.1).toNat) _ _ ?_ ?_ ?_
 ·exact⟨by dsimp only;omega,hs0,by simp⟩
 ·dsimp only;omega
 ·rintro⟨i,L,a,l⟩ ⟨⟨h1,h2⟩,h4,h5⟩
  dsimp only at h1 h2 h4 h5
  unfold Sm Amj
  refine c4 (λ h=>?_) (λ h=>?_)
  ·simp only [dw] at h
   have e:w64 (i+1)=i+1:=A6 (by omega)
   dsimp only
   rw [e]
   refine (Ge h4 2 (by omega) (by omega)).bind λ u hu=>(cV (by simp;omega)).bind λ m hm=>c6 ?_
   subst hm
   exact⟨⟨by dsimp only;omega,hu.1,by simp;omega⟩,by dsimp only;omega⟩
  ·simp only [dx] at h
   exact cW ⟨h4,by dsimp only;omega⟩
theorem A8 {α:Type} {l:List α} {j:Nat} {x:α} (h:l[j]? = some x):getI l (j:Int)=some x:=by unfold getI;simp [h]
theorem M4 {α:Type} {l:List α} {j:Nat} {x:α} (h:j<l.length):setI l (j:Int) x=some (l.set j x):=by
 unfold setI
 have h1:decide ((0:Int)<=(j:Int))=true:=by simp
 have h2:decide ((j:Int)<(l.length:Int))=true:=by simp;omega
 rw [h1,h2];simp
theorem Axb {b:Aa} (h:Ar b) {n:Int} {i:Nat} (hn:n=(i:Int)) {c:List Bool} (hc:c.length=b.Ad.length) (w:Int×List Bool) (hw:w.1=n) :
  Ok (foldI (Sk w) b.Ad 0 (true,c)) (D1 (λ s=>s.2.length=b.Ad.length/\(∀ k:Nat,s.2[k]? = some true->c[k]? = some true)/\(B_ b.Ad s.2 i).length<=1) (λ (_:Unit)=>False)):=by
 have hb:=h.brl
 refine c7 (I:=λ j s=>s.2.length=b.Ad.length/\(∀ k:Nat,s.2[k]? = some true->c[k]? = some true)/\(s.1=true->B_ (b.Ad.take j) (s.2.take j) i=[])/\(B_ (b.Ad.take j) (s.2.take j) i).length<=1) ?_ (λ j x s hx hs=>?_) λ s hs=>?_
 ·exact⟨hc,λ _ h=>h,λ _=>by simp [B_],by simp [B_]⟩
 ·obtain⟨f,d⟩:=s
  obtain⟨h1,h2,h3,h4⟩:=hs
  dsimp only at h1 h2 h3 h4
  have hj:=(aa.1 hx).1
  obtain⟨v,hv⟩:∃ v,d[j]? = some v:=⟨_,af (by omega)⟩
  have hcnt:cnt 0 j=(j:Int):=Cw (by omega)
  unfold Sk Ah1
  dsimp only
  rw [hcnt,A8 hv,M4 (by omega),hw,hn]
  cases hk:(x.Kind==3&&x.B==(i:Int)) with
  | false=>
   simp only [Az,Cj,Bool.false_and]
   refine c6 ⟨h1,h2,λ e=>?_,?_⟩ <;> dsimp only <;> rw [Mf hx hv,hk]
   ·simpa using h3 e
   ·simpa using h4
  | true=>
   simp only [Az,Cj,aO]
   cases v with
   | false=>
    refine c6 ⟨h1,h2,λ e=>?_,?_⟩ <;> dsimp only <;> rw [Mf hx hv,hk]
    ·simpa using h3 e
    ·simpa using h4
   | true=>
    have hset:(d.set j f)[j]? = some f:=by rw [bE (by omega)]
    have htake:(d.set j f).take j=d.take j:=by rw [List.take_set_of_le (au j)]
    refine c6 ⟨by simpa using h1,λ k hk2=>?_,λ e=>?_,?_⟩
    ·dsimp only at hk2
     rw [ao] at hk2
     split at hk2
     ·rename_i e;subst e;exact h2 _ hv
     ·exact h2 _ hk2
    ·cases e
    ·dsimp only
     rw [Mf hx hset,hk,htake]
     cases f with
     | false=>simpa using h4
     | true=>simp [h3 rfl]
 ·rw [ay] at hs
  obtain⟨h1,h2,h3,h4⟩:=hs
  have:s.2.take b.Ad.length=s.2:=bN (by omega)
  rw [this] at h4
  exact⟨h1,h2,h4⟩
theorem Axc {b:Aa} (h:Ar b) {c:List Bool} (hc:c.length=b.Ad.length) :
  Ok (whileN (Sl b) 1152921504606846976 (0,c)) (D1 (λ s=>s.2.length=b.Ad.length/\∀ i,i<b.Af.length->(B_ b.Ad s.2 i).length<=1) (λ (_:Unit)=>False)):=by
 have hco:=h.col
 refine c9 (λ s=>(0<=s.1/\s.1<=(b.Af.length:Int))/\s.2.length=b.Ad.length/\∀ i:Nat,(i:Int)<s.1->(B_ b.Ad s.2 i).length<=1) (λ s=>((b.Af.length:Int)-s.1).toNat) _ _ ?_ ?_ ?_
 ·exact⟨by dsimp only;omega,hc,λ i hi=>by dsimp only at hi;omega⟩
 ·dsimp only;omega
 ·rintro⟨n,d⟩ ⟨⟨h1,h2⟩,h3,h4⟩
  dsimp only at h1 h2 h3 h4
  unfold Sl Ami
  refine c4 (λ hq=>?_) (λ hq=>?_)
  ·simp only [dw] at hq
   have e:w64 (n+1)=n+1:=A6 (by omega)
   dsimp only
   refine (Axb h (n:=n) (i:=n.toNat) (by omega) h3 (n,d) rfl).inner (λ s hs=>?_) (λ _ h=>h.elim)
   rw [e]
   obtain⟨g1,g2,g3⟩:=hs
   refine c6 ⟨⟨by dsimp only;omega,g1,λ i hi=>?_⟩,by dsimp only;omega⟩
   dsimp only at hi ⊢
   by_cases e:(i:Int)=n
   ·have:i=n.toNat:=by omega
    subst this;exact g3
   ·exact aA (Ahe (by omega) g2 i) (h4 i (by omega))
  ·simp only [dx] at hq
   exact cW ⟨h3,λ i hi=>h4 i (by omega)⟩
theorem Axa {b:Aa} (h:Ar b) {s0:Ap} (hs0:B4 s0) :
  Ok (whileN (Sj b) 1152921504606846976 (0,s0.L,s0.At,([]:List Ai))) (D1 (λ s=>B4 ⟨s.2.1,s.2.2.1⟩/\s.2.2.2.length=b.Ac.length/\∀ x,x∈s.2.2.2->C9 x/\x.Since<=4) (λ (_:Unit)=>False)):=by
 have hb:=h.sol
 refine c9 (λ s=>(0<=s.1/\s.1<=(b.Ac.length:Int))/\B4 ⟨s.2.1,s.2.2.1⟩/\(s.2.2.2.length:Int)=s.1/\∀ x,x∈s.2.2.2->C9 x/\x.Since<=4) (λ s=>((b.Ac.length:Int)-s.1).toNat) _ _ ?_ ?_ ?_
 ·exact⟨by dsimp only;omega,hs0,by simp,λ x hx=>by simp at hx⟩
 ·dsimp only;omega
 ·rintro⟨i,L,a,l⟩ ⟨⟨h1,h2⟩,h4,h5,h6⟩
  dsimp only at h1 h2 h4 h5 h6
  unfold Sj Ah0
  refine c4 (λ h=>?_) (λ h=>?_)
  ·simp only [dw] at h
   have e:w64 (i+1)=i+1:=A6 (by omega)
   dsimp only
   rw [e]
   refine (Gx h4 _ (by simp) (by simp)).bind λ u hu=>(Ge hu.1 5 (by omega) (by omega)).bind λ v hv=>(Gx hv.1 _ (by simp) (by simp)).bind λ p hp=>(Gx hp.1 _ (by simp) (by simp)).bind λ q hq=>(cV (by simp;omega)).bind λ m hm=>c6 ?_
   subst hm
   have g1:u.1=0\/u.1=1\/u.1=2\/u.1=2\/u.1=2\/u.1=3:=by simpa using hu.2
   have g2:=hv.2
   have g3:p.1=5000\/p.1=5000\/p.1=5005\/p.1=4950:=by simpa using hp.2
   have g4:q.1=0\/q.1=0\/q.1=40\/q.1=1800\/q.1=3590:=by simpa using hq.2
   refine⟨⟨by dsimp only;omega,hq.1,by simp;omega,λ x hx=>?_⟩,by dsimp only;omega⟩
   rcases aq.1 hx with hx | hx
   ·exact h6 x hx
   ·simp at hx;subst hx
    exact⟨⟨by dsimp only;omega,by dsimp only;omega,by dsimp only;omega,by dsimp only;omega⟩,by dsimp only;omega⟩
  ·simp only [dx] at h
   exact cW ⟨h4,by dsimp only;omega,h6⟩
theorem Aw9 {b:Aa} (h:Ar b) {s0:Ap} (hs0:B4 s0) :
  Ok (foldI Si b.Af 0 (s0.L,s0.At,([]:List Int))) (D1 (λ s=>B4 ⟨s.1,s.2.1⟩/\s.2.2.length=b.Af.length/\∀ (i:Nat) n c,s.2.2[i]? = some n->b.Af[i]? = some c->0<=n/\n<=c.Load) (λ (_:Unit)=>False)):=by
 have hb:=h.col
 refine c7 (I:=λ j s=>B4 ⟨s.1,s.2.1⟩/\s.2.2.length=j/\∀ (i:Nat) n c,s.2.2[i]? = some n->b.Af[i]? = some c->0<=n/\n<=c.Load) ?_ (λ j x s hx hs=>?_) λ s hs=>hs
 ·exact⟨hs0,rfl,λ i n c hn=>by simp at hn⟩
 ·obtain⟨L,a,l⟩:=s
  obtain⟨h1,h2,h3⟩:=hs
  dsimp only at h1 h2 h3
  have hj:=(aa.1 hx).1
  unfold Si
  dsimp only
  refine (Gx h1 _ (by simp) (by simp)).bind λ u hu=>(cV (by simp;omega)).bind λ m hm=>c6 ⟨hu.1,?_,λ i n c hn hc=>?_⟩
  ·subst hm;simp [h2]
  ·dsimp only at hn
   subst hm
   rw [bX] at hn
   split at hn
   ·exact h3 i n c hn hc
   ·rename_i hi
    have hlt:=(aa.1 hn).1
    simp at hlt
    have:i=j:=by omega
    subst this
    rw [hx] at hc;cases hc
    rw [h2] at hn
    simp at hn;subst hn
    obtain⟨g1,g2,_⟩:=h.co _ x hx
    have g3:=Awv (x:=x.Load) (by omega) (by omega)
    have g4:u.1=x.Load\/u.1=x.Load\/u.1=x.Least\/u.1=w64 (Int.tdiv x.Load 3):=by simpa using hu.2
    omega
theorem Aw8 {b:Aa} (h:Ar b) {s0:Ap} (hs0:B4 s0) :
  Ok (whileN (Sh b) 7 (1,s0.L,s0.At,([]:List As))) (D1 (λ s=>B4 ⟨s.2.1,s.2.2.1⟩/\Eh b s.2.2.2/\s.2.2.2.length<=4) (λ (_:Unit)=>False)):=by
 refine c9 (λ s=>(1<=s.1/\s.1<=5)/\B4 ⟨s.2.1,s.2.2.1⟩/\((s.2.2.2.length:Int)<s.1)/\(∀ x,x∈s.2.2.2->Cb b x/\x.Kind<s.1)/\∀ (j:Nat) x y,s.2.2.2[j]? = some x->s.2.2.2[j+1]? = some y->P9 x y) (λ s=>(5-s.1).toNat) _ _ ?_ ?_ ?_
 ·exact⟨by dsimp only;omega,hs0,by simp,λ x hx=>by simp at hx,λ j x y hx=>by simp at hx⟩
 ·dsimp only;omega
 ·rintro⟨i,L,a,l⟩ ⟨⟨h1,h2⟩,h4,h5,h6,h7⟩
  dsimp only at h1 h2 h4 h5 h6 h7
  unfold Sh
  refine c4 (λ hq=>?_) (λ hq=>?_)
  ·simp only [dw] at hq
   have e:w64 (i+1)=i+1:=A6 (by omega)
   dsimp only
   rw [e]
   have skip:∀ {u:Ap},B4 u->Ok (some (.next (i+1,u.L,u.At,l)):Option (Ctl (Int×List Int×Int×List As) Unit)) (Hp (λ s=>((1<=s.1/\s.1<=5)/\B4 ⟨s.2.1,s.2.2.1⟩/\((s.2.2.2.length:Int)<s.1)/\(∀ x,x∈s.2.2.2->Cb b x/\x.Kind<s.1)/\∀ (j:Nat) x y,s.2.2.2[j]? = some x->s.2.2.2[j+1]? = some y->P9 x y)/\(5-s.1).toNat<(5-i).toNat) (λ s=>B4 ⟨s.2.1,s.2.2.1⟩/\Eh b s.2.2.2/\s.2.2.2.length<=4) (λ _=>False)):=λ hu=>
    c6 ⟨⟨by dsimp only;omega,hu,by dsimp only;omega,λ x hx=>⟨(h6 x hx).1,by have:=(h6 x hx).2;dsimp only;omega⟩,h7⟩,by dsimp only;omega⟩
   refine (Ge h4 5 (by omega) (by omega)).bind λ u hu=>c4 (λ _=>?_) (λ _=>skip hu.1)
   refine (Ge hu.1 4 (by omega) (by omega)).bind λ v hv=>c4 (λ he=>?_) (λ _=>skip hv.1)
   rw [jZ h] at he
   refine (cV (by simp;omega)).bind λ m hm=>c6 ?_
   subst hm
   refine⟨⟨by dsimp only;omega,hv.1,by simp;omega,λ x hx=>?_,λ j x y hx hy=>?_⟩,by dsimp only;omega⟩
   ·rcases aq.1 hx with hx | hx
    ·exact⟨(h6 x hx).1,by have:=(h6 x hx).2;dsimp only;omega⟩
    ·simp at hx;subst hx;exact⟨he,by dsimp only;omega⟩
   ·dsimp only at hx hy
    have hyl:=(aa.1 hy).1
    simp at hyl
    rw [aw (by omega)] at hx
    rw [bX] at hy
    split at hy
    ·exact h7 j x y hx hy
    ·rename_i hn
     have e0:j+1-l.length=0:=by omega
     rw [e0] at hy
     simp at hy;subst hy
     exact .inl (h6 x (ae hx)).2
  ·simp only [dx] at hq
   exact cW ⟨h4,⟨by dsimp only;omega,λ x hx=>(h6 x hx).1,h7⟩,by dsimp only;omega⟩
theorem Awm {b:Aa} (h:Ar b) {s:Ap} (hs:B4 s):Ok (uQ s b) λ y=>((Aq b y.1/\y.1.Ah.length<=4)/\B4 y.2)/\∀ x,x∈y.1.Ac->x.Since<=4:=by
 unfold uQ
 refine (Axd h hs).andThen (λ s0 h0=>?_) (λ _ h=>h.elim)
 refine (Axc h h0.2).andThen (λ s1 h1=>?_) (λ _ h=>h.elim)
 refine (Axa h h0.1).andThen (λ s3 h3=>?_) (λ _ h=>h.elim)
 refine (Aw9 h h3.1).andThen (λ s4 h4=>?_) (λ _ h=>h.elim)
 refine (Aw8 h h4.1).andThen (λ s5 h5=>?_) (λ _ h=>h.elim)
 exact c5 ⟨⟨⟨⟨h1.1,h3.2.1,h4.2.1,λ x hx=>(h3.2.2 x hx).1,h4.2.2,h1.2,h5.2.1⟩,h5.2.2⟩,h5.1⟩,λ x hx=>(h3.2.2 x hx).2⟩
def By (b:Aa) (p:Ab) (k i:Int):Option Int:=((b.Ad.zip p.Ae).find? λ z=>(z.1.Kind==k&&z.1.B==i)&&z.2).map (·.1.A)
def Dd (o:Option Int):Int×Bool:=match o with
 | some a=>(a,true)
 | none=>(0,false)
theorem Ag1 {p:Ab} {k i:Int}:∀ (l:List Ag) (c:List Bool) (n:Nat),n+l.length<=9223372036854775807->l.length=c.length->p.Ae.drop n=c ->
  foldI (Wx p k i) l n ()=match ((l.zip c).find? λ z=>(z.1.Kind==k&&z.1.B==i)&&z.2) with
   | some z=>some (.ret (z.1.A,true))
   | none=>some (.next ())
 | [],c,n,_,_,_=>by simp [foldI]
 | x::l,[],n,_,h,_=>by simp at h
 | x::l,v::c,n,hn,h,hd=>by
  simp only [aS] at hn h
  have hv:p.Ae[n]? = some v:=by
   have:=congrArg (·[0]?) hd
   simpa [List.getElem?_drop] using this
  have hd':p.Ae.drop (n+1)=c:=by rw [←bO,hd];rfl
  have ih:=Ag1 (p:=p) (k:=k) (i:=i) l c (n+1) (by omega) (by omega) hd'
  have hcnt:cnt 0 n=(n:Int):=Cw (by omega)
  simp only [foldI,Wx,Aul,hcnt,A8 hv,bD,cj]
  cases hk:(x.Kind==k&&x.B==i) with
  | false=>simpa [Az,Cj] using ih
  | true=>
   cases v with
   | false=>simpa [Az,Cj] using ih
   | true=>simp [Az,Cj]
theorem Ata {b:Aa} (h:Ar b) {p:Ab} (hc:p.Ae.length=b.Ad.length) (k i:Int):zT b p k i=some (Dd (By b p k i)):=by
 have hb:=h.brl
 unfold zT
 rw [Ag1 b.Ad p.Ae 0 (by omega) (by omega) rfl]
 unfold By
 cases (b.Ad.zip p.Ae).find? λ z=>(z.1.Kind==k&&z.1.B==i)&&z.2 with
 | none=>rfl
 | some z=>rfl
theorem jY {b:Aa} (h:Ar b) {p:Ab} (hc:p.Ae.length=b.Ad.length) (i:Int):Zc b p i=some (Dd (By b p 3 i)):=by
 unfold Zc
 rw [Ata h hc];rfl
def Cy (b:Aa) (p:Ab) (i:Int):Option Int:=
 if 0<=i/\i<p.Ac.length/\(p.Ac.getD i.toNat default).State=2 then By b p 2 i else none
theorem Uo {b:Aa} (h:Ar b) {p:Ab} (hp:Aq b p) (i:Int):Y_ b p i=some (Dd (Cy b p i)):=by
 have hs:=h.sol
 have hn:=hp.nso
 refine cZ ?_
 unfold Y_
 have e1:w64 ((p.Ac.length:Int)-1)=(p.Ac.length:Int)-1:=A6 (by omega)
 by_cases hi:0<=i/\i<p.Ac.length
 ·have hin:F93 i 0 (w64 ((p.Ac.length:Int)-1))=true:=by rw [e1];exact yP (by omega)
  obtain⟨x,hx⟩:∃ x,p.Ac[i.toNat]? = some x:=⟨_,af (by omega)⟩
  have hg:getI p.Ac i=some x:=by have:=A8 hx;rwa [aK hi.1] at this
  have hd:p.Ac.getD i.toNat default=x:=by simp [List.getD,hx]
  rw [hin,hg]
  refine Ok.bind (P:=λ y=>y=x) (cT (λ _=>c5 rfl) λ hn=>(hn ⟨rfl,trivial⟩).elim) λ y hy=>?_
  subst hy
  unfold Cy
  refine c4 (λ hc=>?_) (λ hc=>?_)
  ·simp only [qT,hin,aJ,bi,bM,false_or,dE,ne_eq] at hc
   rw [hd,if_neg (λ hh=>hc hh.2.2)]
   exact c5 rfl
  ·have hc:=ff hc
   simp only [qT,hin,aJ,bi,bM,false_or,dE,ne_eq,Decidable.not_not] at hc
   rw [hd,if_pos ⟨hi.1,hi.2,hc⟩,Ata h hp.ncl]
   exact c5 rfl
 ·have hin:F93 i 0 (w64 ((p.Ac.length:Int)-1))=false:=by
   cases hq:F93 i 0 (w64 ((p.Ac.length:Int)-1)) with
   | false=>rfl
   | true=>rw [H5,e1] at hq;omega
  rw [hin]
  unfold Cy
  rw [if_neg (λ hh=>hi ⟨hh.1,hh.2.1⟩)]
  refine Ok.bind (P:=λ _=>True) (cT (λ hg=>absurd hg.1 (by simp)) λ _=>trivial) λ y _=>?_
  refine c4 (λ _=>c5 rfl) (λ hc=>?_)
  simp [qT,hin] at hc
theorem Ja {b:Aa} (h:Ar b) {p:Ab} {k i a:Int} (e:By b p k i=some a):0<=a/\a<b.Am:=by
 unfold By at e
 rw [cC] at e
 obtain⟨z,hz,rfl⟩:=e
 exact (h.br z.1 (bY (cD hz)).1).1
theorem Kw {b:Aa} (h:Ar b) {p:Ab} {i a:Int} (e:Cy b p i=some a):0<=a/\a<b.Am:=by
 unfold Cy at e
 split at e
 ·exact Ja h e
 ·cases e
def D3 (s:List Int) (z:Ag×Bool):List Int:=
 if z.1.Kind=1/\z.2=true then (s.set z.1.A.toNat (min (s.getD z.1.A.toNat 0) (s.getD z.1.B.toNat 0))).set z.1.B.toNat (min (s.getD z.1.A.toNat 0) (s.getD z.1.B.toNat 0)) else s
def Cn (l:List (Ag×Bool)) (s:List Int):List Int:=l.foldl D3 s
def Cr (n:Nat):List Int:=(List.range n).map λ (i:Nat)=>(i:Int)
def groups (b:Aa) (p:Ab):List Int:=(List.range b.Am.toNat).foldl (λ s _=>Cn (b.Ad.zip p.Ae) s) (Cr b.Am.toNat)
theorem Es (s:List Int) (z:Ag×Bool):(D3 s z).length=s.length:=by
 unfold D3;split <;> simp
theorem Fy (l:List (Ag×Bool)):∀ s:List Int,(Cn l s).length=s.length:=by
 induction l with
 | nil=>intro s;rfl
 | cons z l ih=>intro s;show (Cn l (D3 s z)).length=_;rw [ih,Es]
theorem O7 {b:Aa} {p:Ab} {n:Nat}:∀ (xs:List Nat) (s:List Int),s.length=n->(xs.foldl (λ s _=>Cn (b.Ad.zip p.Ae) s) s).length=n
 | [],s,h=>h
 | _::xs,s,h=>O7 xs _ (by rw [Fy];exact h)
theorem Hb (b:Aa) (p:Ab):(groups b p).length=b.Am.toNat:=O7 _ _ (by simp [Cr])
theorem Ax5 {b:Aa} (h:Ar b) {p:Ab} (hc:p.Ae.length=b.Ad.length) {s:List Int} (hs:s.length=b.Am.toNat) :
  Ok (foldI (Wy p) b.Ad 0 s) (D1 (λ r=>r=Cn (b.Ad.zip p.Ae) s) (λ (_:Unit)=>False)):=by
 have hb:=h.brl
 have hbu:=h.buses
 refine c7 (I:=λ j r=>r=Cn ((b.Ad.take j).zip (p.Ae.take j)) s) (by simp [Cn]) (λ j x r hx hr=>?_) λ r hr=>?_
 ·have hj:=(aa.1 hx).1
  obtain⟨v,hv⟩:∃ v,p.Ae[j]? = some v:=⟨_,af (by omega)⟩
  have hcnt:cnt 0 j=(j:Int):=Cw (by omega)
  have hl:r.length=b.Am.toNat:=by rw [hr,Fy,hs]
  have hnext:Cn ((b.Ad.take (j+1)).zip (p.Ae.take (j+1))) s=D3 r (x,v):=by
   rw [Bg hx,Bg hv,List.zip_append (by simp;omega)]
   unfold Cn at hr ⊢
   rw [aM,←hr];rfl
  rw [hnext]
  unfold Wy
  rw [hcnt,A8 hv]
  obtain⟨⟨a0,a1⟩,hk⟩:=h.br x (ae hx)
  by_cases k1:x.Kind=1
  ·rw [dy.2 k1]
   refine Ok.bind (P:=λ y=>y=v) (cT (λ _=>c5 rfl) λ hn=>(hn ⟨rfl,trivial⟩).elim) λ y hy=>?_
   subst hy
   have hB:x.A<x.B/\x.B<b.Am:=by omega
   cases y with
   | false=>
    refine c4 (λ hq=>by simp at hq) (λ _=>c6 ?_)
    simp [D3]
   | true=>
    refine c4 (λ _=>?_) (λ hq=>by simp at hq)
    refine (cS a0 (by omega)).bind λ u hu=>(cS (by omega) (by omega)).bind λ w hw=>(cU a0 (by omega)).bind λ t ht=>?_
    subst ht
    refine (cS (by omega) (by simp;omega)).bind λ _ _=>(cU (by omega) (by simp;omega)).bind λ t ht=>c6 ?_
    subst ht
    simp [D3,k1,List.getD,hu,hw]
  ·rw [dz.2 k1]
   refine Ok.bind (P:=λ _=>True) (cT (λ hg=>absurd hg.1 (by simp)) λ _=>trivial) λ y _=>?_
   refine c4 (λ hq=>by simp at hq) (λ _=>c6 ?_)
   simp [D3,k1]
 ·rw [ay,←hc,ay] at hr
  exact hr
theorem Atm {b:Aa} (h:Ar b) {p:Ab} (hc:p.Ae.length=b.Ad.length):zW b p=some (groups b p):=by
 have hbu:=h.buses
 refine cZ ?_
 unfold zW
 refine (Ok.mkI (by omega) (by omega)).bind λ y hy=>?_
 refine Ok.andThen (A:=λ s=>s=Cr b.Am.toNat) (B:=λ (_:Unit)=>False) ?_ ?_ (λ _ h=>h.elim)
 ·refine c7 (I:=λ j s=>s=(List.range b.Am.toNat).map λ i=>if i<j then (i:Int) else 0) ?_ (λ j x s hx hs=>?_) λ s hs=>?_
  ·rw [hy,Oa]
   exact ba λ i _=>by simp
  ·have hj:=(aa.1 hx).1
   have hjl:j<b.Am.toNat:=by rw [hy] at hj;simpa using hj
   have hcnt:cnt 0 j=(j:Int):=Cw (by omega)
   subst hs
   unfold zV
   rw [hcnt]
   refine (db (by omega) (by omega)).bind λ _ _=>(dj (by omega) (by omega)).bind λ z hz=>c6 ?_
   rw [hz]
   refine ba λ i _=>?_
   by_cases e:i=j
   ·subst e;simp
   ·have:((j:Int)).toNat=j:=by omega
    rw [this,if_neg e]
    by_cases e2:i<j
    ·rw [if_pos e2,if_pos (by omega)]
    ·rw [if_neg e2,if_neg (by omega)]
  ·rw [hs]
   unfold Cr
   refine ba λ i hi=>?_
   rw [hy]
   simp at hi
   simp [hi]
 ·rintro s rfl
  refine Ok.andThen (A:=λ s=>s=groups b p) (B:=λ (_:Unit)=>False) ?_ (λ s hs=>c5 hs) (λ _ h=>h.elim)
  refine c7 (I:=λ j s=>s=(List.range j).foldl (λ s _=>Cn (b.Ad.zip p.Ae) s) (Cr b.Am.toNat)) rfl (λ j x s hx hs=>?_) λ s hs=>?_
  ·unfold zU
   have hl:s.length=b.Am.toNat:=by rw [hs];exact O7 _ _ (by simp [Cr])
   refine (Ax5 h hc hl).inner (λ r hr=>c6 ?_) (λ _ h=>h.elim)
   rw [hr,bp,aM,←hs];rfl
  ·rw [hs]
   unfold groups
   congr 2
   simp [Cr]
theorem Ax4 {s:List Int} (h:∀ (i:Nat) v,s[i]? = some v->0<=v/\v<=i) {z:Ag×Bool} (hz:z.1.Kind=1->0<=z.1.A/\z.1.A<z.1.B/\z.1.B<s.length):∀ (i:Nat) v,(D3 s z)[i]? = some v->0<=v/\v<=i:=by
 unfold D3
 split
 ·rename_i hk
  obtain⟨h1,h2,h3⟩:=hz hk.1
  have ga:s[z.1.A.toNat]? = some (s.getD z.1.A.toNat 0):=by rw [af (by omega)];simp [List.getD,List.getElem?_eq_getElem (show z.1.A.toNat<s.length by omega)]
  have gb:s[z.1.B.toNat]? = some (s.getD z.1.B.toNat 0):=by rw [af (by omega)];simp [List.getD,List.getElem?_eq_getElem (show z.1.B.toNat<s.length by omega)]
  have ha:=h _ _ ga
  have hb:=h _ _ gb
  intro i v hv
  rw [ao] at hv
  split at hv
  ·rename_i e;subst e
   split at hv
   ·cases hv;omega
   ·cases hv
  ·rw [ao] at hv
   split at hv
   ·rename_i e;subst e
    split at hv
    ·cases hv;omega
    ·cases hv
   ·exact h i v hv
 ·exact h
theorem Abq {n:Nat}:∀ (l:List (Ag×Bool)) (s:List Int),s.length=n->(∀ z,z∈l->z.1.Kind=1->0<=z.1.A/\z.1.A<z.1.B/\z.1.B<n)->(∀ (i:Nat) v,s[i]? = some v->0<=v/\v<=i)->∀ (i:Nat) v,(Cn l s)[i]? = some v->0<=v/\v<=i
 | [],s,_,_,h=>h
 | z::l,s,hs,hz,h=>Abq l (D3 s z) (by rw [Es];exact hs) (λ y hy=>hz y (aj _ hy)) (Ax4 h (by rw [hs];exact hz z ah))
theorem Og {b:Aa} (h:Ar b) (p:Ab):∀ (i:Nat) v,(groups b p)[i]? = some v->0<=v/\v<=i:=by
 have hbu:=h.buses
 have hz:∀ z,z∈b.Ad.zip p.Ae->z.1.Kind=1->0<=z.1.A/\z.1.A<z.1.B/\z.1.B<(b.Am.toNat:Int):=by
  intro z hz hk
  have:=h.br z.1 (bY hz).1
  unfold Jd at this
  omega
 have key:∀ (xs:List Nat) (s:List Int),s.length=b.Am.toNat->(∀ (i:Nat) v,s[i]? = some v->0<=v/\v<=i)->∀ (i:Nat) v,(xs.foldl (λ s _=>Cn (b.Ad.zip p.Ae) s) s)[i]? = some v->0<=v/\v<=i:=by
  intro xs
  induction xs with
  | nil=>intro s _ h;exact h
  | cons x xs ih=>intro s hl h;exact ih _ (by rw [Fy];exact hl) (Abq _ s hl hz h)
 refine key _ _ (by simp [Cr]) ?_
 intro i v hv
 simp only [Cr,az] at hv
 cases hr:(List.range b.Am.toNat)[i]? with
 | none=>rw [hr] at hv;cases hv
 | some k=>
  rw [hr] at hv
  have:=aa.1 hr
  simp at this
  obtain⟨_,rfl⟩:=this
  cases hv;dsimp only;omega
def Iw (x:Aj):Bool:=!((x.Am.length:Int)==0)
theorem Ayi (l:List Aj) (h:l.length<=9223372036854775807):U2 l=some (Rh (λ x=>(x.Am.length:Int)==0) l):=by
 unfold U2
 exact Lg (λ x:Aj=>(x.Am.length:Int)==0) (λ i y=>rfl) l h
theorem A1s (l:List Aj) (hl:l.length<=1000):Qb l=some (l.filter Iw):=by
 refine cZ ?_
 unfold Qb
 rw [Ayi l (by omega)]
 simp only [ab]
 unfold Rh
 cases hf:l.findIdx? λ x=>(x.Am.length:Int)==0 with
 | none=>
  rw [cP] at hf
  refine c4 (λ _=>c5 ?_) (λ hc=>by simp at hc)
  rw [eq_comm,cA]
  intro x hx
  simp only [Iw,hf x hx];rfl
 | some i=>
  rw [cQ] at hf
  obtain⟨hi,hp,hn⟩:=hf
  refine c4 (λ hc=>?_) (λ _=>?_)
  ·simp only [dy] at hc;omega
  have e1:w64 ((i:Int)+1)=(i:Int)+1:=A6 (by omega)
  simp only [e1]
  refine Ok.andThen (A:=λ s=>0<=s.1/\s.1<=(l.length:Int)/\s.2.2.length=l.length/\s.2.2.take s.1.toNat=l.filter Iw) (B:=λ (_:Unit)=>False) ?_ ?_ (λ _ h=>h.elim)
  ·refine c9 (λ s=>(0<=s.1/\s.1<s.2.1/\s.2.1<=(l.length:Int))/\s.2.2.length=l.length/\s.2.2.take s.1.toNat=(l.take s.2.1.toNat).filter Iw/\s.2.2.drop s.2.1.toNat=l.drop s.2.1.toNat) (λ s=>((l.length:Int)-s.2.1).toNat) _ _ ?_ ?_ ?_
   ·refine⟨by dsimp only;omega,rfl,?_,rfl⟩
    dsimp only
    have e2:((i:Int)+1).toNat=i+1:=by omega
    rw [e2,ai,Bg (af hi),bk]
    have h1:(l.take i).filter Iw=l.take i:=by
     rw [cA]
     intro x hx
     obtain⟨j,hj,rfl⟩:=bP hx
     simp only [aF] at hj
     rw [List.getElem_take]
     have:=hn j (by omega)
     simp only [Iw]
     simpa using this
    have h2:Iw l[i]=false:=by simp only [Iw,hp];rfl
    rw [h1]
    simp [h2]
   ·dsimp only;omega
   ·rintro⟨a,j,m⟩ ⟨⟨h1,h2,h3⟩,h4,h5,h6⟩
    dsimp only at h1 h2 h3 h4 h5 h6
    unfold U6 Ah2
    dsimp only
    refine c4 (λ hq=>?_) (λ hq=>?_)
    ·simp only [dw] at hq
     have e1:w64 (j+1)=j+1:=A6 (by omega)
     have e2:w64 (a+1)=a+1:=A6 (by omega)
     have e3:(j+1).toNat=j.toNat+1:=by omega
     have e4:(a+1).toNat=a.toNat+1:=by omega
     refine (cS (by omega) (by omega)).bind λ y hy=>?_
     have hyl:l[j.toNat]? = some y:=by
      have:=congrArg (·[0]?) h6
      simp only [ar,ck] at this
      rw [←this];exact hy
     have hdrop:∀ (q:List Aj),q.drop j.toNat=l.drop j.toNat->q.drop (j.toNat+1)=l.drop (j.toNat+1):=λ q hq=>by
      rw [←bO,hq,bO]
     refine c4 (λ hf=>?_) (λ hf=>?_)
     ·refine (cS (by omega) (by omega)).bind λ _ _=>(cU (by omega) (by omega)).bind λ z hz=>?_
      rw [e1,e2]
      subst hz
      refine c6 ⟨⟨by dsimp only;omega,by simpa using h4,?_,?_⟩,by dsimp only;omega⟩
      ·dsimp only
       rw [e3,e4,Bg hyl,bk,←h5]
       have hfl:Iw y=true:=hf
       rw [Bg (x:=y) (by rw [bE (by omega)])]
       simp [hfl,List.take_set_of_le]
      ·dsimp only
       rw [e3,List.drop_set_of_lt (by omega)]
       exact hdrop m h6
     ·rw [e1]
      refine c6 ⟨⟨by dsimp only;omega,h4,?_,?_⟩,by dsimp only;omega⟩
      ·dsimp only
       have hfl:Iw y=false:=hf
       rw [e3,Bg hyl,bk,←h5]
       simp [hfl]
      ·dsimp only
       rw [e3];exact hdrop m h6
    ·simp only [dx] at hq
     have e:j.toNat=l.length:=by omega
     refine cW ⟨h1,by dsimp only;omega,h4,?_⟩
     dsimp only
     rw [h5,e,ay]
  ·rintro⟨a,j,m⟩ ⟨h1,h2,h3,h4⟩
   dsimp only at h1 h2 h3 h4 ⊢
   have hc:(G5 m a.toNat ((Int.toNat (m.length:Int))-a.toNat) (⟨([]:List Int),([]:List Int),([]:List Int)⟩:Aj)).length=l.length:=by
    simp [G5];omega
   refine (Ok.bndI h1 (by omega) (by omega)).bind λ _ _=>(Ok.bndI (by omega) h1 (by rw [hc];omega)).bind λ _ _=>c5 ?_
   rw [←h4]
   unfold G5
   rw [Nat.sub_zero,bZ (by simp;omega),cm,Nat.min_self]
def Dr (b:Aa) (p:Ab) (o:Option Int):Option Int:=o.map λ a=>(groups b p).getD a.toNat 0
def D0 (b:Aa) (p:Ab) (n f:Nat):List Int:=((List.range n).filter λ (i:Nat)=>(groups b p).getD i 0==(f:Int)).map λ (i:Nat)=>(i:Int)
def El (b:Aa) (p:Ab) (n f:Nat):List Int:=((List.range n).filter λ (i:Nat)=>Dr b p (Cy b p (i:Int))==some (f:Int)).map λ (i:Nat)=>(i:Int)
def Gb (b:Aa) (p:Ab) (n f:Nat):List Int:=((List.range n).filter λ (i:Nat)=>Dr b p (By b p 3 (i:Int))==some (f:Int)).map λ (i:Nat)=>(i:Int)
def isl (b:Aa) (p:Ab) (f:Nat):Aj:=⟨D0 b p b.Am.toNat f,El b p b.Ac.length f,Gb b p b.Af.length f⟩
def Bd (b:Aa) (p:Ab):List Aj:=((List.range b.Am.toNat).map (isl b p)).filter Iw
theorem Ea (q:Nat->Bool) (n:Nat):((List.range (n+1)).filter q).map (λ (i:Nat)=>(i:Int))=((List.range n).filter q).map (λ (i:Nat)=>(i:Int))++if q n=true then [(n:Int)] else []:=by
 rw [bp,bk,bm]
 congr 1
 cases h:q n <;> simp [h]
theorem De (q:Nat->Bool) (n:Nat):(((List.range n).filter q).map (λ (i:Nat)=>(i:Int))).length<=n:=by
 have:=bh q (List.range n)
 simpa using this
theorem J4 {b : Aa} (h : Ar b) {p : Ab} (hp : Aq b p) : Zd b p = some (Bd b p) := by
 have hbu:=h.buses
 have hso:=h.sol
 have hco:=h.col
 have hgl:=Hb b p
 have hglo:=Og h p
 refine cZ ?_
 unfold Zd
 rw [Cm h hp]
 simp only [ab]
 refine c4 (λ hc=>by simp at hc) (λ _=>?_)
 rw [Atm h hp.ncl]
 simp only [ab]
 refine (Ok.mkI (by omega) (by omega)).bind λ y hy=>?_
 have hget:∀ (i:Nat),i<b.Am.toNat->(groups b p)[i]? = some ((groups b p).getD i 0):=λ i hi=>by
  have:i<(groups b p).length:=by omega
  simp [List.getD,List.getElem?_eq_getElem this]
 refine Ok.andThen (A:=λ s=>s=(List.range b.Am.toNat).map λ f=>(⟨D0 b p b.Am.toNat f,[],[]⟩:Aj)) (B:=λ (_:Unit)=>False) ?_ ?_ (λ _ h=>h.elim)
 ·refine c7 (I:=λ j s=>s=(List.range b.Am.toNat).map λ f=>(⟨D0 b p j f,[],[]⟩:Aj)) ?_ (λ j x s hx hs=>?_) λ s hs=>?_
  ·rw [hy,Oa];rfl
  ·subst hs
   have hj:j<b.Am.toNat:=by have:=(aa.1 hx).1;omega
   have hlo:=hglo j x hx
   have hxe:(groups b p).getD j 0=x:=by simp [List.getD,hx]
   have hcnt:cnt 0 j=(j:Int):=Cw (by omega)
   unfold Aac
   rw [hcnt]
   refine (db (by omega) (by omega)).bind λ u hu=>?_
   subst hu
   have hl:(D0 b p j x.toNat).length<=j:=De _ _
   refine (cV (by simp;omega)).bind λ v hv=>(dj (by omega) (by omega)).bind λ w hw=>c6 ?_
   rw [hw]
   refine ba λ f _=>?_
   unfold D0
   rw [Ea,hxe]
   by_cases e:f=x.toNat
   ·subst e
    rw [if_pos rfl,if_pos (by simp;omega),hv]
    rfl
   ·rw [if_neg e,if_neg (by simp;omega),aG]
  ·rw [hgl] at hs;exact hs
 ·rintro s rfl
  refine Ok.andThen (A:=λ s=>s.2=(List.range b.Am.toNat).map λ f=>(⟨D0 b p b.Am.toNat f,El b p b.Ac.length f,[]⟩:Aj)) (B:=λ (_:Unit)=>False) ?_ ?_ (λ _ h=>h.elim)
  ·refine c9 (λ s=>(0<=s.1/\s.1<=(b.Ac.length:Int))/\s.2=(List.range b.Am.toNat).map λ f=>(⟨D0 b p b.Am.toNat f,El b p s.1.toNat f,[]⟩:Aj)) (λ s=>((b.Ac.length:Int)-s.1).toNat) _ _ ?_ ?_ ?_
   ·exact⟨by dsimp only;omega,rfl⟩
   ·dsimp only;omega
   ·rintro⟨i,s⟩ ⟨⟨h1,h2⟩,h3⟩
    dsimp only at h1 h2 h3
    subst h3
    unfold Aab Aun
    dsimp only
    refine c4 (λ hq=>?_) (λ hq=>?_)
    ·simp only [dw] at hq
     have e1:w64 (i+1)=i+1:=A6 (by omega)
     have e2:(i+1).toNat=i.toNat+1:=by omega
     have e3:((i.toNat:Nat):Int)=i:=by omega
     rw [Uo h hp]
     simp only [ab]
     cases hcn:Cy b p i with
     | none=>
      refine c4 (λ hc=>by simp [Dd] at hc) (λ _=>?_)
      rw [e1]
      refine c6 ⟨⟨by dsimp only;omega,?_⟩,by dsimp only;omega⟩
      dsimp only
      rw [e2]
      refine ba λ f _=>?_
      unfold El
      rw [Ea,e3,hcn,if_neg (by simp [Dr]),aG]
     | some a=>
      have hab:=Kw h hcn
      have hga:=hget a.toNat (by omega)
      have hgla:=hglo _ _ hga
      refine c4 (λ _=>?_) (λ hc=>by simp [Dd] at hc)
      have hg2:getI (groups b p) a=some ((groups b p).getD a.toNat 0):=by have:=A8 hga;rwa [aK hab.1] at this
      simp only [Dd,hg2,ab]
      generalize hge:(groups b p).getD a.toNat 0=ga at hgla
      refine (db (by omega) (by omega)).bind λ u hu=>?_
      subst hu
      have hl:(El b p i.toNat ga.toNat).length<=i.toNat:=De _ _
      refine (cV (by simp;omega)).bind λ v hv=>(dj (by omega) (by omega)).bind λ w hw=>?_
      rw [e1]
      refine c6 ⟨⟨by dsimp only;omega,?_⟩,by dsimp only;omega⟩
      dsimp only
      rw [hw,e2]
      refine ba λ f _=>?_
      unfold El
      rw [Ea,e3,hcn]
      simp only [Dr,bQ,hge]
      by_cases e:f=ga.toNat
      ·subst e
       rw [if_pos rfl,if_pos (by simp;omega),hv]
       rfl
      ·rw [if_neg e,if_neg (by simp;omega),aG]
    ·simp only [dx] at hq
     have e:i.toNat=b.Ac.length:=by omega
     rw [e]
     exact cW rfl
  ·rintro⟨i0,s⟩ hs
   dsimp only at hs
   subst hs
   dsimp only
   refine Ok.andThen (A:=λ s=>s.2=(List.range b.Am.toNat).map (isl b p)) (B:=λ (_:Unit)=>False) ?_ ?_ (λ _ h=>h.elim)
   ·refine c9 (λ s=>(0<=s.1/\s.1<=(b.Af.length:Int))/\s.2=(List.range b.Am.toNat).map λ f=>(⟨D0 b p b.Am.toNat f,El b p b.Ac.length f,Gb b p s.1.toNat f⟩:Aj)) (λ s=>((b.Af.length:Int)-s.1).toNat) _ _ ?_ ?_ ?_
    ·exact⟨by dsimp only;omega,rfl⟩
    ·dsimp only;omega
    ·rintro⟨i,s⟩ ⟨⟨h1,h2⟩,h3⟩
     dsimp only at h1 h2 h3
     subst h3
     unfold Aaa Aum
     dsimp only
     refine c4 (λ hq=>?_) (λ hq=>?_)
     ·simp only [dw] at hq
      have e1:w64 (i+1)=i+1:=A6 (by omega)
      have e2:(i+1).toNat=i.toNat+1:=by omega
      have e3:((i.toNat:Nat):Int)=i:=by omega
      rw [jY h hp.ncl]
      simp only [ab]
      cases hcn:By b p 3 i with
      | none=>
       refine c4 (λ hc=>by simp [Dd] at hc) (λ _=>?_)
       rw [e1]
       refine c6 ⟨⟨by dsimp only;omega,?_⟩,by dsimp only;omega⟩
       dsimp only
       rw [e2]
       refine ba λ f _=>?_
       unfold Gb
       rw [Ea,e3,hcn,if_neg (by simp [Dr]),aG]
      | some a=>
       have hab:=Ja h hcn
       have hga:=hget a.toNat (by omega)
       have hgla:=hglo _ _ hga
       refine c4 (λ _=>?_) (λ hc=>by simp [Dd] at hc)
       have hg2:getI (groups b p) a=some ((groups b p).getD a.toNat 0):=by have:=A8 hga;rwa [aK hab.1] at this
       simp only [Dd,hg2,ab]
       generalize hge:(groups b p).getD a.toNat 0=ga at hgla
       refine (db (by omega) (by omega)).bind λ u hu=>?_
       subst hu
       have hl:(Gb b p i.toNat ga.toNat).length<=i.toNat:=De _ _
       refine (cV (by simp;omega)).bind λ v hv=>(dj (by omega) (by omega)).bind λ w hw=>?_
       rw [e1]
       refine c6 ⟨⟨by dsimp only;omega,?_⟩,by dsimp only;omega⟩
       dsimp only
       rw [hw,e2]
       refine ba λ f _=>?_
       unfold Gb
       rw [Ea,e3,hcn]
       simp only [Dr,bQ,hge]
       by_cases e:f=ga.toNat
       ·subst e
        rw [if_pos rfl,if_pos (by simp;omega),hv]
        rfl
       ·rw [if_neg e,if_neg (by simp;omega),aG]
     ·simp only [dx] at hq
      have e:i.toNat=b.Af.length:=by omega
      rw [e]
      exact cW rfl
   ·rintro⟨i1,s⟩ hs
    dsimp only at hs
    subst hs
    dsimp only
    rw [A1s _ (by simp;omega)]
    exact c5 rfl
theorem Rx {α:Type} {B:Nat} {l:List α} (h:l.length*B<=140737488355328):appI B [] l=some l:=by
 unfold appI
 have:decide ((([]:List α).length+l.length)*B<=140737488355328)=true:=by simpa using h
 rw [this];rfl
theorem D8 {b:Aa} (h:Ar b) {p:Ab} (hp:Aq b p):F35 p=some p:=by
 have h1:=hp.ncl
 have h2:=hp.nso
 have h3:=hp.nli
 have h4:=hp.brk.len
 have h5:=h.brl
 have h6:=h.sol
 have h7:=h.col
 unfold F35 F78 F79 F80 F81
 rw [Rx (by omega),Rx (by omega),Rx (by omega),Rx (by omega)]
 rfl
structure A5i (p:Ab):Prop where
 c:p.Ae.length<=1000
 s:p.Ac.length<=1000
 l:p.Al.length<=1000
 k:p.Ah.length<=1000
theorem Aq.lens {b:Aa} (h:Ar b) {p:Ab} (hp:Aq b p):A5i p:=by
 have h1:=hp.ncl
 have h2:=hp.nso
 have h3:=hp.nli
 have h4:=hp.brk.len
 have h5:=h.brl
 have h6:=h.sol
 have h7:=h.col
 exact⟨by omega,by omega,by omega,by omega⟩
def Am9 (B3 x:Ai):Ai:=⟨x.State,x.Since,B3.Au,B3.Phase⟩
def Ew (B3:Ai) (idx:List Int) (ss:List Ai):List Ai:=idx.foldl (λ s i=>s.set i.toNat (Am9 B3 (s.getD i.toNat default))) ss
theorem Hi (B3:Ai):∀ (idx:List Int) (ss:List Ai),(Ew B3 idx ss).length=ss.length
 | [],_=>rfl
 | i::idx,ss=>by
  show (Ew B3 idx _).length=_
  rw [Hi B3 idx,be]
theorem Aat {B3:Ai} {idx:List Int} {j:Nat} {i:Int} (h:idx[j]? = some i) (ss:List Ai):Ew B3 (idx.take (j+1)) ss=(Ew B3 (idx.take j) ss).set i.toNat (Am9 B3 ((Ew B3 (idx.take j) ss).getD i.toNat default)):=by
 unfold Ew
 rw [Bg h,aM];rfl
theorem Afo {p:Ab} {idx:List Int} {B3:Ai} (h:∀ i,i∈idx->0<=i/\i<p.Ac.length):Nu p idx B3=some (Ew B3 idx p.Ac):=by
 refine cZ ?_
 unfold Nu
 refine Ok.andThen (A:=λ s=>s=Ew B3 idx p.Ac) (B:=λ (_:Unit)=>False) ?_ (λ s hs=>c5 hs) (λ _ h=>h.elim)
 refine c7 (I:=λ j s=>s=Ew B3 (idx.take j) p.Ac) rfl (λ j x s hx hs=>?_) λ s hs=>?_
 ·have hi:=h x (ae hx)
  have hl:s.length=p.Ac.length:=by rw [hs,Hi]
  unfold U_
  refine (cS hi.1 (by omega)).bind λ u hu=>(cU hi.1 (by omega)).bind λ v hv=>?_
  have hvg:v[x.toNat]? = some (⟨u.State,u.Since,B3.Au,u.Phase⟩:Ai):=by rw [hv,bE (by omega)]
  refine Ok.bind (P:=λ w=>w=(⟨u.State,u.Since,B3.Au,u.Phase⟩:Ai)) ((cS hi.1 (by rw [hv];simpa using by omega)).mono λ w hw=>by rw [hvg] at hw;cases hw;rfl) λ w hw=>?_
  refine (cU hi.1 (by rw [hv];simpa using by omega)).bind λ z hz=>c6 ?_
  rw [Aat hx,←hs,hz,hv,hw,List.set_set]
  have:s.getD x.toNat default=u:=by simp [List.getD,hu]
  rw [this];rfl
 ·rw [ay] at hs;exact hs
def D_ (b:Aa) (p:Ab):List Ai:=(Bd b p).foldl (λ s x=>match x.Ac with | []=>s | i::_=>Ew (p.Ac.getD i.toNat default) x.Ac s) p.Ac
theorem Wd {b:Aa} {p:Ab} {x:Aj} (h:x∈Bd b p):∀ i,i∈x.Ac->0<=i/\i<b.Ac.length:=by
 unfold Bd at h
 obtain⟨f,_,rfl⟩:=am.1 (an.1 h).1
 intro i hi
 obtain⟨k,hk,rfl⟩:=am.1 hi
 have:=aH.1 (an.1 hk).1
 omega
theorem Ps (b:Aa) (p:Ab):(Bd b p).length<=b.Am.toNat:=by
 have:=bh Iw ((List.range b.Am.toNat).map (isl b p))
 simpa [Bd] using this
def Dc (p:Ab) (s:List Ai) (x:Aj):List Ai:=match x.Ac with
 | []=>s
 | i::_=>Ew (p.Ac.getD i.toNat default) x.Ac s
theorem Nk (p:Ab) (s:List Ai) (x:Aj):(Dc p s x).length=s.length:=by
 unfold Dc;split
 ·rfl
 ·rw [Hi]
theorem K_ (p:Ab):∀ (l:List Aj) (s:List Ai),(l.foldl (Dc p) s).length=s.length
 | [],_=>rfl
 | x::l,s=>by show (l.foldl (Dc p) _).length=_;rw [K_ p l,Nk]
theorem Gt (b:Aa) (p:Ab):(D_ b p).length=p.Ac.length:=K_ p _ _
theorem Uf {b:Aa} (h:Ar b) {p:Ab} (hp:Aq b p):Aae b p=some (⟨p.Ae,D_ b p,p.Al,p.Ah⟩,0):=by
 refine cZ ?_
 unfold Aae
 rw [Cm h hp,D8 h hp,J4 h hp]
 simp only [ab]
 refine c4 (λ hc=>by simp at hc) (λ _=>?_)
 refine Ok.andThen (A:=λ s=>s=D_ b p) (B:=λ (_:Unit)=>False) ?_ (λ s hs=>c5 (by rw [hs])) (λ _ h=>h.elim)
 refine c7 (I:=λ j s=>s=((Bd b p).take j).foldl (Dc p) p.Ac) rfl (λ j x s hx hs=>?_) λ s hs=>?_
 ·have hi:=Wd (ae hx)
  have hl:s.length=p.Ac.length:=by rw [hs,K_]
  have hn:=hp.nso
  have hnext:((Bd b p).take (j+1)).foldl (Dc p) p.Ac=Dc p s x:=by rw [Bg hx,aM,←hs];rfl
  unfold Aad Auo
  cases hsrc:x.Ac with
  | nil=>
   refine c4 (λ hc=>by simp at hc) (λ _=>c6 ?_)
   rw [hnext];simp [Dc,hsrc]
  | cons i l=>
   have hi0:=hi i (by rw [hsrc];exact ah)
   refine c4 (λ _=>?_) (λ hc=>by simp at hc)
   have hg:getI (i::l) 0=some i:=rfl
   obtain⟨u,hu⟩:∃ u,p.Ac[i.toNat]? = some u:=⟨_,af (by omega)⟩
   have hg2:getI p.Ac i=some u:=by have:=A8 hu;rwa [aK hi0.1] at this
   rw [hg]
   simp only [ab]
   rw [hg2]
   simp only [ab]
   rw [Afo (by
    intro k hk
    have:=hi k (by rw [hsrc];exact hk)
    dsimp only
    omega)]
   refine c6 ?_
   rw [hnext]
   have:p.Ac.getD i.toNat default=u:=by simp [List.getD,hu]
   simp only [Dc,hsrc,this]
 ·rw [ay] at hs;exact hs

theorem A2l (b:Aa):F62 b ⟨7,0,0⟩=some true:=rfl
def brk (l:List As) (k n:Int):Bool:=l.any λ x=>k==x.Kind&&n==x.Number
theorem C3 {p:Ab} (h:p.Ah.length<=1000) (k n:Int):F76 p k n=some (brk p.Ah k n):=by
 unfold F76 Aqo Aqk
 rw [Lg (λ x:As=>(k==x.Kind)&&((n==x.Number)&&true)) (λ i y=>rfl) p.Ah (by omega)]
 simp only [ab,Rg,brk,bt]
def Ft (b:Aa) (i:Int):Int:=Rh (λ x:Ag=>x.Kind==2&&x.B==i) b.Ad
theorem Io {b:Aa} (h:Ar b) (i:Int):F56 b i=some (Ft b i):=by
 have hb:=h.brl
 unfold F56 vF
 refine cZ ?_
 refine Ok.bind (P:=λ y=>y=(Ft b i,i)) ?_ (λ y hy=>c5 (by rw [hy]))
 have key:=O0 (f:=λ n (a:Ag) (z:Unit)=>(bif (a.Kind==2&&a.B==i) then some (.ret (cnt 0 n)) else some (.next ()):Option (Ctl Unit Int))) (p:=λ x:Ag=>x.Kind==2&&x.B==i) (λ _ _=>rfl) b.Ad 0 (by omega)
 have:∀ (xs:List Ag) (k:Nat),foldI (Oz i) xs k ()=match foldI (λ n (a:Ag) (z:Unit)=>(bif (a.Kind==2&&a.B==i) then some (.ret (cnt 0 n)) else some (.next ()):Option (Ctl Unit Int))) xs k () with
   | some (.ret r)=>some (.ret (r,i))
   | some (.next _)=>some (.next ())
   | some (.brk _)=>some (.brk ())
   | none=>none:=by
  intro xs
  induction xs with
  | nil=>intro k;rfl
  | cons x xs ih=>
   intro k
   simp only [foldI,Oz,vE]
   cases hq:(x.Kind==2&&x.B==i) with
   | true=>rfl
   | false=>simp only [cond_false];exact ih (k+1)
 rw [this,key]
 unfold Ft Rh
 cases b.Ad.findIdx? (λ x:Ag=>x.Kind==2&&x.B==i) with
 | none=>exact c5 rfl
 | some j=>exact c5 rfl
theorem J9 {b:Aa} (h:Ar b) {i:Int} (h0:0<=i) (h1:i<b.Ac.length):∃ (j:Nat) (x:Ag),Ft b i=(j:Int)/\b.Ad[j]? = some x/\x.Kind=2/\x.B=i/\j<24:=by
 have hone:=h.one i.toNat (by omega)
 have hb:=h.brl
 unfold Ft Rh
 cases hf:b.Ad.findIdx? (λ x:Ag=>x.Kind==2&&x.B==i) with
 | none=>
  exfalso
  rw [cP] at hf
  have:brs b.Ad 2 i.toNat=[]:=Kx λ x hx hk e=>by
   have:=hf x hx
   simp [hk] at this
   omega
  rw [this] at hone;simp at hone
 | some j=>
  rw [cQ] at hf
  obtain⟨hj,hp,_⟩:=hf
  simp only [ac,dy] at hp
  exact⟨j,b.Ad[j],rfl,af hj,hp.1,hp.2,by omega⟩
def B0 (b:Aa) (l:List As) (i:Int):Bool:=
 let x:=b.Ad.getD i.toNat default
 (!brk l 2 i && !brk l 3 x.A)&&((x.Kind != 1) || !brk l 3 x.B)
theorem Qn {b:Aa} (h:Ar b) {p:Ab} (hl:p.Ah.length<=1000) {i:Int} (h0:0<=i) (h1:i<b.Ad.length):F57 b p i=some (B0 b p.Ah i):=by
 have hb:=h.brl
 refine cZ ?_
 unfold F57
 refine (cS h0 (by omega)).bind λ x hx=>?_
 have hd:b.Ad.getD i.toNat default=x:=by simp [List.getD,hx]
 unfold B0
 rw [hd]
 simp only [C3 hl,ab]
 cases h2:brk p.Ah 2 i with
 | true=>simp [Az,Cj];exact c5 rfl
 | false=>
  cases h3:brk p.Ah 3 x.A with
  | true=>simp [Az,Cj];exact c5 rfl
  | false=>
   cases hk:(x.Kind != 1) with
   | true=>simp [Az,Cj];exact c5 rfl
   | false=>simp [Az,Cj];exact c5 rfl
def Bi (b:Aa) (p:Ab) (i:Int):Bool:=(B0 b p.Ah (Ft b i) && !brk p.Ah 1 i)&&((p.Ac.getD i.toNat default).State != 3)
theorem Sz {b:Aa} (h:Ar b) {p:Ab} (hp:p.Ac.length=b.Ac.length) (hl:p.Ah.length<=1000) {i:Int} (h0:0<=i) (h1:i<b.Ac.length):F55 b p i=some (Bi b p i):=by
 obtain⟨j,x,e,hx,_,_,hj⟩:=J9 h h0 h1
 have hjl:=(aa.1 hx).1
 refine cZ ?_
 unfold F55
 rw [Io h]
 simp only [ab]
 rw [Qn h hl (by omega) (by omega)]
 simp only [ab,C3 hl]
 obtain⟨s,hs⟩:∃ s,p.Ac[i.toNat]? = some s:=⟨_,af (by omega)⟩
 have hg:getI p.Ac i=some s:=by have:=A8 hs;rwa [aK h0] at this
 have hd:p.Ac.getD i.toNat default=s:=by simp [List.getD,hs]
 unfold Bi
 rw [hd,hg]
 cases h2:B0 b p.Ah (Ft b i) with
 | false=>simp [Az,Cj];exact c5 rfl
 | true=>
  cases h3:brk p.Ah 1 i with
  | true=>simp [Az,Cj];exact c5 rfl
  | false=>simp [Az,Cj];exact c5 rfl
def lit (b:Aa) (u:Int->Bool) (s:List Bool) (i:Nat):List Bool:=if u (i:Int) then s.set (b.Ad.getD (Ft b (i:Int)).toNat default).A.toNat true else s
def E6 (sd:Int->Bool) (s:List Bool) (z:Ag×Nat):List Bool:=
 if z.1.Kind=1/\sd (z.2:Int)=true then (s.set z.1.A.toNat (s.getD z.1.A.toNat false || s.getD z.1.B.toNat false)).set z.1.B.toNat (s.getD z.1.A.toNat false || s.getD z.1.B.toNat false) else s
def Dt (sd:Int->Bool) (l:List (Ag×Nat)) (s:List Bool):List Bool:=l.foldl (E6 sd) s
def Q9 (b:Aa) (u:Int->Bool):List Bool:=(List.range b.Ac.length).foldl (lit b u) (List.replicate b.Am.toNat false)
def F5 (b:Aa) (u sd:Int->Bool):List Bool:=(List.range b.Am.toNat).foldl (λ s _=>Dt sd b.Ad.zipIdx s) (Q9 b u)
theorem Q_ (b:Aa) (u:Int->Bool) (s:List Bool) (i:Nat):(lit b u s i).length=s.length:=by unfold lit;split <;> simp
theorem I0 (b:Aa) (u:Int->Bool):(Q9 b u).length=b.Am.toNat:=by
 have:∀ (xs:List Nat) (s:List Bool),(xs.foldl (lit b u) s).length=s.length:=by
  intro xs
  induction xs with
  | nil=>intro s;rfl
  | cons x xs ih=>intro s;rw [aY,ih,Q_]
 unfold Q9
 rw [this];simp
theorem I2 (sd:Int->Bool) (s:List Bool) (z:Ag×Nat):(E6 sd s z).length=s.length:=by unfold E6;split <;> simp
theorem L4 (sd:Int->Bool):∀ (l:List (Ag×Nat)) (s:List Bool),(Dt sd l s).length=s.length
 | [],_=>rfl
 | z::l,s=>by show (Dt sd l _).length=_;rw [L4 sd l,I2]
theorem I3 (sd:Int->Bool) (l:List (Ag×Nat)):∀ (xs:List Nat) (s:List Bool),(xs.foldl (λ s _=>Dt sd l s) s).length=s.length
 | [],_=>rfl
 | _::xs,s=>by rw [aY,I3 sd l xs,L4]
theorem Ni (b:Aa) (u sd:Int->Bool):(F5 b u sd).length=b.Am.toNat:=by
 unfold F5
 rw [I3,I0]
theorem Aoc {b:Aa} (h:Ar b) {p:Ab} (hl:p.Ah.length<=1000) {s:List Bool} (hs:s.length=b.Am.toNat) :
  Ok (foldI (uU b p) b.Ad 0 s) (D1 (λ r=>r=Dt (B0 b p.Ah) b.Ad.zipIdx s) (λ (_:Unit)=>False)):=by
 have hb:=h.brl
 refine c7 (I:=λ j r=>r=Dt (B0 b p.Ah) (b.Ad.zipIdx.take j) s) (by simp [Dt]) (λ j x r hx hr=>?_) λ r hr=>?_
 ·have hj:=(aa.1 hx).1
  have hcnt:cnt 0 j=(j:Int):=Cw (by omega)
  have hrl:r.length=b.Am.toNat:=by rw [hr,L4,hs]
  have hz:b.Ad.zipIdx[j]? = some (x,j):=by rw [List.getElem?_zipIdx,hx];simp
  have hnext:Dt (B0 b p.Ah) (b.Ad.zipIdx.take (j+1)) s=E6 (B0 b p.Ah) r (x,j):=by
   rw [Bg hz]
   unfold Dt at hr ⊢
   rw [aM,←hr];rfl
  rw [hnext]
  obtain⟨⟨a0,a1⟩,hk⟩:=h.br x (ae hx)
  unfold uU
  rw [hcnt]
  by_cases k1:x.Kind=1
  ·rw [dy.2 k1]
   have hB:x.A<x.B/\x.B<b.Am:=by omega
   refine Ok.bind (P:=λ y=>y=B0 b p.Ah (j:Int)) (cT (λ _=>by rw [Qn h hl (by omega) (by omega)];exact c5 rfl) λ hn=>(hn ⟨rfl,trivial⟩).elim) λ y hy=>?_
   refine c4 (λ hq=>?_) (λ hq=>?_)
   ·simp only [aO] at hq
    rw [hq] at hy
    obtain⟨u,hu⟩:∃ u,r[x.A.toNat]? = some u:=⟨_,af (by omega)⟩
    obtain⟨v,hv⟩:∃ v,r[x.B.toNat]? = some v:=⟨_,af (by omega)⟩
    have hgu:getI r x.A=some u:=by have:=A8 hu;rwa [aK a0] at this
    have hgv:getI r x.B=some v:=by have:=A8 hv;rwa [aK (by omega)] at this
    have hdu:r.getD x.A.toNat false=u:=by simp [List.getD,hu]
    have hdv:r.getD x.B.toNat false=v:=by simp [List.getD,hv]
    rw [hgu,hgv]
    simp only [ab]
    refine Ok.bind (P:=λ w=>(u || w)=(u || v)) (cT (λ _=>c5 rfl) λ hn=>?_) λ w hw=>?_
    ·cases u with
     | true=>rfl
     | false=>exact (hn ⟨rfl,trivial⟩).elim
    rw [hw]
    refine (cU a0 (by omega)).bind λ t ht=>?_
    subst ht
    refine (cS (by omega) (by simp;omega)).bind λ _ _=>(cU (by omega) (by simp;omega)).bind λ t ht=>c6 ?_
    rw [ht]
    unfold E6
    rw [if_pos ⟨k1,hy.symm⟩]
    simp only [hdu,hdv]
   ·simp only [aO] at hq
    refine c6 ?_
    unfold E6
    rw [if_neg (by rw [←hy,hq];simp)]
  ·rw [dz.2 k1]
   refine Ok.bind (P:=λ _=>True) (cT (λ hg=>absurd hg.1 (by simp)) λ _=>trivial) λ y _=>?_
   refine c4 (λ hq=>by simp at hq) (λ _=>c6 ?_)
   unfold E6
   rw [if_neg (λ hh=>k1 hh.1)]
 ·rw [hr,show b.Ad.length=b.Ad.zipIdx.length from by simp,ay]
theorem Ama {b:Aa} (h:Ar b) {p:Ab} (hp:Aq b p):F23 b p=some (F5 b (Bi b p) (B0 b p.Ah)):=by
 have hbu:=h.buses
 have hso:=h.sol
 have hns:=hp.nso
 have hbl:p.Ah.length<=1000:=by have:=hp.brk.len;omega
 refine cZ ?_
 unfold F23
 rw [Cm h hp]
 simp only [ab]
 refine c4 (λ hc=>by simp at hc) (λ _=>?_)
 refine (Ok.mkI (by omega) (by omega)).bind λ y hy=>?_
 refine Ok.andThen (A:=λ s=>s.2=Q9 b (Bi b p)) (B:=λ (_:Unit)=>False) ?_ ?_ (λ _ h=>h.elim)
 ·refine c9 (λ s=>(0<=s.1/\s.1<=(b.Ac.length:Int))/\s.2=(List.range s.1.toNat).foldl (lit b (Bi b p)) (List.replicate b.Am.toNat false)) (λ s=>((b.Ac.length:Int)-s.1).toNat) _ _ ?_ ?_ ?_
  ·exact⟨by dsimp only;omega,by rw [hy];rfl⟩
  ·dsimp only;omega
  ·rintro⟨i,s⟩ ⟨⟨h1,h2⟩,h3⟩
   dsimp only at h1 h2 h3
   have hsl:s.length=b.Am.toNat:=by
    rw [h3]
    have:∀ (xs:List Nat) (s:List Bool),(xs.foldl (lit b (Bi b p)) s).length=s.length:=by
     intro xs
     induction xs with
     | nil=>intro s;rfl
     | cons x xs ih=>intro s;rw [aY,ih,Q_]
    rw [this];simp
   unfold Akc Az8
   dsimp only
   refine c4 (λ hq=>?_) (λ hq=>?_)
   ·simp only [dw] at hq
    have e1:w64 (i+1)=i+1:=A6 (by omega)
    have e2:(i+1).toNat=i.toNat+1:=by omega
    have e3:((i.toNat:Nat):Int)=i:=by omega
    have hnext:(List.range (i+1).toNat).foldl (lit b (Bi b p)) (List.replicate b.Am.toNat false)=lit b (Bi b p) s i.toNat:=by
     rw [e2,bp,aM,←h3];rfl
    rw [Sz h hns hbl h1 hq]
    simp only [ab,e1]
    refine c4 (λ hu=>?_) (λ hu=>?_)
    ·obtain⟨j,x,e,hx,_,_,hj⟩:=J9 h h1 hq
     have hjl:=(aa.1 hx).1
     obtain⟨⟨a0,a1⟩,_⟩:=h.br x (ae hx)
     rw [Io h,e]
     simp only [ab]
     rw [A8 hx]
     simp only [ab]
     refine (cS a0 (by omega)).bind λ _ _=>(cU a0 (by omega)).bind λ t ht=>c6 ⟨⟨by dsimp only;omega,?_⟩,by dsimp only;omega⟩
     dsimp only
     rw [hnext,ht]
     unfold lit
     have hd:b.Ad.getD j default=x:=by simp [List.getD,hx]
     rw [e3,if_pos hu,e,ai,hd]
    ·refine c6 ⟨⟨by dsimp only;omega,?_⟩,by dsimp only;omega⟩
     dsimp only
     rw [hnext]
     unfold lit
     rw [e3,if_neg (by rw [hu];simp)]
   ·simp only [dx] at hq
    refine cW ?_
    dsimp only
    rw [h3]
    have:i.toNat=b.Ac.length:=by omega
    rw [this];rfl
 ·rintro⟨i0,s⟩ hs
  dsimp only at hs
  subst hs
  dsimp only
  refine Ok.andThen (A:=λ s=>s.2=F5 b (Bi b p) (B0 b p.Ah)) (B:=λ (_:Unit)=>False) ?_ (λ s hs=>c5 hs) (λ _ h=>h.elim)
  refine c9 (λ s=>(0<=s.1/\s.1<=b.Am)/\s.2=(List.range s.1.toNat).foldl (λ s _=>Dt (B0 b p.Ah) b.Ad.zipIdx s) (Q9 b (Bi b p))) (λ s=>(b.Am-s.1).toNat) _ _ ?_ ?_ ?_
  ·exact⟨by dsimp only;omega,rfl⟩
  ·dsimp only;omega
  ·rintro⟨i,s⟩ ⟨⟨h1,h2⟩,h3⟩
   dsimp only at h1 h2 h3
   unfold Akb
   dsimp only
   refine c4 (λ hq=>?_) (λ hq=>?_)
   ·simp only [dw] at hq
    have e1:w64 (i+1)=i+1:=A6 (by omega)
    have e2:(i+1).toNat=i.toNat+1:=by omega
    have hsl:s.length=b.Am.toNat:=by rw [h3,I3,I0]
    refine (Aoc h hbl hsl).inner (λ r hr=>?_) (λ _ h=>h.elim)
    rw [e1]
    refine c6 ⟨⟨by dsimp only;omega,?_⟩,by dsimp only;omega⟩
    dsimp only
    rw [hr,e2,bp,aM,←h3];rfl
   ·simp only [dx] at hq
    refine cW ?_
    dsimp only
    rw [h3]
    have:i.toNat=b.Am.toNat:=by omega
    rw [this];rfl
def ks (x:As):Int:=x.Kind*1000+x.Number
def Ck (x:As):Prop:=(1<=x.Kind/\x.Kind<=4)/\0<=x.Number/\x.Number<=100
theorem Cb.small {b:Aa} (h:Ar b) {x:As} (hx:Cb b x):Ck x:=by
 have h1:=h.buses
 have h2:=h.brl
 have h3:=h.sol
 have h4:=h.col
 unfold Cb at hx
 unfold Ck
 omega
theorem Adg {x y:As} (hx:Ck x) (hy:Ck y):P9 x y↔ks x<ks y:=by
 unfold P9 ks
 unfold Ck at hx hy
 omega
theorem Azo {x y:As} (hx:Ck x) (hy:Ck y) (h:ks x=ks y):x=y:=by
 unfold ks at h
 unfold Ck at hx hy
 cases x;cases y
 simp only [As.mk.injEq]
 dsimp only at *
 omega
theorem Ab3 {x y:As} (hx:Ck x) (hy:Ck y):(decide (Sn x y<0)=decide (ks x<ks y))/\((Sn x y==0)=(ks x==ks y)):=by
 unfold Ck at hx hy
 unfold Sn ks
 by_cases hk:x.Kind=y.Kind
 ·have:(x.Kind != y.Kind)=false:=by simp [hk]
  rw [this,cond_false,A6 (by omega)]
  constructor
  ·exact decide_eq_decide.2 (by omega)
  ·rw [bf,dy,dy];omega
 ·have:(x.Kind != y.Kind)=true:=by simp [hk]
  rw [this,cond_true,A6 (by omega)]
  constructor
  ·exact decide_eq_decide.2 (by omega)
  ·rw [bf,dy,dy];omega
def Hc (l:List As):Prop:=∀ (j k:Nat) x y,j<k->l[j]? = some x->l[k]? = some y->ks x<ks y
theorem Hx {b:Aa} (h:Ar b) {l:List As} (hl:Eh b l):Hc l:=by
 have hs:∀ x,x∈l->Ck x:=λ x hx=>(hl.mem x hx).small h
 intro j k
 induction k with
 | zero=>intro x y hj;omega
 | succ k ih=>
  intro x y hj hx hy
  have hk:=(aa.1 hy).1
  obtain⟨z,hz⟩:∃ z,l[k]? = some z:=⟨_,af (by omega)⟩
  have h1:=(Adg (hs z (ae hz)) (hs y (ae hy))).1 (hl.asc k z y hz hy)
  by_cases e:j=k
  ·subst e
   rw [hx] at hz;cases hz;exact h1
  ·have:=ih x z (by omega) hx hz
   omega
theorem A1k {n:Int} (h0:0<=n) (h1:n<=1000000):w64 (Hy .u64 (IntKind.wrap .u64 (w64 n)) 1)=n / 2:=by
 have e1:w64 n=n:=A6 (by omega)
 have e2:IntKind.wrap .u64 n=n:=by
  simp [IntKind.wrap,IntKind.signed,IntKind.bits]
  omega
 have e3:Hy .u64 n 1=n / 2:=by
  unfold Hy
  have:(2:Int) ^ min 1 (IntKind.u64).bits=2:=by decide
  rw [this]
  exact Int.fdiv_eq_ediv_of_nonneg _ (by omega)
 rw [e1,e2,e3,A6 (by omega)]
structure At (l:List As) (x:As) (n:Nat):Prop where
 le:n<=l.length
 lo:∀ (j:Nat) y,j<n->l[j]? = some y->ks y<ks x
 hi:∀ (j:Nat) y,n<=j->l[j]? = some y->ks x<=ks y
theorem N8 {l:List As} (hs:Hc l) (hsm:∀ x,x∈l->Ck x) {x:As} (hx:Ck x) (hl:l.length<=1000) :
  Ok (U9 l x) λ y=>∃ n:Nat,y.1=(n:Int)/\At l x n/\(y.2=true↔l[n]? = some x):=by
 unfold U9
 refine Ok.andThen (A:=λ s=>∃ n:Nat,s.1=(n:Int)/\At l x n) (B:=λ (_:Unit)=>False) ?_ ?_ (λ _ h=>h.elim)
 ·refine c9 (λ s=>(0<=s.1/\s.1<=s.2/\s.2<=(l.length:Int))/\(∀ (j:Nat) y,(j:Int)<s.1->l[j]? = some y->ks y<ks x)/\∀ (j:Nat) y,s.2<=(j:Int)->l[j]? = some y->ks x<=ks y) (λ s=>(s.2-s.1).toNat) _ _ ?_ ?_ ?_
  ·refine⟨by dsimp only;omega,λ j y hj=>by dsimp only at hj;omega,λ j y hj hy=>?_⟩
   have:=(aa.1 hy).1
   dsimp only at hj;omega
  ·dsimp only;omega
  ·rintro⟨i,j⟩ ⟨⟨h1,h2,h3⟩,h4,h5⟩
   dsimp only at h1 h2 h3 h4 h5
   unfold U8
   dsimp only
   refine c4 (λ hq=>?_) (λ hq=>?_)
   ·simp only [dw] at hq
    rw [A1k (by omega) (by omega)]
    refine (cS (by omega) (by omega)).bind λ y hy=>?_
    have hym:=hsm y (ae hy)
    rw [(Ab3 hym hx).1]
    refine c4 (λ hc=>?_) (λ hc=>?_)
    ·simp only [dw] at hc
     rw [A6 (by omega)]
     refine c6 ⟨⟨by dsimp only;omega,λ k z hk hz=>?_,h5⟩,by dsimp only;omega⟩
     dsimp only at hk
     by_cases e:k=((i+j) / 2).toNat
     ·subst e;rw [hy] at hz;cases hz;exact hc
     ·have:=hs k _ z y (by omega) hz hy
      omega
    ·simp only [dx] at hc
     refine c6 ⟨⟨by dsimp only;omega,h4,λ k z hk hz=>?_⟩,by dsimp only;omega⟩
     dsimp only at hk
     by_cases e:k=((i+j) / 2).toNat
     ·subst e;rw [hy] at hz;cases hz;omega
     ·have:=hs _ k y z (by omega) hy hz
      omega
   ·simp only [dx] at hq
    refine cW ⟨i.toNat,by dsimp only;omega,by omega,λ k y hk hy=>h4 k y (by omega) hy,λ k y hk hy=>h5 k y (by omega) hy⟩
 ·rintro⟨i,j⟩ ⟨n,hn,hat⟩
  dsimp only at hn
  subst hn
  dsimp only
  by_cases hlt:n<l.length
  ·obtain⟨y,hy⟩:∃ y,l[n]? = some y:=⟨_,af hlt⟩
   have hd:decide ((n:Int)<(l.length:Int))=true:=by simp;omega
   rw [hd,A8 hy]
   refine Ok.bind (P:=λ z=>z=y) (cT (λ _=>c5 rfl) λ hn=>(hn ⟨rfl,trivial⟩).elim) λ z hz=>c5 ⟨n,rfl,hat,?_⟩
   subst hz
   have hym:=hsm z (ae hy)
   show (true&&(Sn z x==0))=true↔_
   rw [aO,(Ab3 hym hx).2,dy,hy]
   constructor
   ·intro e;rw [Azo hym hx e]
   ·intro e;cases e;rfl
  ·have hd:decide ((n:Int)<(l.length:Int))=false:=by simp;omega
   rw [hd]
   refine Ok.bind (P:=λ _=>True) (cT (λ hg=>absurd hg.1 (by simp)) λ _=>trivial) λ z _=>c5 ⟨n,rfl,hat,?_⟩
   rw [bR (by omega)]
   simp
theorem At.uniq {l:List As} {x:As} {n m:Nat} (h:At l x n) (k:At l x m):n=m:=by
 rcases bn n m with e | e | e
 ·obtain⟨y,hy⟩:∃ y,l[n]? = some y:=⟨_,af (by have:=k.le;omega)⟩
  have:=h.hi n y (au _) hy
  have:=k.lo n y e hy
  omega
 ·exact e
 ·obtain⟨y,hy⟩:∃ y,l[m]? = some y:=⟨_,af (by have:=h.le;omega)⟩
  have:=k.hi m y (au _) hy
  have:=h.lo m y e hy
  omega
def Eg (l:List As) (n:Nat) (x:As):List As:=l.take n++(x::l.drop n)
theorem Ati {l:List As} {n:Nat} (hn:n<=l.length) (hl:l.length<=1000) (x:As):Qc l (n:Int) [x]=some (Eg l n x):=by
 refine cZ ?_
 unfold Qc
 refine (Ok.bndI (by omega) (by omega) (by omega)).bind λ _ _=>?_
 refine c4 (λ hc=>by simp at hc) (λ _=>c4 (λ hc=>?_) (λ _=>?_))
 ·simp only [dy] at hc
  have e:n=l.length:=by omega
  refine (cV (by simp;omega)).bind λ y hy=>c5 ?_
  rw [hy,Eg,e];simp
 ·refine (Ok.insI (by simp;omega)).mono λ y hy=>?_
  rw [hy,ai];rfl
theorem Aub {l:List As} {n:Nat} (hn:n<=l.length) (x:As):U7 (Eg l n x) (n:Int) ((n:Int)+1)=some l:=by
 have hlen:(Eg l n x).length=l.length+1:=by simp [Eg];omega
 refine cZ ?_
 unfold U7
 have e1:((n:Int)+1).toNat=n+1:=by omega
 have hdrop:(Eg l n x).drop (n+1)=l.drop n:=by
  unfold Eg
  rw [List.drop_append,List.drop_of_length_le (by simp;omega)]
  have:n+1-(l.take n).length=1:=by simp;omega
  rw [this];simp
 have htake:(Eg l n x).take n=l.take n:=by
  unfold Eg
  rw [bZ (by simp;omega),cm,Nat.min_self]
 refine (Ok.bnd3I (by omega) (by omega) (by omega) (by omega)).bind λ _ _=>c4 (λ hc=>?_) (λ _=>?_)
 ·simp only [dy] at hc;omega
 refine (Ok.bndI (by omega) (by omega) (by omega)).bind λ _ _=>(Ok.bndI (by omega) (by omega) (by omega)).bind λ _ _=>?_
 simp only [ai,e1,hdrop,Nat.sub_zero]
 have hpl:((l.drop n).take ((Eg l n x).length-(n+1))).length=l.length-n:=by simp [hlen]
 have hpe:(l.drop n).take ((Eg l n x).length-(n+1))=l.drop n:=bN (by simp [hlen])
 rw [hpe]
 have hdl:(l.drop n).length=l.length-n:=by simp
 refine (Ok.appPI (by rw [hlen,hdl];omega)).bind λ y hy=>?_
 have hyl:y.length=l.length+1:=by rw [hy];simp [hlen];omega
 refine (Ok.bndI (by omega) (by rw [hlen,hdl];omega) (by rw [hlen,hyl];omega)).bind λ _ _=>c5 ?_
 have e2:n+(l.drop n).length=l.length:=by rw [hdl];omega
 rw [e2]
 unfold G5
 simp only [aL]
 rw [bZ (by simp;omega),cm,Nat.min_self,hy,htake,←aX,bZ (by simp),ci,ay]
theorem Re {l:List As} {n:Nat} (hn:n<=l.length) {x:As} {j:Nat} {y:As} (h:(Eg l n x)[j]? = some y):(j<n/\l[j]? = some y)\/(j=n/\y=x)\/(n<j/\l[j-1]? = some y):=by
 unfold Eg at h
 have ht:(l.take n).length=n:=by simp;omega
 rw [bX] at h
 split at h
 ·rename_i h1
  rw [ht] at h1
  rw [ap,if_pos h1] at h
  exact .inl ⟨h1,h⟩
 ·rename_i h1
  rw [ht] at h1 h
  by_cases e:j=n
  ·subst e
   simp at h
   exact .inr (.inl ⟨rfl,h.symm⟩)
  ·obtain⟨k,hk⟩:∃ k,j-n=k+1:=⟨j-n-1,by omega⟩
   rw [hk,cE,ar] at h
   refine .inr (.inr ⟨by omega,?_⟩)
   rw [←h];congr 1;omega
theorem Ax2 {l:List As} {n:Nat} {x y:As} (h:y∈Eg l n x):y=x\/y∈l:=by
 unfold Eg at h
 rcases aq.1 h with h | h
 ·exact .inr (aT h)
 ·rcases ag.1 h with h | h
  ·exact .inl h
  ·exact .inr (cq h)
theorem Al8 {b:Aa} (h:Ar b) {l:List As} (hl:Eh b l) {x:As} (hx:Cb b x) {n:Nat} (hat:At l x n) (hnot:l[n]? ≠ some x) (hlen:l.length<32):Eh b (Eg l n x):=by
 have hs:=Hx h hl
 have hsm:∀ y,y∈l->Ck y:=λ y hy=>(hl.mem y hy).small h
 have hxs:=hx.small h
 refine⟨by simp [Eg];omega,λ y hy=>?_,λ j y z hy hz=>?_⟩
 ·rcases Ax2 hy with rfl | hy
  ·exact hx
  ·exact hl.mem y hy
 ·rcases Re hat.le hy with⟨a1,a2⟩ | ⟨a1,a2⟩ | ⟨a1,a2⟩ <;> rcases Re hat.le hz with⟨b1,b2⟩ | ⟨b1,b2⟩ | ⟨b1,b2⟩
  ·exact hl.asc j y z a2 b2
  ·subst b2
   exact (Adg (hsm y (ae a2)) hxs).2 (hat.lo j y a1 a2)
  ·omega
  ·omega
  ·omega
  ·subst a2
   have e:j+1-1=n:=by omega
   rw [e] at b2
   have hzm:=hsm z (ae b2)
   refine (Adg hxs hzm).2 ?_
   have h1:=hat.hi n z (au _) b2
   rcases Int.lt_or_eq_of_le h1 with h1 | h1
   ·exact h1
   ·exact absurd (by rw [b2,Azo hxs hzm h1]) hnot
  ·omega
  ·omega
  ·have e:j+1-1=j-1+1:=by omega
   rw [e] at b2
   exact hl.asc (j-1) y z a2 b2
theorem At.ins {l:List As} {x:As} {n:Nat} (hat:At l x n):At (Eg l n x) x n:=by
 refine⟨by have:=hat.le;simp [Eg];omega,λ j y hj hy=>?_,λ j y hj hy=>?_⟩
 ·rcases Re hat.le hy with⟨_,a2⟩ | ⟨a1,_⟩ | ⟨a1,_⟩
  ·exact hat.lo j y hj a2
  ·omega
  ·omega
 ·rcases Re hat.le hy with⟨a1,_⟩ | ⟨_,a2⟩ | ⟨a1,a2⟩
  ·omega
  ·subst a2;exact bu _
  ·exact hat.hi (j-1) y (by omega) a2
theorem A1i {l:List As} {n:Nat} (hn:n<=l.length) (x:As):(Eg l n x)[n]? = some x:=by
 unfold Eg
 rw [aB (by simp;omega)]
 have:n-(l.take n).length=0:=by simp;omega
 rw [this];rfl
def Lb (ss:List Ai) (x:As) (st:Int):List Ai:=if x.Kind=1 then ss.set x.Number.toNat ⟨st,(ss.getD x.Number.toNat default).Since,(ss.getD x.Number.toNat default).Au,(ss.getD x.Number.toNat default).Phase⟩ else ss
theorem Uj (ss:List Ai) (x:As) (st:Int):(Lb ss x st).length=ss.length:=by unfold Lb;split <;> simp
theorem Ahf {ss:List Ai} (h:∀ x,x∈ss->C9 x) {x:As} (hx:x.Kind=1->0<=x.Number/\x.Number<ss.length) {st:Int} (hst:0<=st/\st<=3):∀ y,y∈Lb ss x st->C9 y:=by
 unfold Lb
 split
 ·rename_i hk
  have hn:=hx hk
  obtain⟨u,hu⟩:∃ u,ss[x.Number.toNat]? = some u:=⟨_,af (by omega)⟩
  have hd:ss.getD x.Number.toNat default=u:=by simp [List.getD,hu]
  intro y hy
  rcases cr hy with hy | hy
  ·exact h y hy
  ·subst hy
   rw [hd]
   have:=h u (ae hu)
   exact⟨hst,this.2⟩
 ·exact h
theorem A1o {b:Aa} (h:Ar b) {p:Ab} (hp:Aq b p) {x:As} (hx:Cb b x) (t:Int) {n:Nat} (hat:At p.Ah x n) (hnot:p.Ah[n]? ≠ some x) (hlen:p.Ah.length<32) :
  H9 ⟨b,p,t⟩ x true=some (0,⟨b,⟨p.Ae,Lb p.Ac x 3,p.Al,Eg p.Ah n x⟩,t⟩):=by
 have hs:=Hx h hp.brk
 have hsm:∀ y,y∈p.Ah->Ck y:=λ y hy=>(hp.brk.mem y hy).small h
 refine cZ ?_
 unfold H9
 refine (N8 hs hsm (hx.small h) (by omega)).bind λ y hy=>?_
 obtain⟨m,e1,hat2,hf⟩:=hy
 have e2:=hat.uniq hat2
 subst e2
 have hf2:y.2=false:=by
  cases hb:y.2 with
  | false=>rfl
  | true=>exact absurd (hf.1 hb) hnot
 refine c4 (λ hc=>by rw [hf2] at hc;simp at hc) (λ _=>c4 (λ hc=>?_) (λ _=>?_))
 ·simp [Rv] at hc;omega
 refine Ok.andThen (A:=λ z=>z=Eg p.Ah n x) (B:=λ (_:Unit)=>False) ?_ ?_ (λ _ h=>h.elim)
 ·unfold Ox
  rw [e1,Ati hat.le (by omega)]
  exact d8 rfl
 ·rintro z rfl
  unfold Lb
  refine c4 (λ hk=>?_) (λ hk=>?_)
  ·simp only [dy] at hk
   have hn:0<=x.Number/\x.Number<p.Ac.length:=by
    have:=hp.nso
    unfold Cb at hx
    omega
   rw [if_pos hk]
   refine (cS hn.1 hn.2).bind λ u hu=>(cU hn.1 hn.2).bind λ v hv=>?_
   have hd:p.Ac.getD x.Number.toNat default=u:=by simp [List.getD,hu]
   have hvg:v[x.Number.toNat]? = some (⟨0,u.Since,u.Au,u.Phase⟩:Ai):=by rw [hv,bE (by omega)]
   simp only [cond_true]
   refine Ok.bind (P:=λ w=>w=(⟨0,u.Since,u.Au,u.Phase⟩:Ai)) ((cS hn.1 (by rw [hv];simpa using hn.2)).mono λ w hw=>by rw [hvg] at hw;cases hw;rfl) λ w hw=>?_
   subst hw
   refine (cU hn.1 (by rw [hv];simpa using hn.2)).bind λ z hz=>c5 ?_
   rw [hz,hv,List.set_set,hd]
  ·simp only [dz,ne_eq] at hk
   rw [if_neg hk]
   exact c5 rfl
theorem A1b {b:Aa} (h:Ar b) {p:Ab} (hbl:Eh b p.Ah) {q:Ab} {x:As} (hx:Cb b x) (t:Int) {n:Nat} (hat:At p.Ah x n) (hnot:p.Ah[n]? ≠ some x) (hlen:p.Ah.length<32)
  (hq:q.Ah=Eg p.Ah n x) (hqs:q.Ac.length=b.Ac.length):H9 ⟨b,q,t⟩ x false=some (0,⟨b,⟨q.Ae,Lb q.Ac x 0,q.Al,p.Ah⟩,t⟩):=by
 have hbl2:Eh b q.Ah:=by rw [hq];exact Al8 h hbl hx hat hnot hlen
 have hs:=Hx h hbl2
 have hsm:∀ y,y∈q.Ah->Ck y:=λ y hy=>(hbl2.mem y hy).small h
 refine cZ ?_
 unfold H9
 refine (N8 hs hsm (hx.small h) (by have:=hbl2.len;omega)).bind λ y hy=>?_
 obtain⟨m,e1,hat2,hf⟩:=hy
 rw [hq] at hat2 hf
 have e2:=hat.ins.uniq hat2
 subst e2
 have hf2:y.2=true:=hf.2 (A1i hat.le x)
 refine c4 (λ hc=>by rw [hf2] at hc;simp at hc) (λ _=>c4 (λ hc=>?_) (λ _=>?_))
 ·simp [Rv] at hc
 refine Ok.andThen (A:=λ z=>z=p.Ah) (B:=λ (_:Unit)=>False) ?_ ?_ (λ _ h=>h.elim)
 ·unfold Ox
  have hle:=hat.le
  rw [e1,A6 (by omega)]
  simp only [cond_false,hq]
  rw [Aub hat.le]
  exact d8 rfl
 ·rintro z rfl
  unfold Lb
  refine c4 (λ hk=>?_) (λ hk=>?_)
  ·simp only [dy] at hk
   have hn:0<=x.Number/\x.Number<q.Ac.length:=by
    unfold Cb at hx
    omega
   rw [if_pos hk]
   refine (cS hn.1 hn.2).bind λ u hu=>(cU hn.1 hn.2).bind λ v hv=>?_
   have hd:q.Ac.getD x.Number.toNat default=u:=by simp [List.getD,hu]
   simp only [cond_false]
   exact c5 (by rw [hv,hd])
  ·simp only [dz,ne_eq] at hk
   rw [if_neg hk]
   exact c5 rfl
def A1m (p:Ab) (x:As) (n:Nat):Ab:=⟨p.Ae,Lb p.Ac x 3,p.Al,Eg p.Ah n x⟩
theorem Aog {b:Aa} (h:Ar b) {p:Ab} (hp:Aq b p) {x:As} (hx:Cb b x) {n:Nat} (hat:At p.Ah x n) (hnot:p.Ah[n]? ≠ some x) (hlen:p.Ah.length<32):Aq b (A1m p x n) where
 ncl:=hp.ncl
 nso:=by show (Lb p.Ac x 3).length=_;rw [Uj];exact hp.nso
 nli:=hp.nli
 run:=Ahf hp.run (λ hk=>by have:=hp.nso;unfold Cb at hx;omega) (by omega)
 lim:=hp.lim
 one:=hp.one
 brk:=Al8 h hp.brk hx hat hnot hlen
theorem H2 (b:Aa) (k n:Int):G8 b k n=true↔Cb b ⟨k,n⟩:=by
 unfold G8 Cb
 dsimp only
 by_cases h1:k=1
 ·subst h1;simp
 rw [dz.2 h1,cond_false]
 by_cases h2:k=2
 ·subst h2;simp
 rw [dz.2 h2,cond_false]
 by_cases h3:k=3
 ·subst h3;simp
 rw [dz.2 h3,cond_false]
 by_cases h4:k=4
 ·subst h4;simp
 rw [dz.2 h4,cond_false]
 simp only [ac,dw]
 omega
theorem A6k {b:Aa} (h:Ar b) {l:List As} (hl:Eh b l) {x:As} (hx:Cb b x):∃ n,At l x n:=by
 have hs:=Hx h hl
 obtain⟨y,_,n,_,hat,_⟩:=N8 hs (λ y hy=>(hl.mem y hy).small h) (hx.small h) (by have:=hl.len;omega)
 exact⟨n,hat⟩
theorem zA {b:Aa} (h:Ar b) {p:Ab} (hp:Aq b p):Ze p=some p:=by
 have hl:=hp.lens h
 have h1:=hl.c
 have h2:=hl.s
 have h3:=hl.l
 have h4:=hl.k
 unfold Ze
 rw [Rx (by omega),Rx (by omega),Rx (by omega),Rx (by omega)]
 rfl
theorem Ara:F9=some true:=by kernel_rfl
theorem d5 {α:Type} {l:List (Bool×Bool)} {x:Option α} {d:α} {P:α->Prop} (hx:D4 l->Ok x λ _=>True) (hr:∀ y,P y):Ok (Az l x d) P:=
 cT (λ h=>(hx h).mono λ y _=>hr y) λ _=>hr d
theorem dg {α:Type} {x:Option α} {v:α} (h:x=some v):Ok x λ _=>True:=⟨v,h,trivial⟩
theorem A0o {x B3:Ai} (hx:C9 x) (hl:C9 B3):C9 (Am9 B3 x):=⟨hx.1,hx.2.1,hl.2.2.1,hl.2.2.2⟩
theorem Je {ss:List Ai} (h:∀ x,x∈ss->C9 x) {n:Nat} {y:Ai} (hy:C9 y):∀ x,x∈ss.set n y->C9 x:=λ x hx=>by
 rcases cr hx with hx | hx
 ·exact h x hx
 ·exact hx ▸ hy
theorem X7 {ss:List Ai} (h:∀ x,x∈ss->C9 x) {n:Nat} (hn:n<ss.length):C9 (ss.getD n default):=by
 have:ss.getD n default=ss[n]:=by simp [List.getD,List.getElem?_eq_getElem hn]
 rw [this];exact h _ (cF hn)
theorem Qq {B3:Ai} (hl:C9 B3):∀ (idx:List Int) (ss:List Ai),(∀ i,i∈idx->0<=i/\i<ss.length)->(∀ x,x∈ss->C9 x)->∀ x,x∈Ew B3 idx ss->C9 x
 | [],_,_,h=>h
 | i::idx,ss,hi,h=>by
  have h0:=hi i ah
  refine Qq hl idx _ (λ j hj=>?_) (Je h (A0o (X7 h (by omega)) hl))
  have:=hi j (aj _ hj)
  simpa using this
theorem Ag9 {b:Aa} {p:Ab} (hp:Aq b p):∀ (l:List Aj) (s:List Ai),(∀ x,x∈l->∀ i,i∈x.Ac->0<=i/\i<b.Ac.length)->s.length=p.Ac.length->(∀ x,x∈s->C9 x)->∀ x,x∈l.foldl (Dc p) s->C9 x
 | [],_,_,_,h=>h
 | y::l,s,hi,hs,h=>by
  refine Ag9 hp l _ (λ x hx=>hi x (aj _ hx)) (by rw [Nk,hs]) ?_
  have h0:=hi y ah
  have hn:=hp.nso
  unfold Dc
  split
  ·exact h
  ·rename_i i r e
   rw [e] at h0
   have h1:=h0 i ah
   rw [e]
   exact Qq (X7 hp.run (by omega)) _ _ (λ j hj=>by have:=h0 j hj;omega) h
theorem Rm {b:Aa} {p:Ab} (hp:Aq b p):∀ x,x∈D_ b p->C9 x:=
 Ag9 hp _ _ (λ _ hx=>Wd hx) rfl hp.run
theorem Ia {b:Aa} {p:Ab} (hp:Aq b p) {ss:List Ai} (hl:ss.length=p.Ac.length) (hr:∀ x,x∈ss->C9 x):Aq b ⟨p.Ae,ss,p.Al,p.Ah⟩ where
 ncl:=hp.ncl
 nso:=hl.trans hp.nso
 nli:=hp.nli
 run:=hr
 lim:=hp.lim
 one:=hp.one
 brk:=hp.brk
theorem jE {b:Aa} {p:Ab} (hp:Aq b p) (j:Nat):Aq b ⟨p.Ae.set j false,p.Ac,p.Al,p.Ah⟩ where
 ncl:=by simpa using hp.ncl
 nso:=hp.nso
 nli:=hp.nli
 run:=hp.run
 lim:=hp.lim
 one i hi:=by
  refine aA (Ahe (by simp) (λ k hk=>?_) i) (hp.one i hi)
  rw [ao] at hk
  split at hk
  ·split at hk <;> cases hk
  ·exact hk
 brk:=hp.brk
theorem Atq {l:List Ag}:∀ {c:List Bool} {j:Nat} {x:Ag},l[j]? = some x->∀ i:Nat,(B_ l (c.set j true) i).length<=(B_ l c i).length+(if x.Kind=3/\x.B=(i:Int) then 1 else 0):=by
 induction l with
 | nil=>intro c j x h;simp at h
 | cons y l ih=>
  intro c j x h i
  cases c with
  | nil=>simp [B_]
  | cons v c=>
   cases j with
   | zero=>
    simp only [List.getElem?_cons_zero,al] at h
    subst h
    simp only [List.set_cons_zero,B_,bD,bl]
    by_cases hk:y.Kind=3/\y.B=(i:Int)
    ·rw [if_pos hk]
     simp only [hk.1,hk.2,beq_self_eq_true,aO,bt,if_true]
     split <;> simp
    ·rw [if_neg hk]
     have:(y.Kind==3&&y.B==(i:Int))=false:=by
      rw [cG];intro e
      simp only [ac,dy] at e
      exact hk e
     simp [this]
   | succ j=>
    simp only [cE] at h
    have:=ih (c:=c) h i
    simp only [List.set_cons_succ,B_,bD,bl] at this ⊢
    split <;> simp at this ⊢ <;> omega
theorem Atr {b:Aa} {p:Ab} {i:Nat} (h:By b p 3 (i:Int)=none):B_ b.Ad p.Ae i=[]:=by
 unfold By at h
 rw [Option.map_eq_none_iff,List.find?_eq_none] at h
 unfold B_
 rw [List.filter_eq_nil_iff]
 exact h
theorem qK {b:Aa} {p:Ab} (hp:Aq b p) {j:Nat} {x:Ag} (hx:b.Ad[j]? = some x) (hf:x.Kind=3->By b p 3 x.B=none):Aq b ⟨p.Ae.set j true,p.Ac,p.Al,p.Ah⟩ where
 ncl:=by simpa using hp.ncl
 nso:=hp.nso
 nli:=hp.nli
 run:=hp.run
 lim:=hp.lim
 one i hi:=by
  have h1:=Atq (c:=p.Ae) hx i
  have h2:=hp.one i hi
  dsimp only
  split at h1
  ·rename_i hk
   have h3:=hf hk.1
   rw [hk.2] at h3
   rw [Atr h3] at h1
   simpa using h1
  ·omega
 brk:=hp.brk
theorem A08 {b:Aa} (h:Ar b) {p:Ab} (hp:Aq b p) (i:Int):Ok (Vq b p i) λ y=>y.2≠0\/Aq b y.1:=by
 have hbl:p.Ah.length<=1000:=by have:=hp.brk.len;omega
 have hn:=hp.ncl
 unfold Vq
 rw [Cm h hp,D8 h hp]
 simp only [ab]
 refine c4 (λ hc=>by simp at hc) (λ _=>c4 (λ _=>c5 (.inl (by simp))) (λ hr=>?_))
 simp only [Ah6,bv,dx] at hr
 refine (cS (by omega) (by omega)).bind λ v _=>Ok.bind (P:=λ _=>True) (d5 (λ _=>dg (C3 hbl _ _)) λ _=>trivial) λ _ _=>?_
 refine c4 (λ _=>c5 (.inl (by simp))) (λ _=>?_)
 exact (cS (by omega) (by omega)).bind λ _ _=>(cU (by omega) (by omega)).bind λ z hz=>c5 (.inr (by rw [hz];exact jE hp _))
theorem Azj {b:Aa} (h:Ar b) {p:Ab} (hp:Aq b p) (n:Int):Ok (H_ b p n) λ y=>∀ i,i∈y.1.Ac->0<=i/\i<p.Ac.length:=by
 have hn:=hp.nso
 unfold H_
 rw [J4 h hp]
 simp only [ab]
 refine Ok.andThen (A:=λ _=>True) (B:=λ y=>∀ i,i∈y.1.Ac->0<=i/\i<p.Ac.length) ?_ (λ _ _=>c5 (λ i hi=>by cases hi)) (λ v hv=>c5 hv)
 refine c7 (I:=λ _ _=>True) trivial (λ j x s hx _=>?_) λ s _=>trivial
 have hmem:=ae hx
 have hbl:x.Am.length<=9223372036854775807:=by
  unfold Bd at hmem
  obtain⟨f,_,rfl⟩:=am.1 (an.1 hmem).1
  have:=De (λ i=>(groups b p).getD i 0==(f:Int)) b.Am.toNat
  have:=h.buses
  simp only [isl,D0]
  omega
 unfold Mx
 rw [Eu _ _ hbl]
 simp only [ab]
 refine c4 (λ _=>Ok.ret λ i hi=>?_) (λ _=>c6 trivial)
 have:=Wd hmem i hi
 omega
theorem A3l {b:Aa} (h:Ar b) {p:Ab} (hp:Aq b p) (n:Int):Ok (H_ b p n) λ y=>y.1.Am.length<=9223372036854775807:=by
 unfold H_
 rw [J4 h hp]
 simp only [ab]
 refine Ok.andThen (A:=λ _=>True) (B:=λ y=>y.1.Am.length<=9223372036854775807) ?_ (λ _ _=>c5 (by simp)) (λ v hv=>c5 hv)
 refine c7 (I:=λ _ _=>True) trivial (λ j x s hx _=>?_) λ s _=>trivial
 have hmem:=ae hx
 have hbl:x.Am.length<=9223372036854775807:=by
  unfold Bd at hmem
  obtain⟨f,_,rfl⟩:=am.1 (an.1 hmem).1
  have:=De (λ i=>(groups b p).getD i 0==(f:Int)) b.Am.toNat
  have:=h.buses
  simp only [isl,D0]
  omega
 unfold Mx
 rw [Eu _ _ hbl]
 simp only [ab]
 exact c4 (λ _=>Ok.ret hbl) (λ _=>c6 trivial)
theorem T6 {b:Aa} (h:Ar b) {p:Ab} (hp:Aq b p) (n:Int):Ok (L9 b p n) λ y=>y.2=true->0<=y.1/\y.1<p.Ac.length:=by
 unfold L9
 refine (Azj h hp n).bind λ y hy=>?_
 refine c4 (λ _=>c5 (λ e=>by cases e)) (λ hc=>?_)
 simp only [dz,ne_eq] at hc
 exact (cS (by omega) (by omega)).bind λ z hz=>c5 λ _=>hy z (ae hz)
theorem d7 {α:Type} {l:List α} {i:Int} (h0:0<=i) (h1:i<l.length):Ok (getI l i) λ _=>True:=(cS h0 h1).mono λ _ _=>trivial
theorem A0s {b:Aa} (h:Ar b) {p:Ab} (hp:Aq b p) {j:Nat} {x:Ag} (hx:b.Ad[j]? = some x):Ok (Y7 b p x) λ _=>True:=by
 have hn:=hp.nso
 have hb:=h.br x (ae hx)
 unfold Jd at hb
 unfold Y7
 refine (T6 h hp _).bind λ y hy=>?_
 refine c4 (λ _=>c5 trivial) (λ h2=>?_)
 simp only [ct] at h2
 have hy:=hy h2
 refine c4 (λ _=>?_) (λ _=>c4 (λ hk=>?_) (λ _=>c5 trivial))
 ·refine (T6 h hp _).bind λ z hz=>?_
  refine Ok.bind (P:=λ _=>True) (d5 (λ _=>d7 hy.1 hy.2) λ _=>trivial) λ _ _=>?_
  refine Ok.bind (P:=λ _=>True) (d5 (λ hg=>?_) λ _=>trivial) λ _ _=>c5 trivial
  have:=hz (by have:=hg.1;simpa using this)
  exact d7 this.1 this.2
 ·simp only [dy] at hk
  exact (d7 hy.1 hy.2).bind λ _ _=>(d7 (by omega) (by omega)).bind λ _ _=>c5 trivial
theorem Abp {o:Option Int}:(Dd o).2=false->o=none:=by
 cases o with
 | none=>intro _;rfl
 | some a=>intro e;cases e
theorem Awz {b:Aa} (h:Ar b) {p:Ab} (hp:Aq b p) {j:Int} (h0:0<=j) (h1:j<b.Ad.length):Ok (Y8 b p j) λ y=>y=true->∀ x,b.Ad[j.toNat]? = some x->x.Kind=3->By b p 3 x.B=none:=by
 have hbl:p.Ah.length<=1000:=by have:=hp.brk.len;omega
 have hn:=hp.nso
 have hc:=hp.ncl
 unfold Y8
 refine (cS h0 h1).bind λ x hx=>(d7 h0 (by omega)).bind λ _ _=>?_
 have hb:=h.br x (ae hx)
 unfold Jd at hb
 refine Ok.bind (P:=λ _=>True) (d5 (λ _=>dg (C3 hbl _ _)) λ _=>trivial) λ _ _=>?_
 refine Ok.bind (P:=λ _=>True) (d5 (λ _=>dg (C3 hbl _ _)) λ _=>trivial) λ _ _=>?_
 refine c4 (λ _=>c5 (λ e=>by cases e)) (λ _=>?_)
 refine c4 (λ hk=>?_) (λ hk1=>c4 (λ hk=>?_) (λ hk2=>?_))
 ·simp only [dy] at hk
  rw [C3 hbl]
  refine c5 λ _ y hy hy3=>?_
  rw [hx] at hy;cases hy;omega
 ·simp only [dy] at hk
  rw [C3 hbl]
  simp only [ab]
  refine Ok.bind (P:=λ _=>True) (d5 (λ _=>d7 (by omega) (by omega)) λ _=>trivial) λ _ _=>c5 λ _ y hy hy3=>?_
  rw [hx] at hy;cases hy;omega
 ·unfold F86
  rw [Cm h hp,jY h hc,C3 hbl]
  simp only [ab,dD,cond_false]
  refine c5 λ e y hy hy3=>?_
  rw [hx] at hy;cases hy
  simp only [ac,aC] at e
  exact Abp e.2
theorem A2f {b:Aa} (h:Ar b) {p:Ab} (hp:Aq b p) (j:Int):Ok (Zb b p j) λ y=>y≠0\/((0<=j/\j<b.Ad.length)/\∀ x,b.Ad[j.toNat]? = some x->x.Kind=3->By b p 3 x.B=none):=by
 unfold Zb
 rw [Cm h hp]
 simp only [ab]
 refine c4 (λ hc=>by simp at hc) (λ _=>c4 (λ _=>c5 (.inl (by simp))) (λ hr=>?_))
 simp only [Ah3,bv,dx] at hr
 refine (Awz h hp (by omega) (by omega)).bind λ y hy=>?_
 refine c4 (λ _=>c5 (.inl (by simp))) (λ h2=>?_)
 simp only [ct] at h2
 have hy:=hy h2
 refine (cS (by omega) (by omega)).bind λ x hx=>(A3l h hp x.A).bind λ z hz=>?_
 refine Ok.bind (P:=λ _=>True) (d5 (λ _=>dg (Eu _ _ hz)) λ _=>trivial) λ _ _=>?_
 refine Ok.bind (P:=λ _=>True) (d5 (λ _=>A0s h hp hx) λ _=>trivial) λ _ _=>?_
 exact c4 (λ _=>c5 (.inl (by simp))) (λ _=>c5 (.inr ⟨⟨by omega,by omega⟩,hy⟩))
theorem Ayl {b:Aa} (h:Ar b) {p:Ab} (hp:Aq b p) (i:Int):Ok (Vr b p i) λ y=>y.2≠0\/Aq b y.1:=by
 have hn:=hp.ncl
 unfold Vr
 rw [D8 h hp]
 simp only [ab]
 refine (A2f h hp i).bind λ y hy=>c4 (λ hc=>c5 (.inl (by simpa using hc))) (λ hc=>?_)
 simp only [dC] at hc
 rcases hy with hy | ⟨hr,hf⟩
 ·exact absurd hc hy
 ·refine (cS hr.1 (by omega)).bind λ _ _=>(cU hr.1 (by omega)).bind λ z hz=>?_
  obtain⟨x,hx⟩:∃ x,b.Ad[i.toNat]? = some x:=⟨_,af (by omega)⟩
  have hq:=qK hp hx (hf x hx)
  rw [←hz] at hq
  rw [Uf h hq]
  exact c5 (.inr (Ia hq (Gt _ _) (Rm hq)))
theorem Axl {b:Aa} (h:Ar b) {p:Ab} (hp:Aq b p) (i n:Int):Ok (Akn b p i n) λ y=>y.2≠0\/Aq b y.1:=by
 have hn:=hp.nso
 unfold Akn
 rw [Cm h hp,D8 h hp]
 simp only [ab]
 refine c4 (λ hc=>by simp at hc) (λ _=>c4 (λ _=>c5 (.inl (by simp))) (λ hr=>?_))
 simp only [Aup,bv,dx] at hr
 refine (T6 h hp n).bind λ y hy=>?_
 refine Ok.bind (P:=λ _=>True) (d5 (λ _=>d7 (by omega) (by omega)) λ _=>trivial) λ u _=>?_
 refine c4 (λ _=>c5 (.inl (by simp))) (λ hc=>?_)
 simp only [bv,ct] at hc
 have hy:=hy hc.1
 unfold Aqn
 rw [Cm h hp,Uo h hp]
 simp only [ab,dD,cond_false]
 have hrun:∀ w,p.Ac[y.1.toNat]? = some w->C9 w:=λ w hw=>hp.run w (ae hw)
 refine c4 (λ _=>?_) (λ _=>?_)
 ·refine (Azj h hp _).bind λ z hz=>(cS hy.1 hy.2).bind λ w hw=>?_
  rw [Afo hz]
  exact c5 (.inr (Ia hp (Hi _ _ _) (Qq (hrun w hw) _ _ hz hp.run)))
 ·refine (cS hy.1 hy.2).bind λ w hw=>?_
  have hz:∀ k,k∈[i]->0<=k/\k<p.Ac.length:=λ k hk=>by
   simp only [aP] at hk
   subst hk;omega
  rw [Afo hz]
  exact c5 (.inr (Ia hp (Hi _ _ _) (Qq (hrun w hw) _ _ hz hp.run)))
theorem T8 {b:Aa} (h:Ar b) {p:Ab} (hc:p.Ae.length=b.Ad.length) (t:Int) {i:Int} (h0:0<=i) (h1:i<b.Ac.length):Ok (Ka ⟨b,p,t⟩ i) λ _=>True:=by
 obtain⟨j,x,e,hx,_⟩:=J9 h h0 h1
 have hj:=(aa.1 hx).1
 unfold Ka
 rw [Io h,e]
 simp only [ab]
 exact (d7 (by omega) (by omega)).bind λ _ _=>c5 trivial
def W7 (b:Aa) (y:Int×A0):Prop:=y.1≠0\/Aq b y.2.Ao
theorem Awx {b:Aa} (h:Ar b) {p:Ab} (hp:Aq b p) {t:Int} (ht:0<=t/\t<=2147483648) {i:Int} (h0:0<=i) (h1:i<b.Ac.length):Ok (Ly ⟨b,p,t⟩ i) (W7 b):=by
 have hn:=hp.nso
 have hbl:p.Ah.length<=1000:=by have:=hp.brk.len;omega
 unfold Ly
 refine (d7 h0 (by dsimp only;omega)).bind λ u _=>Ok.bind (P:=λ _=>True) (d5 (λ _=>dg (C3 hbl _ _)) λ _=>trivial) λ _ _=>?_
 refine c4 (λ _=>c5 (.inl (by simp))) (λ _=>(d7 h0 h1).bind λ s _=>?_)
 refine Ok.bind (P:=λ _=>True) (d5 (λ _=>T8 h hp.ncl t h0 h1) λ _=>trivial) λ _ _=>?_
 refine c4 (λ _=>?_) (λ _=>?_)
 ·exact (cU h0 (by dsimp only;omega)).bind λ z hz=>c5 (.inr (by
   rw [hz]
   exact Ia hp (by simp) (Je hp.run ⟨by dsimp only;omega,ht,by dsimp only;omega,by dsimp only;omega⟩)))
 ·exact (cU h0 (by dsimp only;omega)).bind λ z hz=>c5 (.inr (by
   rw [hz]
   exact Ia hp (by simp) (Je hp.run ⟨by dsimp only;omega,ht,by dsimp only;omega,by dsimp only;omega⟩)))
theorem A0t {b:Aa} (h:Ar b) {p:Ab} (hp:Aq b p) {t:Int} {i:Int} (h0:0<=i) (h1:i<b.Ac.length):Ok (Vp ⟨b,p,t⟩ i) (W7 b):=by
 have hn:=hp.nso
 unfold Vp
 refine (cS h0 (by dsimp only;omega)).bind λ u hu=>?_
 have hr:=hp.run u (ae hu)
 refine Ok.bind (P:=λ _=>True) (d5 (λ _=>T8 h hp.ncl t h0 h1) λ _=>trivial) λ _ _=>?_
 refine c4 (λ _=>c5 (.inl (by simp))) (λ _=>(cU h0 (by dsimp only;omega)).bind λ z hz=>c5 (.inr ?_))
 rw [hz]
 exact Ia hp (by simp) (Je hp.run ⟨by dsimp only;omega,hr.2⟩)
theorem Axq {b:Aa} {p:Ab} (hp:Aq b p) {t:Int} {i v:Int} (h0:0<=i) (h1:i<b.Af.length):Ok (Vo ⟨b,p,t⟩ i v) (W7 b):=by
 have hn:=hp.nli
 unfold Vo
 refine Ok.bind (P:=λ y=>0<=v->b.Af[i.toNat]? = some y) (cT (λ _=>(cS h0 h1).mono λ y hy _=>hy) λ hg hv=>(hg ⟨by simp;omega,trivial⟩).elim) λ c hc=>?_
 refine c4 (λ _=>c5 (.inl (by simp))) (λ hr=>?_)
 simp only [Ah5,bv,dx] at hr
 have hc:=hc (by omega)
 refine (d7 h0 (by dsimp only;omega)).bind λ _ _=>(cU h0 (by dsimp only;omega)).bind λ z hz=>c5 (.inr ?_)
 subst hz
 exact {
  ncl:=hp.ncl
  nso:=hp.nso
  nli:=by simpa using hp.nli
  run:=hp.run
  lim:=λ k m y hk hy=>by
   dsimp only at hk
   rw [ao] at hk
   split at hk
   ·rename_i e
    split at hk
    ·cases hk
     rw [←e,hc] at hy;cases hy;omega
    ·cases hk
   ·exact hp.lim k m y hk hy
  one:=hp.one
  brk:=hp.brk}
theorem A1a (x:Int):0<=Hr x/\Hr x<=3599:=by
 have:=Qi (x:=x) (n:=3600) (by omega)
 unfold Hr
 by_cases h:Int.tmod x 3600<0
 ·rw [dA h,cond_true,A6 (by omega)];omega
 ·rw [decide_eq_false h,cond_false];omega
theorem A0m {b:Aa} (h:Ar b) {p:Ab} (hp:Aq b p):Ok (Za b p) λ y=>Aq b y.1/\y.1.Ae=p.Ae/\y.2=0:=by
 have hs:=h.sol
 have hn:=hp.nso
 unfold Za
 rw [Cm h hp,D8 h hp]
 simp only [ab]
 refine c4 (λ hc=>by simp at hc) (λ _=>?_)
 refine Ok.andThen (A:=λ s=>s.length=p.Ac.length/\∀ x,x∈s->C9 x) (B:=λ (_:Unit)=>False) ?_ (λ s hs=>c5 ⟨Ia hp hs.1 hs.2,rfl,rfl⟩) (λ _ h=>h.elim)
 refine c7 (I:=λ _ s=>s.length=p.Ac.length/\∀ x,x∈s->C9 x) ⟨rfl,hp.run⟩ (λ j x s hx hs=>?_) λ s hs=>hs
 have hj:=(aa.1 hx).1
 have hcnt:cnt 0 j=(j:Int):=Cw (by omega)
 unfold Wz
 rw [hcnt]
 refine c4 (λ _=>?_) (λ _=>c6 hs)
 refine (cS (by omega) (by omega)).bind λ u hu=>(cU (by omega) (by omega)).bind λ z hz=>c6 ?_
 have hr:=hs.2 u (ae hu)
 rw [hz]
 exact⟨by simpa using hs.1,Je hs.2 ⟨hr.1,hr.2.1,hr.2.2.1,A1a _⟩⟩
theorem Alc {b:Aa} (h:Ar b) {p:Ab} (hp:Aq b p) (t:Int):Ok (Kb ⟨b,p,t⟩) λ y=>Aq b y.Ao:=by
 have hso:=h.sol
 unfold Kb
 refine (A0m h hp).bind λ ⟨q,e⟩ hq=>?_
 dsimp only at hq ⊢
 obtain⟨hq,_,_⟩:=hq
 have hn:=hq.nso
 refine Ok.andThen (A:=λ s=>s.2.length=q.Ac.length/\∀ x,x∈s.2->C9 x) (B:=λ (_:Unit)=>False) ?_ (λ s hs=>c5 (Ia hq hs.1 hs.2)) (λ _ h=>h.elim)
 refine c9 (λ s=>(0<=s.1/\s.1<=(q.Ac.length:Int))/\s.2.length=q.Ac.length/\∀ x,x∈s.2->C9 x) (λ s=>((q.Ac.length:Int)-s.1).toNat) _ _ ?_ ?_ ?_
 ·exact⟨by dsimp only;omega,rfl,hq.run⟩
 ·dsimp only;omega
 ·rintro⟨i,s⟩ ⟨⟨h1,h2⟩,h3,h4⟩
  dsimp only at h1 h2 h3 h4
  unfold Oy Yh
  dsimp only
  refine c4 (λ hc=>?_) (λ _=>cW ⟨h3,h4⟩)
  simp only [dw] at hc
  have e1:w64 (i+1)=i+1:=A6 (by omega)
  refine (cS h1 (by omega)).bind λ u hu=>?_
  have hr:=h4 u (ae hu)
  refine Ok.bind (P:=λ _=>True) (d5 (λ _=>T8 h hq.ncl t h1 (by omega)) λ _=>trivial) λ _ _=>?_
  refine Ok.bind (P:=λ _=>True) (d5 (λ _=>d7 h1 (by omega)) λ _=>trivial) λ _ _=>?_
  rw [e1]
  refine c4 (λ _=>?_) (λ _=>c6 ⟨⟨by dsimp only;omega,h3,h4⟩,by dsimp only;omega⟩)
  refine (cU h1 (by omega)).bind λ z hz=>c6 ⟨⟨by dsimp only;omega,?_,?_⟩,by dsimp only;omega⟩
  ·dsimp only;rw [hz];simpa using h3
  ·dsimp only;rw [hz];exact Je h4 ⟨by dsimp only;omega,hr.2⟩
theorem bet {x lo hi:Int} (h:lo<=x/\x<=hi):F46 x lo hi=true:=(Jp x lo hi).2 h
def ofL (b:Aa) (q:Ag->Bool):List Int:=(b.Ad.zipIdx.filter λ z=>q z.1).map λ z=>(z.2:Int)
theorem X2 {b:Aa} (h:Ar b) (k i:Int):F49 b k i=some (ofL b λ x=>Hv k i x):=by
 have hb:=h.brl
 refine cZ ?_
 unfold F49
 refine Ok.andThen (A:=λ s=>s=ofL b λ x=>Hv k i x) (B:=λ (_:Unit)=>False) ?_ (λ s hs=>c5 hs) (λ _ h=>h.elim)
 refine c7 (I:=λ j s=>s=((b.Ad.zipIdx.take j).filter λ z=>Hv k i z.1).map λ z=>(z.2:Int)) rfl (λ j x s hx hs=>?_) λ s hs=>?_
 ·have hj:=(aa.1 hx).1
  have hcnt:cnt 0 j=(j:Int):=Cw (by omega)
  have hz:b.Ad.zipIdx[j]? = some (x,j):=by rw [List.getElem?_zipIdx,hx];simp
  have hsl:s.length<=j:=by
   rw [hs,ax]
   exact aA (bh _ _) (by simp;omega)
  unfold Aj5
  rw [hcnt,Bg hz,bk,bm,←hs]
  refine c4 (λ hq=>?_) (λ hq=>c6 (by simp [hq]))
  exact (cV (by simp;omega)).bind λ y hy=>c6 (by rw [hy];simp [hq])
 ·rw [hs,show b.Ad.length=b.Ad.zipIdx.length from by simp,ay];rfl
theorem Aeg (q:Ag->Bool):∀ (l:List Ag) (k:Nat),((l.zipIdx k).filter λ z=>q z.1).length=(l.filter q).length
 | [],_=>rfl
 | x::l,k=>by
  simp only [List.zipIdx_cons,bl]
  split <;> simp [Aeg q l (k+1)]
theorem A09 (b:Aa) (q:Ag->Bool):(ofL b q).length=(b.Ad.filter q).length:=by
 unfold ofL
 rw [ax,Aeg]
theorem Agg (k:Int) (hk:k≠1) (i:Int) (x:Ag):Hv k i x=(x.Kind==k&&x.B==i):=by
 unfold Hv
 have:(k==1)=false:=dz.2 hk
 rw [this];simp
theorem vZ {b:Aa} {k:Int} (hk:k≠1) (i:Nat):(ofL b λ x=>Hv k (i:Int) x).length=(brs b.Ad k i).length:=by
 rw [A09]
 unfold brs
 congr 1
 exact cu λ x _=>Agg k hk i x
theorem Agf {b:Aa} (h:Ar b):F95 b=some true:=by
 have hs:=h.sol
 have hc:=h.col
 have hb:=h.buses
 have hbl:=h.brl
 refine cZ ?_
 unfold F95
 rw [Fp b.Ad 0 λ j x hj=>?_]
 ·rw [show ∀ (f:Unit->Option Bool),andThen (some (Ctl.next ()):Option (Ctl Unit Bool)) some f=f () from λ _=>rfl]
  refine Ok.andThen (A:=λ _=>True) (B:=λ (_:Bool)=>False) ?_ (λ _ _=>?_) (λ _ h=>h.elim)
  ·refine c9 (λ s=>0<=s/\s<=(b.Ac.length:Int)) (λ s=>((b.Ac.length:Int)-s).toNat) _ (0:Int) (by omega) (by omega) ?_
   rintro i ⟨h1,h2⟩
   unfold Ajh Auk
   refine c4 (λ hq=>?_) (λ _=>cW trivial)
   simp only [dw] at hq
   obtain⟨n,rfl⟩:∃ n:Nat,i=(n:Int):=⟨i.toNat,by omega⟩
   rw [X2 h]
   simp only [ab]
   have hone:=h.one n (by omega)
   rw [vZ (by decide),hone,A6 (by omega)]
   refine c4 (λ hc=>by simp at hc) (λ _=>c6 ⟨by omega,by omega⟩)
  ·refine Ok.andThen (A:=λ _=>True) (B:=λ (_:Bool)=>False) ?_ (λ _ _=>c5 rfl) (λ _ h=>h.elim)
   refine c9 (λ s=>0<=s/\s<=(b.Af.length:Int)) (λ s=>((b.Af.length:Int)-s).toNat) _ (0:Int) (by omega) (by omega) ?_
   rintro i ⟨h1,h2⟩
   unfold Ajg Auj
   refine c4 (λ hq=>?_) (λ _=>cW trivial)
   simp only [dw] at hq
   obtain⟨n,rfl⟩:∃ n:Nat,i=(n:Int):=⟨i.toNat,by omega⟩
   rw [X2 h]
   simp only [ab]
   have hany:=h.any n (by omega)
   have hpos:0<(brs b.Ad 3 n).length:=List.length_pos_iff.2 hany
   rw [vZ (by decide),A6 (by omega)]
   refine c4 (λ hc=>?_) (λ _=>c6 ⟨by omega,by omega⟩)
   simp only [dw] at hc;omega
 ·have hjl := (aa.1 hj).1
  obtain⟨⟨a0,a1⟩,hk⟩:=h.br x (ae hj)
  rw [aL]
  have hcnt:cnt 0 j=(j:Int):=Cw (by omega)
  have e1:w64 (b.Am-1)=b.Am-1:=A6 (by omega)
  have e2:w64 (x.A+1)=x.A+1:=A6 (by omega)
  have e3:w64 ((b.Ac.length:Int)-1)=(b.Ac.length:Int)-1:=A6 (by omega)
  have e4:w64 ((b.Af.length:Int)-1)=(b.Af.length:Int)-1:=A6 (by omega)
  unfold Aji Azw Azv Azu
  rw [e1,e2,e3,e4,hcnt,bet (x:=x.A) (by omega)]
  simp only [bi,cond_false]
  rcases hk with⟨hk,h1,h2⟩ | ⟨hk,h1,h2⟩ | ⟨hk,h1,h2⟩
  ·rw [hk,bet (x:=x.B) (lo:=x.A+1) (by omega)];rfl
  ·rw [hk,bet (x:=x.B) (lo:=0) (hi:=(b.Ac.length:Int)-1) (by omega)];rfl
  ·rw [hk, bet (x := x.B) (lo := 0) (hi := (b.Af.length : Int) - 1) (by omega)]
   have hcut:cutI b.Ad 0 (j:Int)=some (b.Ad.take j):=by
    refine cZ ((Ok.cutI (by omega) (by omega) (by omega)).mono λ y hy=>?_)
    rw [hy];simp
   show ((cutI b.Ad 0 (j:Int)).bind λ y9=>andThen (foldI (uH x) y9 0 ()) (λ v=>some (Ctl.ret v)) λ z1=>some (Ctl.next ()))=some (Ctl.next ())
   rw [hcut]
   simp only [ab]
   rw [Fp _ 0 λ m y hy=>?_]
   ·rfl
   ·have hml:m<j:=by
     have:=(aa.1 hy).1
     simp only [aF] at this;omega
    have hyb:b.Ad[m]? = some y:=by
     rw [ap,if_pos hml] at hy;exact hy
    unfold uH
    have hne:Aow x y=false:=by
     unfold Aow
     rw [cG]
     intro e
     simp only [bt,ac,dy] at e
     obtain⟨e1,e2,e3⟩:=e
     have hn:=h.nodup x.B.toNat
     have hsplit:b.Ad=b.Ad.take j++(x::b.Ad.drop (j+1)):=by
      conv=>lhs;rw [←ci j b.Ad]
      rw [cH hjl]
      have:b.Ad[j]=x:=by
       rw [af hjl] at hj;cases hj;rfl
      rw [this]
     rw [hsplit,G7,bm] at hn
     have hBn:x.B=(x.B.toNat:Int):=by omega
     have hmem1:y.A∈(brs (b.Ad.take j) 3 x.B.toNat).map (·.A):=by
      refine am.2 ⟨y,?_,rfl⟩
      unfold brs
      refine an.2 ⟨ae hy,?_⟩
      rw [e1,hk,e3,←hBn];simp
     have hmem2:x.A∈(brs (x::b.Ad.drop (j+1)) 3 x.B.toNat).map (·.A):=by
      refine am.2 ⟨x,?_,rfl⟩
      unfold brs
      refine an.2 ⟨ah,?_⟩
      rw [hk,←hBn];simp
     exact (List.nodup_append.1 hn).2.2 _ hmem1 _ hmem2 e2
    rw [hne];rfl
theorem Akv {b:Aa} (h:Ar b):F96 b=some true:=by
 unfold F96
 rw [Fp b.Ac 0 λ j x hj=>?_]
 ·rfl
 ·obtain⟨h1,h2,h3⟩:=h.so x (ae hj)
  unfold Ajf Azt
  rw [bet h1,bet h2,bet h3];rfl
theorem Ac4 {b:Aa} (h:Ar b):F97 b=some true:=by
 have hcl:=h.col
 unfold F97
 rw [Fp b.Af 0 λ j x hj=>?_]
 ·rfl
 ·obtain⟨h1,h2,h3,h4,h5,h6,h7⟩:=h.co j x hj
  have hjl:=(aa.1 hj).1
  rw [aL]
  have hcnt:cnt 0 j=(j:Int):=Cw (by omega)
  unfold Aje Azs
  rw [bet h1,bet h2,bet h3,bet h4]
  have hd:decide ((x.Needs.length:Int)>4)=false:=by simp;omega
  rw [hd]
  simp only [bi,Bool.or_false,cond_false]
  rw [Fp x.Needs 0 λ m n hm=>?_]
  ·rfl
  ·have hml:=(aa.1 hm).1
   rw [aL]
   have hcm:cnt 0 m=(m:Int):=Cw (by omega)
   have hn:=h6 n (ae hm)
   unfold Ajd Azr
   rw [hcnt,hcm,A6 (n:=(j:Int)-1) (by omega),bet (x:=n) (by omega)]
   cases m with
   | zero=>rfl
   | succ m=>
    obtain⟨a,ha⟩:∃ a,x.Needs[m]? = some a:=⟨_,af (by omega)⟩
    have hlt:=h7 m a n ha hm
    have e:w64 (((m+1:Nat):Int)-1)=(m:Int):=by rw [A6 (by omega)];omega
    have hp:decide (((m+1:Nat):Int)>0)=true:=dA (by omega)
    have hq:decide (a>=n)=false:=by simp;omega
    rw [e,A8 ha,hp]
    simp [Az,Cj,hq]
theorem M8 {b:Aa} (h:Ar b):F45 b=some 0:=by
 have h1:=h.buses
 have h2:=h.brl
 have h3:=h.sol
 have h4:=h.col
 have h5:=h.phase
 have h6:=h.freq
 unfold F45
 rw [Agf h,Akv h,Ac4 h]
 have e:Aoy b=false:=by
  rw [cG];intro e
  simp [Aoy] at e;omega
 have e2:Aox b true true true=false:=by
  rw [cG];intro e
  simp [Aox] at e;omega
 rw [e]
 simp only [cond_false,ab]
 have g1:(Az [(!true,false)] (some true) default:Option Bool)=some true:=rfl
 have g2:(Az [(!true || !true,false)] (some true) default:Option Bool)=some true:=rfl
 rw [g1,ab,g2,ab,e2];rfl
theorem Aak (i:Nat) (C:List Bool):∀ (l:List Ag) (c:List Bool) (k:Nat),C.drop k=c->l.length=c.length ->
  (((l.zipIdx k).filter λ z=>z.1.Kind==3&&z.1.B==(i:Int)).filter λ z=>C.getD z.2 false).length=(B_ l c i).length
 | [],_,_,_,_=>by simp [B_]
 | x::l,[],_,_,h=>by simp at h
 | x::l,v::c,k,hd,h=>by
  have hv:C[k]? = some v:=by
   have:=congrArg (·[0]?) hd
   simpa [List.getElem?_drop] using this
  have hd':C.drop (k+1)=c:=by rw [←bO,hd];rfl
  have ih:=Aak i C l c (k+1) hd' (by simpa using h)
  have hg:C.getD k false=v:=by simp [List.getD,hv]
  simp only [List.zipIdx_cons,bl,B_,bD] at ih ⊢
  cases hq:(x.Kind==3&&x.B==(i:Int)) with
  | false=>simpa only [Bool.false_and,bM,if_false] using ih
  | true=>
   simp only [if_true,bl,hg]
   cases v with
   | false=>simpa only [Bool.and_false,bM,if_false] using ih
   | true=>simpa only [Bool.and_self,if_true,aS,Nat.add_right_cancel_iff] using ih
theorem H1 {b:Aa} (h:Ar b) {p:Ab} (hp:Aq b p):F11 b p=some 0:=by
 have h3:=h.sol
 have h4:=h.col
 have hbl:=h.brl
 have hncl:=hp.ncl
 have hnso:=hp.nso
 have hnli:=hp.nli
 refine cZ ?_
 unfold F11
 rw [M8 h]
 simp only [ab]
 refine c4 (λ hc=>by simp at hc) (λ _=>c4 (λ hc=>?_) (λ _=>?_))
 ·simp [A0e,hncl,hnso,hnli] at hc
 rw [Fp p.Ac 0 λ j x hj=>?_]
 ·rw [show ∀ (f : Unit -> Option Int), andThen (some (Ctl.next ()) : Option (Ctl Unit Int)) some f = f () from λ _ => rfl]
  rw [Fp p.Al 0 λ j x hj=>?_]
  ·rw [show ∀ (f : Unit -> Option Int), andThen (some (Ctl.next ()) : Option (Ctl Unit Int)) some f = f () from λ _ => rfl]
   have hlen:=hp.brk.len
   refine c4 (λ hc=>?_) (λ _=>?_)
   ·simp only [dw] at hc;omega
   rw [Fp p.Ah 0 λ j x hj=>?_]
   ·rw [show ∀ (f:Unit->Option Int),andThen (some (Ctl.next ()):Option (Ctl Unit Int)) some f=f () from λ _=>rfl]
    refine Ok.andThen (A:=λ _=>True) (B:=λ (_:Int)=>False) ?_ (λ _ _=>c5 rfl) (λ _ h=>h.elim)
    refine c9 (λ s=>0<=s/\s<=(b.Af.length:Int)) (λ s=>((b.Af.length:Int)-s).toNat) _ (0:Int) (by omega) (by omega) ?_
    rintro i ⟨g1,g2⟩
    unfold Aki A0b
    refine c4 (λ hq=>?_) (λ _=>cW trivial)
    simp only [dw] at hq
    obtain⟨n,rfl⟩:∃ n:Nat,i=(n:Int):=⟨i.toNat,by omega⟩
    rw [X2 h]
    simp only [ab]
    have hone:=hp.one n (by omega)
    have hz:ofL b (λ x=>Hv 3 (n:Int) x)=((b.Ad.zipIdx.filter λ z=>z.1.Kind==3&&z.1.B==(n:Int)).map λ z=>(z.2:Int)):=by
     unfold ofL
     congr 1
     exact cu λ z _=>Agg 3 (by decide) n z.1
    have hzf:=Aak n p.Ae b.Ad p.Ae 0 rfl (by omega)
    rw [hz]
    have hin:∀ z,z∈(b.Ad.zipIdx.filter λ z=>z.1.Kind==3&&z.1.B==(n:Int))->z.2<p.Ae.length:=by
     rintro⟨x,j⟩ hm
     have:=(an.1 hm).1
     rw [bx] at this
     have:=(aa.1 this).1
     dsimp only;omega
    have hsz:(b.Ad.zipIdx.filter λ z=>z.1.Kind==3&&z.1.B==(n:Int)).length<=24:=aA (bh _ _) (by simpa using hbl)
    generalize hm:(b.Ad.zipIdx.filter λ z=>z.1.Kind==3&&z.1.B==(n:Int))=m at hin hsz hzf
    refine (c7 (xs:=m.map λ z=>(z.2:Int)) (I:=λ j s=>s=(((m.take j).filter λ z=>p.Ae.getD z.2 false).length:Int)) (A:=λ s=>s=((m.filter λ z=>p.Ae.getD z.2 false).length:Int)) (B:=λ (_:Unit)=>False) rfl (λ j x s hx hs=>?_) λ s hs=>?_).inner (λ s hs=>?_) (λ _ h=>h.elim)
    ·rw [az,cC] at hx
     obtain⟨z,hz,rfl⟩:=hx
     have hzl:=hin z (ae hz)
     obtain⟨v,hv⟩:∃ v,p.Ae[z.2]? = some v:=⟨_,af hzl⟩
     have hg:p.Ae.getD z.2 false=v:=by simp [List.getD,hv]
     have hle:((m.take j).filter λ z=>p.Ae.getD z.2 false).length<=24:=aA (bh _ _) (by simp;omega)
     unfold Akh
     rw [A8 hv,Bg hz,bk]
     simp only [ab]
     refine c4 (λ hq=>c6 ?_) (λ hq=>c6 ?_)
     ·rw [hs,A6 (by omega),bl,hg,if_pos hq]
      simp
     ·rw [hs,bl,hg,if_neg (ff hq)]
      simp
    ·rw [ax,ay] at hs;exact hs
    ·rw [hs,hzf,A6 (by omega)]
     refine c4 (λ hc=>?_) (λ _=>c6 ⟨by omega,by omega⟩)
     simp only [dw] at hc;omega
   ·have hjl:=(aa.1 hj).1
    rw [aL]
    have hcnt:cnt 0 j=(j:Int):=Cw (by omega)
    unfold Akj A0c
    rw [(jZ h x).2 (hp.brk.mem x (ae hj)),hcnt]
    cases j with
    | zero=>rfl
    | succ j=>
     obtain⟨a,ha⟩:∃ a,p.Ah[j]? = some a:=⟨_,af (by omega)⟩
     have hlt:=hp.brk.asc j a x ha hj
     have e:w64 (((j+1:Nat):Int)-1)=(j:Int):=by rw [A6 (by omega)];omega
     have hpz:decide (((j+1:Nat):Int)>0)=true:=dA (by omega)
     have hb:F48 a x=true:=by
      unfold F48
      unfold P9 at hlt
      simp only [aJ,ac,dw,dy]
      exact hlt
     rw [e,A8 ha,hpz]
     simp [Az,Cj,hb]
  ·have hjl:=(aa.1 hj).1
   rw [aL]
   have hcnt:cnt 0 j=(j:Int):=Cw (by omega)
   obtain⟨c,hc⟩:∃ c,b.Af[j]? = some c:=⟨_,af (by omega)⟩
   unfold Akk
   rw [hcnt,A8 hc]
   simp only [ab]
   rw [bet (hp.lim j x c hj hc)];rfl
 ·have hr:=hp.run x (ae hj)
  unfold Akl A0d
  rw [bet hr.1,bet hr.2.1,bet hr.2.2.1,bet hr.2.2.2];rfl
theorem At1 {l:List As} {n:Nat} {x:As} (h:l[n]? = some x):Eg (l.take n++l.drop (n+1)) n x=l:=by
 have hn:=(aa.1 h).1
 have ht:(l.take n).length=n:=by simp;omega
 unfold Eg
 rw [bZ (by omega),cm,Nat.min_self,List.drop_append_of_le_length (by omega),List.drop_of_length_le (by omega),cI]
 conv=>rhs;rw [←ci n l]
 rw [cH hn]
 have:l[n]=x:=by rw [af hn] at h;cases h;rfl
 rw [this]
theorem Lu {l:List As} {n j:Nat} (hn:n<l.length) {y:As} (h:(l.take n++l.drop (n+1))[j]? = some y):(j<n/\l[j]? = some y)\/(n<=j/\l[j+1]? = some y):=by
 have ht:(l.take n).length=n:=by simp;omega
 rw [bX] at h
 split at h
 ·rename_i h1
  rw [ht] at h1
  rw [ap,if_pos h1] at h
  exact .inl ⟨h1,h⟩
 ·rename_i h1
  rw [ht] at h1 h
  rw [ar] at h
  refine .inr ⟨by omega,?_⟩
  rw [←h];congr 1;omega
theorem Ayb {b:Aa} (h:Ar b) {l:List As} (hl:Eh b l) {n:Nat} (hn:n<l.length):Eh b (l.take n++l.drop (n+1)):=by
 have hs:=Hx h hl
 have hsm:∀ y,y∈l->Ck y:=λ y hy=>(hl.mem y hy).small h
 have hlen:=hl.len
 refine⟨by simp;omega,λ y hy=>?_,λ j y z hy hz=>?_⟩
 ·rcases aq.1 hy with hy | hy
  ·exact hl.mem y (aT hy)
  ·exact hl.mem y (cq hy)
 ·rcases Lu hn hy with⟨a1,a2⟩ | ⟨a1,a2⟩ <;> rcases Lu hn hz with⟨b1,b2⟩ | ⟨b1,b2⟩
  ·exact hl.asc j y z a2 b2
  ·exact (Adg (hsm y (ae a2)) (hsm z (ae b2))).2 (hs j (j+1+1) y z (by omega) a2 b2)
  ·omega
  ·exact hl.asc (j+1) y z a2 b2
theorem Ayc {b:Aa} (h:Ar b) {l:List As} (hl:Eh b l) {n:Nat} {x:As} (hx:l[n]? = some x):At (l.take n++l.drop (n+1)) x n/\(l.take n++l.drop (n+1))[n]? ≠ some x:=by
 have hs:=Hx h hl
 have hn:=(aa.1 hx).1
 refine⟨⟨by simp;omega,λ j y hj hy=>?_,λ j y hj hy=>?_⟩,λ e=>?_⟩
 ·rcases Lu hn hy with⟨_,a2⟩ | ⟨a1,_⟩
  ·exact hs j n y x hj a2 hx
  ·omega
 ·rcases Lu hn hy with⟨a1,_⟩ | ⟨_,a2⟩
  ·omega
  ·have:=hs n (j+1) x y (by omega) hx a2;omega
 ·rcases Lu hn e with⟨a1,_⟩ | ⟨_,a2⟩
  ·omega
  ·have:=hs n (n+1) x x (by omega) hx a2;omega
theorem A1n {b:Aa} (h:Ar b) {p:Ab} (hp:Aq b p) (t:Int) {x:As} (hx:Cb b x) (v:Bool):Ok (H9 ⟨b,p,t⟩ x v) (W7 b):=by
 obtain⟨n,hat⟩:=A6k h hp.brk hx
 have hlen:=hp.brk.len
 have hsearch:=N8 (Hx h hp.brk) (λ y hy=>(hp.brk.mem y hy).small h) (hx.small h) (by omega)
 have hbad:∀ (hv:(p.Ah[n]? = some x)↔v=true),Ok (H9 ⟨b,p,t⟩ x v) (W7 b):=by
  intro hv
  unfold H9
  refine hsearch.bind λ y hy=>?_
  obtain⟨m,e1,hat2,hf⟩:=hy
  have e2:=hat.uniq hat2
  subst e2
  have:y.2=v:=by
   rw [bf];exact hf.trans hv
  rw [this]
  exact c4 (λ _=>c5 (.inl (by simp))) (λ hc=>by simp at hc)
 by_cases hin:p.Ah[n]? = some x
 ·cases v with
  | true=>exact hbad ⟨λ _=>rfl,λ _=>hin⟩
  | false=>
   have hn:=(aa.1 hin).1
   have he:=Ayc h hp.brk hin
   have hq:Aq b ⟨p.Ae,p.Ac,p.Al,p.Ah.take n++p.Ah.drop (n+1)⟩:={ncl:=hp.ncl,nso:=hp.nso,nli:=hp.nli,run:=hp.run,lim:=hp.lim,one:=hp.one,brk:=Ayb h hp.brk hn}
   have:=A1b h (p:=⟨p.Ae,p.Ac,p.Al,p.Ah.take n++p.Ah.drop (n+1)⟩) hq.brk (q:=p) hx t he.1 he.2 (by simp;omega) (At1 hin).symm hp.nso
   rw [this]
   refine c5 (.inr ?_)
   exact Ia hq (Uj _ _ _) (Ahf hp.run (λ hk=>by have:=hp.nso;unfold Cb at hx;omega) (by omega))
 ·cases v with
  | false=>exact hbad ⟨λ e=>absurd e hin,λ e=>by cases e⟩
  | true=>
   by_cases hl:p.Ah.length<32
   ·rw [A1o h hp hx t hat hin hl]
    exact c5 (.inr (Aog h hp hx hat hin hl))
   ·unfold H9
    refine hsearch.bind λ y _=>c4 (λ _=>c5 (.inl (by simp))) (λ _=>c4 (λ _=>c5 (.inl (by simp))) (λ hc=>?_))
    simp [Rv] at hc;omega
def A3t:Ab:=⟨[],[],[],[]⟩
theorem Axu {b:Aa} (a:Ak):Ok (F62 b a) λ y=>y=true->((a.Kind=1\/a.Kind=2)->Cb b ⟨2,a.Unit⟩)/\((a.Kind=3\/a.Kind=4)->Cb b ⟨1,a.Unit⟩)/\(a.Kind=5->Cb b ⟨4,a.Unit⟩)/\((a.Kind=8\/a.Kind=9)->Cb b ⟨a.Value,a.Unit⟩):=by
 unfold F62
 refine Ok.andThen (A:=λ z=>z=true↔(a.Kind=1\/a.Kind=2)) (B:=λ (_:Unit)=>False) ?_ (λ z hz=>?_) (λ _ h=>h.elim)
 ·unfold Aj1
  refine c4 (λ hk=>d8 ?_) (λ hk=>d8 ?_)
  ·simp only [dy] at hk ⊢;omega
  ·simp only [dz,ne_eq] at hk
   simp only [dy];omega
 refine c4 (λ hq=>c5 λ hk=>?_) (λ hq=>?_)
 ·have:=hz.1 hq
  have hk:=(H2 b _ _).1 hk
  exact⟨λ _=>hk,λ e=>by omega,λ e=>by omega,λ e=>by omega⟩
 have hn12:¬(a.Kind=1\/a.Kind=2):=λ e=>by rw [hz.2 e] at hq;cases hq
 refine Ok.andThen (A:=λ z=>z=true↔(a.Kind=3\/a.Kind=4)) (B:=λ (_:Unit)=>False) ?_ (λ z hz=>?_) (λ _ h=>h.elim)
 ·unfold Aj0
  refine c4 (λ hk=>d8 ?_) (λ hk=>d8 ?_)
  ·simp only [dy] at hk ⊢;omega
  ·simp only [dz,ne_eq] at hk
   simp only [dy];omega
 refine c4 (λ hq=>c5 λ hk=>?_) (λ hq=>?_)
 ·have:=hz.1 hq
  have hk:=(H2 b _ _).1 hk
  exact⟨λ e=>by omega,λ _=>hk,λ e=>by omega,λ e=>by omega⟩
 have hn34:¬(a.Kind=3\/a.Kind=4):=λ e=>by rw [hz.2 e] at hq;cases hq
 refine c4 (λ hq=>c5 λ hk=>?_) (λ hq5=>c4 (λ hq=>c5 λ _=>?_) (λ hq6=>c4 (λ hq=>c5 λ hk=>?_) (λ hq8=>c4 (λ hq=>c5 λ hk=>?_) (λ hq9=>c5 λ _=>?_))))
 ·simp only [dy] at hq
  have hk:=(H2 b _ _).1 hk
  exact⟨λ e=>by omega,λ e=>by omega,λ _=>hk,λ e=>by omega⟩
 ·simp only [dy] at hq
  exact⟨λ e=>by omega,λ e=>by omega,λ e=>by omega,λ e=>by omega⟩
 ·have hk:=(H2 b _ _).1 hk
  simp only [dy] at hq
  exact⟨λ e=>by omega,λ e=>by omega,λ e=>by omega,λ _=>hk⟩
 ·have hk:=(H2 b _ _).1 hk
  simp only [dy] at hq
  exact⟨λ e=>by omega,λ e=>by omega,λ e=>by omega,λ _=>hk⟩
 ·simp only [dz,ne_eq] at hq5 hq8 hq9
  exact⟨λ e=>by omega,λ e=>by omega,λ e=>by omega,λ e=>by omega⟩
theorem A6f {b:Aa} (h:Ar b) {p:Ab} (hp:Aq b p) {t:Int} (ht:0<=t/\t<=2147483648) {a:Ak} (hk:1<=a.Kind/\a.Kind<=9)
  (hw:((a.Kind=1\/a.Kind=2)->Cb b ⟨2,a.Unit⟩)/\((a.Kind=3\/a.Kind=4)->Cb b ⟨1,a.Unit⟩)/\(a.Kind=5->Cb b ⟨4,a.Unit⟩)/\((a.Kind=8\/a.Kind=9)->Cb b ⟨a.Value,a.Unit⟩)):Ok (Oq ⟨b,p,t⟩ a) (W7 b):=by
 obtain⟨w1,w2,w3,w4⟩:=hw
 unfold Cb at w2 w3
 dsimp only at w2 w3
 unfold Oq
 refine c4 (λ _=>(Ayl h hp _).bind λ y hy=>c5 hy) (λ q1=>?_)
 refine c4 (λ _=>(A08 h hp _).bind λ y hy=>c5 hy) (λ q2=>?_)
 refine c4 (λ _=>(Axl h hp _ _).bind λ y hy=>c5 hy) (λ q6=>?_)
 refine c4 (λ q=>?_) (λ q3=>?_)
 ·simp only [dy] at q
  exact (Awx h hp ht (by omega) (by omega)).bind λ y hy=>c5 hy
 refine c4 (λ q=>?_) (λ q4=>?_)
 ·simp only [dy] at q
  exact (A0t h hp (by omega) (by omega)).bind λ y hy=>c5 hy
 refine c4 (λ q=>?_) (λ q5=>?_)
 ·simp only [dy] at q
  exact (Axq hp (by omega) (by omega)).bind λ y hy=>c5 hy
 refine c4 (λ _=>(Alc h hp t).bind λ y hy=>c5 (.inr hy)) (λ q7=>?_)
 simp only [dz,ne_eq] at q1 q2 q3 q4 q5 q6 q7
 exact (A1n h hp t (w4 (by omega)) _).bind λ y hy=>c5 hy
theorem A48 {b:Aa} (h:Ar b) {p:Ab} (hp:Aq b p) (t:Int) (a:Ak):Ok (F27 b p t a) λ y=>(y.2≠0/\y.1=A3t)\/(y.2=0/\Aq b y.1):=by
 unfold F27
 rw [Cm h hp,D8 h hp]
 simp only [ab]
 refine c4 (λ hc=>by simp at hc) (λ _=>c4 (λ _=>c5 (.inl ⟨by simp,rfl⟩)) (λ hr=>?_))
 simp only [Ado,bv,dx] at hr
 refine (Axu a).bind λ y hy=>c4 (λ _=>c5 (.inl ⟨by simp,rfl⟩)) (λ hk=>?_)
 simp only [ct] at hk
 refine (A6f h hp (by omega) (by omega) (hy hk)).bind λ z hz=>c4 (λ hc=>c5 (.inl ⟨by simpa using hc,rfl⟩)) (λ hc=>?_)
 simp only [dC] at hc
 rcases hz with hz | hz
 ·exact absurd hc hz
 ·exact c5 (.inr ⟨rfl,hz⟩)

abbrev Da:=List (Ag×Bool)
def Tie (L:Da) (i j:Nat):Prop:=∃ z,z∈L/\z.1.Kind=1/\z.2=true/\((z.1.A.toNat=i/\z.1.B.toNat=j)\/(z.1.A.toNat=j/\z.1.B.toNat=i))
theorem Tie.symm {L:Da} {i j:Nat} (h:Tie L i j):Tie L j i:=by
 obtain⟨z,h1,h2,h3,h4⟩:=h
 exact⟨z,h1,h2,h3,h4.symm⟩
inductive C_ (L:Da) (i:Nat):Nat->Nat->Prop
 | refl:C_ L i 0 i
 | stay {r j:Nat}:C_ L i r j->C_ L i (r+1) j
 | step {r j k:Nat}:C_ L i r j->Tie L j k->C_ L i (r+1) k
def Bn (L:Da) (i j:Nat):Prop:=∃ r,C_ L i r j
theorem Bn.refl (L:Da) (i:Nat):Bn L i i:=⟨0,.refl⟩
theorem Bn.tie {L:Da} {i j k:Nat} (h:Bn L i j) (t:Tie L j k):Bn L i k:=by
 obtain⟨r,h⟩:=h;exact⟨r+1,h.step t⟩
theorem Bn.trans {L:Da} {i j k:Nat} (h:Bn L i j) (h2:Bn L j k):Bn L i k:=by
 obtain⟨r,h2⟩:=h2
 induction h2 with
 | refl=>exact h
 | stay _ ih=>exact ih
 | step _ t ih=>exact ih.tie t
theorem Bn.symm {L:Da} {i j:Nat} (h:Bn L i j):Bn L j i:=by
 obtain⟨r,h⟩:=h
 induction h with
 | refl=>exact .refl L i
 | stay _ ih=>exact ih
 | step _ t ih=>exact (Bn.tie (.refl L _) t.symm).trans ih
theorem C_.le {L:Da} {i j r s:Nat} (h:C_ L i r j) (hs:r<=s):C_ L i s j:=by
 induction s with
 | zero=>
  have:r=0:=by omega
  subst this;exact h
 | succ s ih=>
  by_cases e:r=s+1
  ·subst e;exact h
  ·exact (ih (by omega)).stay
open Classical in
noncomputable def cn (p:Nat->Prop):Nat->Nat
 | 0=>0
 | n+1=>cn p n+if p n then 1 else 0
theorem Azp (p:Nat->Prop):∀ n,cn p n<=n
 | 0=>au _
 | n+1=>by have:=Azp p n;unfold cn;split <;> omega
theorem zD {p q:Nat->Prop}:∀ n,(∀ k,k<n->p k->q k)->cn p n<=cn q n
 | 0,_=>au _
 | n+1,h=>by
  have:=zD n λ k hk=>h k (by omega)
  have h1:=h n (by omega)
  unfold cn
  by_cases hp:p n
  ·rw [if_pos hp,if_pos (h1 hp)];omega
  ·rw [if_neg hp];split <;> omega
theorem Aoq {p q:Nat->Prop}:∀ n,(∀ k,k<n->p k->q k)->cn p n=cn q n->∀ k,k<n->q k->p k
 | 0,_,_,k,hk,_=>by omega
 | n+1,h,e,k,hk,hq=>by
  have hm:=zD n λ k hk=>h k (by omega)
  have h1:=h n (by omega)
  unfold cn at e
  by_cases hp:p n
  ·rw [if_pos hp,if_pos (h1 hp)] at e
   by_cases ek:k=n
   ·subst ek;exact hp
   ·exact Aoq n (λ k hk=>h k (by omega)) (by omega) k (by omega) hq
  ·rw [if_neg hp] at e
   by_cases hqn:q n
   ·rw [if_pos hqn] at e;omega
   ·rw [if_neg hqn] at e
    by_cases ek:k=n
    ·subst ek;exact absurd hq hqn
    ·exact Aoq n (λ k hk=>h k (by omega)) (by omega) k (by omega) hq
def qZ (L:Da) (n:Nat):Prop:=∀ i j,Tie L i j->i<n/\j<n
theorem Rt {L:Da} {n i j:Nat} (hL:qZ L n) (_:i<n) (h:Bn L i j):C_ L i n j:=by
 have hst:∃ r,r<=n/\∀ k,k<n->C_ L i (r+1) k->C_ L i r k:=by
  by_cases hex:∃ r,r<=n/\∀ k,k<n->C_ L i (r+1) k->C_ L i r k
  ·exact hex
  exfalso
  have hgrow:∀ r,r<=n->cn (C_ L i r) n<cn (C_ L i (r+1)) n:=by
   intro r hr
   have hm:=zD (p:=C_ L i r) (q:=C_ L i (r+1)) n λ k _ h=>h.stay
   rcases Nat.lt_or_eq_of_le hm with h | h
   ·exact h
   ·exact absurd ⟨r,hr,Aoq n (λ k _ h=>h.stay) h⟩ hex
  have hge:∀ r,r<=n+1->r<=cn (C_ L i r) n:=by
   intro r
   induction r with
   | zero=>intro _;omega
   | succ r ih=>intro hr;have:=ih (by omega);have:=hgrow r (by omega);omega
  have h1:=hge (n+1) (au _)
  have h2:=Azp (C_ L i (n+1)) n
  omega
 obtain⟨r,hr,hs⟩:=hst
 obtain⟨s,h⟩:=h
 have key:∀ s k,C_ L i s k->C_ L i r k:=by
  intro s k h
  induction h with
  | refl=>exact C_.refl.le (by omega)
  | stay _ ih=>exact ih
  | step h0 t ih=>exact hs _ (hL _ _ t).2 (ih.step t)
 exact (key s j h).le hr
def Be (b:Aa) (p:Ab):Da:=b.Ad.zip p.Ae
theorem Pf {b:Aa} (h:Ar b) (p:Ab):qZ (Be b p) b.Am.toNat:=by
 rintro i j ⟨z,hz,hk,_,he⟩
 have:=h.br z.1 (bY hz).1
 unfold Jd at this
 omega
theorem Ax7 {s:List Int} {i:Nat} (h:i<s.length):s[i]? = some (s.getD i 0):=by
 rw [af h];simp [List.getD,List.getElem?_eq_getElem h]
theorem Ua {s:List Int} {z:Ag×Bool} {i:Nat} (hi:i<s.length):(D3 s z).getD i 0=if (z.1.Kind=1/\z.2=true)/\(i=z.1.A.toNat\/i=z.1.B.toNat) then min (s.getD z.1.A.toNat 0) (s.getD z.1.B.toNat 0) else s.getD i 0:=by
 unfold D3
 by_cases hk:z.1.Kind=1/\z.2=true
 ·rw [if_pos hk]
  by_cases hB:i=z.1.B.toNat
  ·rw [if_pos ⟨hk,.inr hB⟩]
   simp [List.getD,←hB,hi]
  ·by_cases hA:i=z.1.A.toNat
   ·rw [if_pos ⟨hk,.inl hA⟩]
    have h1:¬z.1.B.toNat=i:=λ e=>hB e.symm
    simp only [List.getD,aQ h1]
    rw [←hA,bE hi];rfl
   ·rw [if_neg (λ e=>e.2.elim hA hB)]
    have h1:¬z.1.B.toNat=i:=λ e=>hB e.symm
    have h2:¬z.1.A.toNat=i:=λ e=>hA e.symm
    simp only [List.getD,aQ h1,aQ h2]
 ·rw [if_neg hk,if_neg (λ e=>hk e.1)]
def Lab (L:Da) (s:List Int):Prop:=∀ i,i<s.length->Bn L (s.getD i 0).toNat i
theorem Atl {L:Da} {s:List Int} (h:Lab L s) {z:Ag×Bool} (hz:z∈L) (hr:z.1.Kind=1->z.1.A.toNat<s.length/\z.1.B.toNat<s.length):Lab L (D3 s z):=by
 intro i hi
 rw [Es] at hi
 rw [Ua hi]
 split
 ·rename_i hc
  obtain⟨⟨hk,hv⟩,hab⟩:=hc
  obtain⟨ha,hb⟩:=hr hk
  have tAB:Tie L z.1.A.toNat z.1.B.toNat:=⟨z,hz,hk,hv,.inl ⟨rfl,rfl⟩⟩
  have c1:=h _ ha
  have c2:=h _ hb
  rcases Int.le_total (s.getD z.1.A.toNat 0) (s.getD z.1.B.toNat 0) with e | e
  ·rw [Int.min_eq_left e]
   rcases hab with rfl | rfl
   ·exact c1
   ·exact c1.tie tAB
  ·rw [Int.min_eq_right e]
   rcases hab with rfl | rfl
   ·exact c2.tie tAB.symm
   ·exact c2
 ·exact h i hi
theorem Ri {L:Da} {n:Nat}:∀ (l:Da) (s:List Int),s.length=n->(∀ z,z∈l->z∈L/\(z.1.Kind=1->z.1.A.toNat<n/\z.1.B.toNat<n))->Lab L s->Lab L (Cn l s)
 | [],_,_,_,h=>h
 | z::l,s,hs,hz,h=>Ri l (D3 s z) (by rw [Es];exact hs) (λ y hy=>hz y (aj _ hy)) (Atl h (hz z ah).1 (by rw [hs];exact (hz z ah).2))
theorem Ub {s:List Int} (z:Ag×Bool) {i:Nat} (hi:i<s.length):(D3 s z).getD i 0<=s.getD i 0:=by
 rw [Ua hi]
 split
 ·rename_i hc
  rcases hc.2 with rfl | rfl
  ·exact Int.min_le_left _ _
  ·exact cJ _ _
 ·exact bu _
theorem Rj:∀ (l:Da) (s:List Int) {i:Nat},i<s.length->(Cn l s).getD i 0<=s.getD i 0
 | [],_,_,_=>bu _
 | z::l,s,i,hi=>cv (Rj l (D3 s z) (by rw [Es];exact hi)) (Ub z hi)
theorem jU:∀ (l:Da) (s:List Int) {z:Ag×Bool},z∈l->z.1.Kind=1->z.2=true->z.1.A.toNat<s.length->z.1.B.toNat<s.length->∀ i,i=z.1.A.toNat\/i=z.1.B.toNat->(Cn l s).getD i 0<=min (s.getD z.1.A.toNat 0) (s.getD z.1.B.toNat 0)
 | [],_,_,h,_,_,_,_,_,_=>by cases h
 | y::l,s,z,hz,hk,hv,ha,hb,i,hi=>by
  show (Cn l (D3 s y)).getD i 0<=_
  have hil:i<s.length:=by rcases hi with rfl | rfl <;> assumption
  by_cases e:z=y
  ·subst e
   refine cv (Rj l _ (by rw [Es];exact hil)) ?_
   rw [Ua hil,if_pos ⟨⟨hk,hv⟩,hi⟩]
   exact bu _
  ·have hz':z∈l:=by
    rcases ag.1 hz with h | h
    ·exact absurd h e
    ·exact h
   refine cv (jU l (D3 s y) hz' hk hv (by rw [Es];exact ha) (by rw [Es];exact hb) i hi) ?_
   have h1:=Ub y ha
   have h2:=Ub y hb
   omega
theorem Lj {n i:Nat} (h:i<n):(Cr n).getD i 0=(i:Int):=by
 simp [Cr,List.getD,List.getElem?_range h]
theorem Aob {L:Da} {n:Nat} (hL:qZ L n):∀ r i j,i<n->j<n->C_ L j r i->((List.range r).foldl (λ s _=>Cn L s) (Cr n)).getD i 0<=(j:Int):=by
 intro r
 have hlen:∀ r,((List.range r).foldl (λ s _=>Cn L s) (Cr n)).length=n:=by
  intro r
  induction r with
  | zero=>simp [Cr]
  | succ r ih=>rw [bp,aM];simp only [aY,List.foldl_nil,Fy];exact ih
 induction r with
 | zero=>
  intro i j hi hj h
  cases h
  show (Cr n).getD i 0<=_
  rw [Lj hi]
  exact bu _
 | succ r ih=>
  intro i j hi hj h
  have hrl:=hlen r
  rw [bp,aM]
  simp only [aY,List.foldl_nil]
  generalize (List.range r).foldl (λ s _=>Cn L s) (Cr n)=s at *
  cases h with
  | stay h=>exact cv (Rj L s (by omega)) (ih i j hi hj h)
  | step h t=>
   rename_i k
   have hk:=hL _ _ t
   have h1:=ih k j hk.1 hj h
   obtain⟨z,hz,hz1,hz2,he⟩:=t
   have hA:z.1.A.toNat<s.length:=by omega
   have hB:z.1.B.toNat<s.length:=by omega
   have h2:=jU L s hz hz1 hz2 hA hB i (by omega)
   rcases he with⟨e1,e2⟩ | ⟨e1,e2⟩
   ·rw [e1] at h2;omega
   ·rw [e2] at h2;omega
theorem F4 {b:Aa} (h:Ar b) (p:Ab) {i j:Nat} (hi:i<b.Am.toNat) (hj:j<b.Am.toNat):(groups b p).getD i 0=(groups b p).getD j 0↔Bn (Be b p) i j:=by
 have hL:=Pf h p
 have hlen:=Hb b p
 have hlab:Lab (Be b p) (groups b p):=by
  have hz:∀ z,z∈Be b p->z∈Be b p/\(z.1.Kind=1->z.1.A.toNat<b.Am.toNat/\z.1.B.toNat<b.Am.toNat):=by
   intro z hz
   refine⟨hz,λ hk=>?_⟩
   have:=h.br z.1 (bY hz).1
   unfold Jd at this
   omega
  have key:∀ (xs:List Nat) (s:List Int),s.length=b.Am.toNat->Lab (Be b p) s->Lab (Be b p) (xs.foldl (λ s _=>Cn (b.Ad.zip p.Ae) s) s):=by
   intro xs
   induction xs with
   | nil=>intro s _ h;exact h
   | cons x xs ih=>intro s hl h;exact ih _ (by rw [Fy];exact hl) (Ri _ s hl hz h)
  refine key _ _ (by simp [Cr]) ?_
  intro k hk
  have hk':k<b.Am.toNat:=by simpa [Cr] using hk
  rw [Lj hk']
  exact .refl _ k
 have hlow:∀ i j,i<b.Am.toNat->j<b.Am.toNat->Bn (Be b p) j i->(groups b p).getD i 0<=(j:Int):=λ i j hi hj hc=>Aob hL _ i j hi hj (Rt hL hj hc)
 have hlo:=Og h p
 have hrange:∀ i,i<b.Am.toNat->0<=(groups b p).getD i 0/\((groups b p).getD i 0).toNat<b.Am.toNat:=by
  intro i hi
  have:=hlo i _ (Ax7 (by omega))
  omega
 constructor
 ·intro e
  have c1:=hlab i (by omega)
  have c2:=hlab j (by omega)
  rw [e] at c1
  exact c1.symm.trans c2
 ·intro hc
  have r1:=hrange i hi
  have r2:=hrange j hj
  have c1:=hlab i (by omega)
  have c2:=hlab j (by omega)
  have l1:=hlow j _ hj r1.2 (c1.trans hc)
  have l2:=hlow i _ hi r2.2 (c2.trans hc.symm)
  omega
def Gi (s:List Bool) (z:Ag×Bool):List Bool:=
 if (z.1.Kind=1/\z.2=true)/\(s.getD z.1.A.toNat false || s.getD z.1.B.toNat false)=true then (s.set z.1.A.toNat true).set z.1.B.toNat true else s
theorem Fj (s:List Bool) (z:Ag×Bool):(Gi s z).length=s.length:=by unfold Gi;split <;> simp
def G9 (L:Da) (s:List Bool):List Bool:=L.foldl Gi s
theorem L3:∀ (l:Da) (s:List Bool),(G9 l s).length=s.length
 | [],_=>rfl
 | z::l,s=>by show (G9 l (Gi s z)).length=_;rw [L3 l,Fj]
theorem Aw3 {s:List Bool} {m i:Nat} (hi:i<s.length):(s.set m true).getD i false=(decide (m=i) || s.getD i false):=by
 by_cases e:m=i
 ·subst e;simp [List.getD,hi]
 ·simp [List.getD,List.getElem?_set_ne e,e]
theorem Lh {s:List Bool} {z:Ag×Bool} {i:Nat} (hi:i<s.length):(Gi s z).getD i false=true↔s.getD i false=true\/(((z.1.Kind=1/\z.2=true)/\(s.getD z.1.A.toNat false || s.getD z.1.B.toNat false)=true)/\(i=z.1.A.toNat\/i=z.1.B.toNat)):=by
 unfold Gi
 split
 ·rename_i hc
  rw [Aw3 (by simpa using hi),Aw3 hi,aJ,aJ,decide_eq_true_iff,decide_eq_true_iff]
  constructor
  ·rintro (e | e | e)
   ·exact .inr ⟨hc,.inr e.symm⟩
   ·exact .inr ⟨hc,.inl e.symm⟩
   ·exact .inl e
  ·rintro (e | ⟨_,e | e⟩)
   ·exact .inr (.inr e)
   ·exact .inr (.inl e.symm)
   ·exact .inl e.symm
 ·rename_i hc
  exact⟨.inl,λ e=>e.elim id λ e=>absurd e.1 hc⟩
def Got (L:Da) (n:Nat) (s:List Bool):Prop:=∀ i,i<s.length->s.getD i false=true->Bn L n i
theorem Asz {L:Da} {n:Nat} {s:List Bool} (h:Got L n s) {z:Ag×Bool} (hz:z∈L) (hr:z.1.Kind=1->z.1.A.toNat<s.length/\z.1.B.toNat<s.length):Got L n (Gi s z):=by
 intro i hi e
 rw [Fj] at hi
 rcases (Lh hi).1 e with e | ⟨⟨⟨hk,hv⟩,ho⟩,hab⟩
 ·exact h i hi e
 ·obtain⟨ha,hb⟩:=hr hk
  have t:Tie L z.1.A.toNat z.1.B.toNat:=⟨z,hz,hk,hv,.inl ⟨rfl,rfl⟩⟩
  simp only [aJ] at ho
  rcases ho with ho | ho
  ·have c:=h _ ha ho
   rcases hab with rfl | rfl
   ·exact c
   ·exact c.tie t
  ·have c:=h _ hb ho
   rcases hab with rfl | rfl
   ·exact c.tie t.symm
   ·exact c
theorem jA {L:Da} {n m:Nat}:∀ (l:Da) (s:List Bool),s.length=m->(∀ z,z∈l->z∈L/\(z.1.Kind=1->z.1.A.toNat<m/\z.1.B.toNat<m))->Got L n s->Got L n (G9 l s)
 | [],_,_,_,h=>h
 | z::l,s,hs,hz,h=>jA l (Gi s z) (by rw [Fj];exact hs) (λ y hy=>hz y (aj _ hy)) (Asz h (hz z ah).1 (by rw [hs];exact (hz z ah).2))
theorem Qw:∀ (l:Da) (s:List Bool) {i:Nat},i<s.length->s.getD i false=true->(G9 l s).getD i false=true
 | [],_,_,_,h=>h
 | z::l,s,_,hi,h=>Qw l (Gi s z) (by rw [Fj];exact hi) ((Lh hi).2 (.inl h))
theorem Z_:∀ (l:Da) (s:List Bool) {z:Ag×Bool},z∈l->z.1.Kind=1->z.2=true->z.1.A.toNat<s.length->z.1.B.toNat<s.length->(s.getD z.1.A.toNat false || s.getD z.1.B.toNat false)=true->∀ i,i=z.1.A.toNat\/i=z.1.B.toNat->(G9 l s).getD i false=true
 | [],_,_,h,_,_,_,_,_,_,_=>by cases h
 | y::l,s,z,hz,hk,hv,ha,hb,ho,i,hi=>by
  show (G9 l (Gi s y)).getD i false=true
  have hil:i<s.length:=by rcases hi with rfl | rfl <;> assumption
  by_cases e:z=y
  ·subst e
   exact Qw l _ (by rw [Fj];exact hil) ((Lh hil).2 (.inr ⟨⟨⟨hk,hv⟩,ho⟩,hi⟩))
  ·have hz':z∈l:=by
    rcases ag.1 hz with h | h
    ·exact absurd h e
    ·exact h
   refine Z_ l (Gi s y) hz' hk hv (by rw [Fj];exact ha) (by rw [Fj];exact hb) ?_ i hi
   simp only [aJ] at ho ⊢
   exact ho.imp (λ e=>(Lh ha).2 (.inl e)) (λ e=>(Lh hb).2 (.inl e))
def Li (L:Da) (r:Nat) (s:List Bool):List Bool:=(List.range r).foldl (λ s _=>G9 L s) s
theorem K5 (L:Da) (r:Nat) (s:List Bool):Li L (r+1) s=G9 L (Li L r s):=by
 unfold Li;rw [bp,aM];rfl
theorem Ib (L:Da) (s:List Bool):∀ r,(Li L r s).length=s.length
 | 0=>rfl
 | r+1=>by rw [K5,L3,Ib L s r]
theorem Anj {L:Da} {n m:Nat} (hL:qZ L m) {s:List Bool} (hs:s.length=m) (hn:s.getD n false=true):∀ r i,i<m->C_ L n r i->(Li L r s).getD i false=true:=by
 intro r
 induction r with
 | zero=>intro i _ h;cases h;exact hn
 | succ r ih=>
  intro i hi h
  rw [K5]
  have hl:=Ib L s r
  cases h with
  | stay h=>exact Qw L _ (by omega) (ih i hi h)
  | step h t=>
   rename_i k
   have hk:=hL _ _ t
   have h1:=ih k hk.1 h
   obtain⟨z,hz,hz1,hz2,he⟩:=t
   refine Z_ L _ hz hz1 hz2 (by omega) (by omega) ?_ i (by omega)
   rcases he with⟨e1,_⟩ | ⟨_,e2⟩
   ·rw [e1,h1];rfl
   ·rw [e2,h1];simp
def Jr (b:Aa) (p:Ab) (n:Nat):List Int:=((List.range b.Am.toNat).filter λ i=>(groups b p).getD i 0==(groups b p).getD n 0).map λ (i:Nat)=>(i:Int)
theorem Aw6 {b:Aa} (h:Ar b) {p:Ab} (hp:Aq b p) {n:Nat} (hn:n<b.Am.toNat):F98 b p (n:Int)=some (Jr b p n):=by
 have hbu:=h.buses
 have hbl:=h.brl
 have hncl:=hp.ncl
 have hL:=Pf h p
 refine cZ ?_
 unfold F98
 refine (Ok.mkI (by omega) (by omega)).bind λ y hy=>?_
 have hyl:y.length=b.Am.toNat:=by rw [hy];simp
 refine (d7 (by omega) (by omega)).bind λ _ _=>(cU (by omega) (by omega)).bind λ z hz=>?_
 rw [ai] at hz
 have hzl:z.length=b.Am.toNat:=by rw [hz];simpa using hyl
 have hzn:z.getD n false=true:=by rw [hz];simp [List.getD,hyl,hn]
 have hzg:Got (Be b p) n z:=by
  intro i hi e
  have hiy:i<y.length:=by omega
  rw [hz,Aw3 hiy] at e
  simp only [aJ,dw] at e
  rcases e with e | e
  ·subst e;exact .refl _ _
  ·rw [hy] at e;simp [List.getD,show i<b.Am.toNat by omega] at e
 clear hz
 refine Ok.andThen (A:=λ s=>s=Li (Be b p) b.Am.toNat z) (B:=λ (_:Unit)=>False) ?_ (λ s hs=>?_) (λ _ h=>h.elim)
 ·refine c7 (I:=λ j s=>s=Li (Be b p) j z) rfl (λ j x s hx hs=>?_) λ s hs=>by rw [hs,hzl]
  unfold Ajc
  have hsl:s.length=b.Am.toNat:=by rw [hs,Ib,hzl]
  refine (c7 (I:=λ k r=>r=G9 ((Be b p).take k) s) (A:=λ r=>r=G9 (Be b p) s) (B:=λ (_:Unit)=>False) rfl (λ k u r hu hr=>?_) λ r hr=>?_).inner (λ r hr=>c6 (by rw [hr,hs,K5])) (λ _ h=>h.elim)
  ·have hk:=(aa.1 hu).1
   have hcnt:cnt 0 k=(k:Int):=Cw (by omega)
   have hrl:r.length=b.Am.toNat:=by rw [hr,L3,hsl]
   obtain⟨⟨a0,a1⟩,hkind⟩:=h.br u (ae hu)
   obtain⟨v,hv⟩:∃ v,p.Ae[k]? = some v:=⟨_,af (by omega)⟩
   have hzk:(Be b p)[k]? = some (u,v):=by unfold Be;rw [List.getElem?_zip_eq_some];exact⟨hu,hv⟩
   have hnext:G9 ((Be b p).take (k+1)) s=Gi r (u,v):=by
    rw [Bg hzk,G9,aM,hr];rfl
   rw [hnext]
   have hB:u.Kind=1->0<=u.B/\u.B<b.Am:=λ e=>by omega
   unfold Ajb
   rw [hcnt,A8 hv]
   by_cases k1:u.Kind=1
   ·have h2:=hB k1
    obtain⟨ga,hga⟩:∃ ga,r[u.A.toNat]? = some ga:=⟨_,af (by omega)⟩
    obtain⟨gb,hgb⟩:∃ gb,r[u.B.toNat]? = some gb:=⟨_,af (by omega)⟩
    have hda:r.getD u.A.toNat false=ga:=by simp [List.getD,hga]
    have hdb:r.getD u.B.toNat false=gb:=by simp [List.getD,hgb]
    have ea:getI r u.A=some ga:=by have:=A8 hga;rwa [aK a0] at this
    have eb:getI r u.B=some gb:=by have:=A8 hgb;rwa [aK h2.1] at this
    rw [dy.2 k1]
    refine Ok.bind (P:=λ w=>w=v) (cT (λ _=>c5 rfl) λ hn=>(hn ⟨rfl,trivial⟩).elim) λ w hw=>?_
    subst hw
    cases w with
    | false=>
     refine Ok.bind (P:=λ _=>True) (d5 (λ _=>d7 a0 (by omega)) λ _=>trivial) λ _ _=>?_
     refine Ok.bind (P:=λ _=>True) (d5 (λ _=>d7 h2.1 (by omega)) λ _=>trivial) λ _ _=>?_
     refine c4 (λ hq=>by simp [qQ] at hq) (λ _=>c6 ?_)
     unfold Gi
     rw [if_neg (by simp)]
    | true=>
     rw [ea,eb]
     refine Ok.bind (P:=λ w=>w=ga) (cT (λ _=>c5 rfl) λ hn=>(hn ⟨rfl,trivial⟩).elim) λ w hw=>?_
     subst hw
     refine Ok.bind (P:=λ x=>(w || x)=(w || gb)) (cT (λ _=>c5 rfl) λ hn=>?_) λ x hx=>?_
     ·cases w with
      | true=>rfl
      | false=>exact (hn ⟨rfl,rfl,trivial⟩).elim
     have hc8:qQ u true w x=(w || gb):=by
      unfold qQ
      rw [hx,dy.2 k1];rfl
     rw [hc8]
     refine c4 (λ hq=>?_) (λ hq=>c6 ?_)
     ·refine Ok.bind (P:=λ _=>True) (dg rfl) λ _ _=>(cU a0 (by omega)).bind λ r1 e1=>?_
      refine (d7 h2.1 (by rw [e1];simp;omega)).bind λ _ _=>(cU h2.1 (by rw [e1];simp;omega)).bind λ r2 e2=>c6 ?_
      rw [e2,e1]
      unfold Gi
      rw [if_pos ⟨⟨k1,rfl⟩,by rw [hda,hdb];exact hq⟩]
     ·unfold Gi
      rw [if_neg (λ e=>by have:=e.2;rw [hda,hdb,hq] at this;cases this)]
   ·have k0:(u.Kind==1)=false:=dz.2 k1
    rw [k0]
    refine Ok.bind (P:=λ _=>True) (cT (λ hg=>absurd hg.1 (by simp)) λ _=>trivial) λ y7 _=>?_
    refine Ok.bind (P:=λ _=>True) (cT (λ hg=>absurd hg.1 (by simp)) λ _=>trivial) λ y9 _=>?_
    refine Ok.bind (P:=λ _=>True) (cT (λ hg=>absurd hg.1 (by simp)) λ _=>trivial) λ y11 _=>?_
    refine c4 (λ hq=>by simp [qQ,k0] at hq) (λ _=>c6 ?_)
    unfold Gi
    rw [if_neg (λ e=>k1 e.1.1)]
  ·have:b.Ad.length=(Be b p).length:=by unfold Be;rw [List.length_zip];omega
   rw [hr,this,ay]
 ·have hsl:s.length=b.Am.toNat:=by rw [hs,Ib,hzl]
  have hval:∀ i,i<b.Am.toNat->s.getD i false=((groups b p).getD i 0==(groups b p).getD n 0):=by
   intro i hi
   rw [bf,dy,F4 h p hi hn]
   have hg:∀ r,Got (Be b p) n (Li (Be b p) r z):=by
    intro r
    induction r with
    | zero=>exact hzg
    | succ r ih=>
     rw [K5]
     refine jA (m:=b.Am.toNat) _ _ (by rw [Ib,hzl]) (λ y hy=>⟨hy,λ hk=>?_⟩) ih
     have:=h.br y.1 (bY hy).1
     unfold Jd at this
     omega
   constructor
   ·intro e
    rw [hs] at e
    exact (hg _ i (by rw [Ib,hzl];exact hi) e).symm
   ·intro c
    rw [hs]
    exact Anj hL hzl hzn _ i hi (Rt hL hn c.symm)
  refine Ok.andThen (A:=λ y=>y=Jr b p n) (B:=λ (_:Unit)=>False) ?_ (λ y hy=>c5 hy) (λ _ h=>h.elim)
  refine c7 (I:=λ j y=>y=((List.range j).filter λ i=>(groups b p).getD i 0==(groups b p).getD n 0).map λ (i:Nat)=>(i:Int)) rfl (λ j x y hx hy=>?_) λ y hy=>?_
  ·have hj:=(aa.1 hx).1
   have hcnt:cnt 0 j=(j:Int):=Cw (by omega)
   have hv:=hval j (by omega)
   have hxd:s.getD j false=x:=by simp [List.getD,hx]
   rw [hxd] at hv
   have hyl2:y.length<=j:=by rw [hy];exact De _ j
   rw [Ea,←hy]
   unfold Aja
   refine c4 (λ hq=>?_) (λ hq=>c6 ?_)
   ·refine (cV (by simp;omega)).bind λ w hw=>c6 ?_
    rw [hw,hcnt,if_pos (by rw [←hv];exact hq)]
   ·rw [if_neg (by rw [←hv,hq];simp),aG]
  ·rw [hy,hsl];rfl
def ofZ (b:Aa) (k i:Int):List (Ag×Nat):=b.Ad.zipIdx.filter λ z=>z.1.Kind==k&&z.1.B==i
theorem Ant {b:Aa} {k:Int} (hk:k≠1) (i:Int):(ofL b λ x=>Hv k i x)=(ofZ b k i).map λ z=>(z.2:Int):=by
 unfold ofL ofZ
 congr 1
 exact cu λ z _=>Agg k hk i z.1
theorem Pn {b:Aa} {k i:Int} {z:Ag×Nat} (h:z∈ofZ b k i):b.Ad[z.2]? = some z.1:=by
 have:=(an.1 h).1
 rwa [bx] at this
theorem Aee (q:Ag->Bool) (C:List Bool):∀ (l:List Ag) (c:List Bool) (k:Nat),C.drop k=c->l.length=c.length ->
  (((l.zipIdx k).filter λ z=>q z.1).find? λ z=>C.getD z.2 false).map (·.1)=((l.zip c).find? λ z=>q z.1&&z.2).map (·.1)
 | [],_,_,_,_=>by simp
 | x::l,[],_,_,h=>by simp at h
 | x::l,v::c,k,hd,h=>by
  have hv:C[k]? = some v:=by
   have:=congrArg (·[0]?) hd
   simpa [List.getElem?_drop] using this
  have hd':C.drop (k+1)=c:=by rw [←bO,hd];rfl
  have ih:=Aee q C l c (k+1) hd' (by simpa using h)
  have hg:C.getD k false=v:=by simp [List.getD,hv]
  simp only [List.zipIdx_cons,bl,bD,cj]
  cases hq:q x with
  | false=>simpa only [Bool.false_and,bM,if_false] using ih
  | true=>
   simp only [if_true,cj,hg,aO]
   cases v with
   | false=>exact ih
   | true=>rfl
theorem T5 {b:Aa} {p:Ab} (hc:p.Ae.length=b.Ad.length) (k i:Int):By b p k i=((ofZ b k i).find? λ z=>p.Ae.getD z.2 false).map (·.1.A):=by
 have:=Aee (λ x=>x.Kind==k&&x.B==i) p.Ae b.Ad p.Ae 0 rfl (by omega)
 unfold By ofZ
 have h2:=congrArg (Option.map (·.A)) this
 simp only [Option.map_map] at h2
 exact h2.symm
theorem qJ {b:Aa} {p:Ab} (hc:p.Ae.length=b.Ad.length) {k i:Int} {z:Ag×Nat} (h:z∈ofZ b k i):p.Ae[z.2]? = some (p.Ae.getD z.2 false):=by
 have:=(aa.1 (Pn h)).1
 rw [af (by omega)]
 simp [List.getD,List.getElem?_eq_getElem (show z.2<p.Ae.length by omega)]
theorem zC {b:Aa} (h:Ar b) {p:Ab} (hp:Aq b p) (i:Int):F52 b p i=some (Dd (Cy b p i)):=by
 have hn:=hp.nso
 have hc:=hp.ncl
 refine cZ ?_
 unfold F52
 rw [H1 h hp]
 simp only [ab]
 by_cases hi:0<=i/\i<b.Ac.length
 ·obtain⟨x,hx⟩:∃ x,p.Ac[i.toNat]? = some x:=⟨_,af (by omega)⟩
  have hg:getI p.Ac i=some x:=by have:=A8 hx;rwa [aK hi.1] at this
  have hd:p.Ac.getD i.toNat default=x:=by simp [List.getD,hx]
  have hcond:((((0:Int) != 0) || (decide (i<0))) || (decide (i>=(b.Ac.length:Int))))=false:=by
   rw [cG];intro e;simp at e;omega
  rw [hcond,hg]
  refine Ok.bind (P:=λ y=>y=x) (cT (λ _=>c5 rfl) λ hn=>(hn ⟨rfl,trivial⟩).elim) λ y hy=>?_
  subst hy
  refine c4 (λ hq=>c5 ?_) (λ hq=>?_)
  ·simp only [Adn,hcond,aU,dE,ne_eq] at hq
   unfold Cy
   rw [if_neg (λ e=>by rw [hd] at e;exact hq e.2.2)];rfl
  ·simp only [Adn,hcond,aU,dC] at hq
   have hcon:Cy b p i=By b p 2 i:=by
    unfold Cy
    rw [if_pos ⟨hi.1,by omega,by rw [hd];exact hq⟩]
   rw [X2 h,Ant (by decide),hcon,T5 hc]
   simp only [ab]
   obtain⟨n,rfl⟩:∃ n:Nat,i=(n:Int):=⟨i.toNat,by omega⟩
   have hlen:=vZ (b:=b) (k:=2) (by decide) n
   rw [Ant (by decide),h.one n (by omega),ax] at hlen
   obtain⟨z,hz⟩:=List.length_eq_one_iff.1 hlen
   have hzm:z∈ofZ b 2 (n:Int):=by rw [hz];exact ah
   have hcz:=qJ hc hzm
   have hbz:=Pn hzm
   rw [hz]
   show Ok ((getI [(z.2:Int)] 0).bind _) _
   rw [show getI [(z.2:Int)] 0=some (z.2:Int) from rfl]
   simp only [ab,A8 hcz,cj,List.find?_nil]
   cases hv:p.Ae.getD z.2 false with
   | false=>exact c5 rfl
   | true=>
    simp only [bi,cond_false,A8 hbz,ab]
    exact c5 rfl
 ·refine Ok.bind (P:=λ _=>True) (cT (λ hg=>?_) λ _=>trivial) λ y _=>?_
  ·have:=hg.1
   simp at this;omega
  refine c4 (λ hq=>c5 ?_) (λ hq=>?_)
  ·unfold Cy
   rw [if_neg (λ e=>hi (by omega))];rfl
  ·simp [Adn] at hq;omega
theorem X8 {b:Aa} (h:Ar b) {p:Ab} (hp:Aq b p) {i:Int} (h0:0<=i) (h1:i<b.Af.length):F13 b p i=some (Dd (By b p 3 i)):=by
 have hc:=hp.ncl
 refine cZ ?_
 unfold F13
 rw [H1 h hp]
 simp only [ab]
 refine c4 (λ hq=>?_) (λ _=>?_)
 ·simp [A0a] at hq;omega
 rw [X2 h,Ant (by decide),T5 hc]
 simp only [ab]
 have key:∀ (m:List (Ag×Nat)) (k:Nat),(∀ z,z∈m->b.Ad[z.2]? = some z.1/\p.Ae[z.2]? = some (p.Ae.getD z.2 false)) ->
   foldI (vA b p) (m.map λ z=>(z.2:Int)) k ()=match m.find? λ z=>p.Ae.getD z.2 false with
    | some z=>some (.ret (z.1.A,true))
    | none=>some (.next ()):=by
  intro m
  induction m with
  | nil=>intro k _;rfl
  | cons z m ih=>
   intro k hm
   obtain⟨e1,e2⟩:=hm z ah
   simp only [bJ,foldI,vA,A8 e1,A8 e2,ab,cj]
   cases p.Ae.getD z.2 false with
   | true=>rfl
   | false=>exact ih (k+1) λ y hy=>hm y (aj _ hy)
 rw [key _ 0 λ z hz=>⟨Pn hz,qJ hc hz⟩]
 cases (ofZ b 3 i).find? λ z=>p.Ae.getD z.2 false with
 | none=>exact c5 rfl
 | some z=>exact c5 rfl
theorem jT (l:List Int) (x:Int):F53 l x=some (l.any (· == x)):=by
 unfold F53
 have:∀ (l:List Int) (k:Nat),foldI (uL x) l k ()=bif l.any (· == x) then some (.ret true) else some (.next ()):=by
  intro l
  induction l with
  | nil=>intro k;rfl
  | cons y l ih=>
   intro k
   simp only [foldI,uL,List.any_cons]
   cases hy:(y==x) with
   | true=>rfl
   | false=>simp only [cond_false,aU];exact ih (k+1)
 rw [this]
 cases l.any (· == x) <;> rfl
theorem Afp {b:Aa} {p:Ab} {n:Nat} {a:Int} (h0:0<=a) (h1:a<b.Am):(Jr b p n).any (· == a)=((groups b p).getD a.toNat 0==(groups b p).getD n 0):=by
 rw [bf,b9]
 constructor
 ·rintro⟨x,hx,e⟩
  rw [dy] at e;subst e
  obtain⟨i,hi,rfl⟩:=am.1 hx
  rw [ai]
  exact (an.1 hi).2
 ·intro e
  refine⟨a,am.2 ⟨a.toNat,an.2 ⟨aH.2 (by omega),e⟩,by omega⟩,by simp⟩
theorem Gy {b:Aa} (h:Ar b) (p:Ab) {n:Nat} (hn:n<b.Am.toNat):0<=(groups b p).getD n 0/\((groups b p).getD n 0).toNat<=n/\(((groups b p).getD n 0).toNat:Int)=(groups b p).getD n 0:=by
 have:=Og h p n _ (Ax7 (by rw [Hb];exact hn))
 omega
theorem V3 {b:Aa} (h:Ar b) {p:Ab} (hp:Aq b p) {n:Nat} (hn:n<b.Am.toNat):F50 b p (n:Int)=some (isl b p ((groups b p).getD n 0).toNat,true):=by
 have hso:=h.sol
 have hco:=h.col
 have hg:=Gy h p hn
 refine cZ ?_
 unfold F50
 rw [H1 h hp]
 simp only [ab]
 refine c4 (λ hc=>?_) (λ _=>?_)
 ·simp [Az6] at hc;omega
 rw [Aw6 h hp hn]
 simp only [ab]
 refine Ok.andThen (A:=λ s=>s.2=El b p b.Ac.length ((groups b p).getD n 0).toNat) (B:=λ (_:Unit)=>False) ?_ (λ s hs=>?_) (λ _ h=>h.elim)
 ·refine c9 (λ s=>(0<=s.1/\s.1<=(b.Ac.length:Int))/\s.2=El b p s.1.toNat ((groups b p).getD n 0).toNat) (λ s=>((b.Ac.length:Int)-s.1).toNat) _ _ ?_ ?_ ?_
  ·exact⟨by dsimp only;omega,rfl⟩
  ·dsimp only;omega
  ·rintro⟨i,s⟩ ⟨⟨g1,g2⟩,g3⟩
   dsimp only at g1 g2 g3
   unfold Aj4 Az5
   dsimp only
   have hsl:s.length<=i.toNat:=by rw [g3];exact De _ _
   refine c4 (λ hq=>?_) (λ hq=>cW ?_)
   ·simp only [dw] at hq
    have e1:w64 (i+1)=i+1:=A6 (by omega)
    have e2:(i+1).toNat=i.toNat+1:=by omega
    have e3:((i.toNat:Nat):Int)=i:=by omega
    rw [e1,zC h hp]
    simp only [ab,jT]
    have hnext:El b p (i.toNat+1) ((groups b p).getD n 0).toNat=s++if (Dr b p (Cy b p i)==some (((groups b p).getD n 0).toNat:Int))=true then [i] else []:=by
     unfold El at g3 ⊢
     rw [Ea,←g3,e3]
    have hskip:(Dr b p (Cy b p i)==some (((groups b p).getD n 0).toNat:Int))=false->Ok (some (.next (i+1,s)):Option (Ctl (Int×List Int) Unit)) (Hp (λ s'=>((0<=s'.1/\s'.1<=(b.Ac.length:Int))/\s'.2=El b p s'.1.toNat ((groups b p).getD n 0).toNat)/\((b.Ac.length:Int)-s'.1).toNat<((b.Ac.length:Int)-i).toNat) (λ s=>s.2=El b p b.Ac.length ((groups b p).getD n 0).toNat) (λ _=>False)):=by
     intro hf
     refine c6 ⟨⟨by dsimp only;omega,?_⟩,by dsimp only;omega⟩
     dsimp only
     rw [e2,hnext,hf];simp
    cases hco:Cy b p i with
    | none=>
     refine Ok.bind (P:=λ _=>True) (cT (λ hg=>absurd hg.1 (by simp [Dd])) λ _=>trivial) λ y _=>?_
     refine c4 (λ hq=>by simp [Dd] at hq) (λ _=>hskip (by rw [hco];rfl))
    | some a=>
     have ha:=Kw h hco
     refine Ok.bind (P:=λ y=>y=(Jr b p n).any (· == a)) (cT (λ _=>c5 rfl) λ hn=>(hn ⟨rfl,trivial⟩).elim) λ y hy=>?_
     rw [Afp ha.1 ha.2] at hy
     have hgr:(Dr b p (Cy b p i)==some (((groups b p).getD n 0).toNat:Int))=((groups b p).getD a.toNat 0==(groups b p).getD n 0):=by
      rw [hco,hg.2.2];rfl
     refine c4 (λ hq=>?_) (λ hq=>?_)
     ·simp only [Dd,aO] at hq
      refine (cV (by simp;omega)).bind λ w hw=>c6 ⟨⟨by dsimp only;omega,?_⟩,by dsimp only;omega⟩
      dsimp only
      rw [e2,hnext,hgr,←hy,hq,hw];rfl
     ·simp only [Dd,aO] at hq
      exact hskip (by rw [hgr,←hy,hq])
   ·simp only [dx] at hq
    dsimp only
    rw [g3]
    have:i.toNat=b.Ac.length:=by omega
    rw [this]
 ·refine Ok.andThen (A:=λ s=>s.2=Gb b p b.Af.length ((groups b p).getD n 0).toNat) (B:=λ (_:Unit)=>False) ?_ (λ t ht=>c5 ?_) (λ _ h=>h.elim)
  ·refine c9 (λ s=>(0<=s.1/\s.1<=(b.Af.length:Int))/\s.2=Gb b p s.1.toNat ((groups b p).getD n 0).toNat) (λ s=>((b.Af.length:Int)-s.1).toNat) _ _ ?_ ?_ ?_
   ·exact⟨by dsimp only;omega,rfl⟩
   ·dsimp only;omega
   ·rintro⟨i,s⟩ ⟨⟨g1,g2⟩,g3⟩
    dsimp only at g1 g2 g3
    unfold Aj3 Az4
    dsimp only
    have hsl:s.length<=i.toNat:=by rw [g3];exact De _ _
    refine c4 (λ hq=>?_) (λ hq=>cW ?_)
    ·simp only [dw] at hq
     have e1:w64 (i+1)=i+1:=A6 (by omega)
     have e2:(i+1).toNat=i.toNat+1:=by omega
     have e3:((i.toNat:Nat):Int)=i:=by omega
     rw [e1,X8 h hp g1 hq]
     simp only [ab,jT]
     have hnext:Gb b p (i.toNat+1) ((groups b p).getD n 0).toNat=s++if (Dr b p (By b p 3 i)==some (((groups b p).getD n 0).toNat:Int))=true then [i] else []:=by
      unfold Gb at g3 ⊢
      rw [Ea,←g3,e3]
     have hskip:(Dr b p (By b p 3 i)==some (((groups b p).getD n 0).toNat:Int))=false->Ok (some (.next (i+1,s)):Option (Ctl (Int×List Int) Unit)) (Hp (λ s'=>((0<=s'.1/\s'.1<=(b.Af.length:Int))/\s'.2=Gb b p s'.1.toNat ((groups b p).getD n 0).toNat)/\((b.Af.length:Int)-s'.1).toNat<((b.Af.length:Int)-i).toNat) (λ s=>s.2=Gb b p b.Af.length ((groups b p).getD n 0).toNat) (λ _=>False)):=by
      intro hf
      refine c6 ⟨⟨by dsimp only;omega,?_⟩,by dsimp only;omega⟩
      dsimp only
      rw [e2,hnext,hf];simp
     cases hco:By b p 3 i with
     | none=>
      refine Ok.bind (P:=λ _=>True) (cT (λ hg=>absurd hg.1 (by simp [Dd])) λ _=>trivial) λ y _=>?_
      refine c4 (λ hq=>by simp [Dd] at hq) (λ _=>hskip (by rw [hco];rfl))
     | some a=>
      have ha:=Ja h hco
      refine Ok.bind (P:=λ y=>y=(Jr b p n).any (· == a)) (cT (λ _=>c5 rfl) λ hn=>(hn ⟨rfl,trivial⟩).elim) λ y hy=>?_
      rw [Afp ha.1 ha.2] at hy
      have hgr:(Dr b p (By b p 3 i)==some (((groups b p).getD n 0).toNat:Int))=((groups b p).getD a.toNat 0==(groups b p).getD n 0):=by
       rw [hco,hg.2.2];rfl
      refine c4 (λ hq=>?_) (λ hq=>?_)
      ·simp only [Dd,aO] at hq
       refine (cV (by simp;omega)).bind λ w hw=>c6 ⟨⟨by dsimp only;omega,?_⟩,by dsimp only;omega⟩
       dsimp only
       rw [e2,hnext,hgr,←hy,hq,hw];rfl
      ·simp only [Dd,aO] at hq
       exact hskip (by rw [hgr,←hy,hq])
    ·simp only [dx] at hq
     dsimp only
     rw [g3]
     have:i.toNat=b.Af.length:=by omega
     rw [this]
  ·rw [hs,ht]
   unfold isl D0 Jr
   rw [hg.2.2]
def H4 (b:Aa) (p:Ab) (f:Nat):Bool:=(groups b p).getD f 0==(f:Int)
theorem Ii {b:Aa} (h:Ar b) (p:Ab) {n:Nat} (hn:n<b.Am.toNat):H4 b p ((groups b p).getD n 0).toNat=true:=by
 have hg:=Gy h p hn
 unfold H4
 rw [dy,hg.2.2]
 have hm:((groups b p).getD n 0).toNat<b.Am.toNat:=by omega
 have hL:=Pf h p
 have hself:Bn (Be b p) ((groups b p).getD n 0).toNat n:=by
  have hlab:∀ (xs:List Nat) (s:List Int),s.length=b.Am.toNat->Lab (Be b p) s->Lab (Be b p) (xs.foldl (λ s _=>Cn (b.Ad.zip p.Ae) s) s):=by
   intro xs
   induction xs with
   | nil=>intro s _ h;exact h
   | cons x xs ih=>
    intro s hl h2
    refine ih _ (by rw [Fy];exact hl) (Ri _ s hl (λ z hz=>⟨hz,λ hk=>?_⟩) h2)
    have:=h.br z.1 (bY hz).1
    unfold Jd at this
    omega
  refine hlab (List.range b.Am.toNat) (Cr b.Am.toNat) (by simp [Cr]) ?_ n ?_
  ·intro k hk
   rw [Lj (by simpa [Cr] using hk)]
   exact .refl _ k
  ·have:=Hb b p
   unfold groups at this
   rw [this];exact hn
 exact (F4 h p hm hn).2 hself
theorem Ax8 {b:Aa} (h:Ar b) (p:Ab) {f:Nat} (hf:f<b.Am.toNat):Iw (isl b p f)=H4 b p f:=by
 rw [bf]
 unfold Iw isl D0
 simp only [aC,dz,ne_eq,ax]
 constructor
 ·intro e
  have hne:(List.range b.Am.toNat).filter (λ i=>(groups b p).getD i 0==(f:Int))≠[]:=λ e2=>e (by rw [e2];rfl)
  obtain⟨i,hi⟩:=List.exists_mem_of_ne_nil _ hne
  obtain⟨h1,h2⟩:=an.1 hi
  rw [dy] at h2
  have:=Ii h p (aH.1 h1)
  rw [h2,ai] at this
  exact this
 ·intro e e2
  have hm:f∈(List.range b.Am.toNat).filter (λ i=>(groups b p).getD i 0==(f:Int)):=an.2 ⟨aH.2 hf,e⟩
  have:=List.length_pos_iff.2 (List.ne_nil_of_mem hm)
  omega
def K8 (b:Aa) (p:Ab) (n:Nat):List Nat:=(List.range n).filter (H4 b p)
theorem Fx {b:Aa} (h:Ar b) (p:Ab):Bd b p=(K8 b p b.Am.toNat).map (isl b p):=by
 unfold Bd K8
 rw [List.filter_map]
 congr 1
 exact cu λ f hf=>Ax8 h p (aH.1 hf)
theorem Arb {b:Aa} (h:Ar b) (p:Ab) {n:Nat} (hn:n<b.Am.toNat):∃ m:Nat,(Jr b p n)[0]? = some (m:Int)/\(m=n↔H4 b p n=true):=by
 have hg:=Gy h p hn
 have hm:((groups b p).getD n 0).toNat<b.Am.toNat:=by omega
 have hgg:=Ii h p hn
 unfold H4 at hgg
 rw [dy,hg.2.2] at hgg
 have hfind:(List.range b.Am.toNat).find? (λ i=>(groups b p).getD i 0==(groups b p).getD n 0)=some ((groups b p).getD n 0).toNat:=by
  rw [List.find?_range_eq_some]
  refine⟨by rw [dy];exact hgg,aH.2 hm,λ j hj=>?_⟩
  simp only [aC,dz,ne_eq]
  intro e
  have:=Gy h p (n:=j) (by omega)
  omega
 refine⟨((groups b p).getD n 0).toNat,?_,?_⟩
 ·unfold Jr
  rw [az,←List.head?_eq_getElem?,List.head?_filter,hfind];rfl
 ·unfold H4
  rw [dy];omega
theorem T7 {b:Aa} (h:Ar b) {p:Ab} (hp:Aq b p):F21 b p=some (Bd b p):=by
 have hbu:=h.buses
 rw [Fx h]
 refine cZ ?_
 unfold F21
 rw [H1 h hp]
 simp only [ab]
 refine c4 (λ hc=>by simp at hc) (λ _=>?_)
 refine Ok.andThen (A:=λ s=>s.2=(K8 b p b.Am.toNat).map (isl b p)) (B:=λ (_:Unit)=>False) ?_ (λ s hs=>c5 hs) (λ _ h=>h.elim)
 refine c9 (λ s=>(0<=s.1/\s.1<=b.Am)/\s.2=(K8 b p s.1.toNat).map (isl b p)) (λ s=>(b.Am-s.1).toNat) _ _ ?_ ?_ ?_
 ·exact⟨by dsimp only;omega,rfl⟩
 ·dsimp only;omega
 ·rintro⟨i,s⟩ ⟨⟨g1,g2⟩,g3⟩
  dsimp only at g1 g2 g3
  unfold Akd
  dsimp only
  refine c4 (λ hq=>?_) (λ hq=>cW ?_)
  ·simp only [dw] at hq
   obtain⟨n,rfl⟩:∃ n:Nat,i=(n:Int):=⟨i.toNat,by omega⟩
   have hn:n<b.Am.toNat:=by omega
   have e1:w64 ((n:Int)+1)=(n:Int)+1:=A6 (by omega)
   have e2:((n:Int)+1).toNat=n+1:=by omega
   have hg:=Gy h p hn
   obtain⟨m,hm,hmn⟩:=Arb h p hn
   have hbuses:(isl b p ((groups b p).getD n 0).toNat).Am=Jr b p n:=by
    unfold isl D0 Jr
    rw [hg.2.2]
   rw [ai] at g3
   have hsl:s.length<=n:=by
    rw [g3,ax]
    exact aA (bh _ _) (by simp)
   have hnext:K8 b p (n+1)=K8 b p n++if H4 b p n=true then [n] else []:=by
    unfold K8
    rw [bp,bk]
    congr 1
    cases hq:H4 b p n <;> simp [hq]
   rw [e1,V3 h hp hn]
   simp only [ab,hbuses]
   have hg0:getI (Jr b p n) 0=some (m:Int):=A8 (j:=0) hm
   rw [hg0]
   simp only [ab]
   refine c4 (λ hq=>?_) (λ hq=>c6 ⟨⟨by dsimp only;omega,?_⟩,by dsimp only;omega⟩)
   ·simp only [dy] at hq
    have hle:=hmn.1 (by omega)
    refine (cV (by simp;omega)).bind λ w hw=>c6 ⟨⟨by dsimp only;omega,?_⟩,by dsimp only;omega⟩
    dsimp only
    have hgn:((groups b p).getD n 0).toNat=n:=by
     unfold H4 at hle
     rw [dy] at hle;omega
    rw [e2,hnext,if_pos hle,hw,g3,bm,hgn];rfl
   ·simp only [dz,ne_eq] at hq
    have hle:¬H4 b p n=true:=λ e=>hq (by rw [hmn.2 e])
    dsimp only
    rw [e2,hnext,if_neg hle,aG,g3]
  ·simp only [dx] at hq
   dsimp only
   have:i.toNat=b.Am.toNat:=by omega
   rw [g3,this]
theorem Ak1 {b:Aa} (h:Ar b) {p:Ab} (hp:Aq b p):Aaf b p=some (⟨p.Ae,D_ b p,p.Al,p.Ah⟩,0):=by
 have hn:=hp.nso
 refine cZ ?_
 unfold Aaf
 rw [H1 h hp]
 simp only [ab]
 refine c4 (λ hc=>by simp at hc) (λ _=>?_)
 refine Ok.bind (P:=λ y=>y=⟨p.Ae,D_ b p,p.Al,p.Ah⟩) ?_ λ y hy=>c5 (by rw [hy])
 unfold Aqm
 rw [zA h hp,T7 h hp]
 simp only [ab]
 refine Ok.andThen (A:=λ s=>s=D_ b p) (B:=λ (_:Unit)=>False) ?_ (λ s hs=>c5 (by rw [hs])) (λ _ h=>h.elim)
 refine c7 (I:=λ j s=>s=((Bd b p).take j).foldl (Dc p) p.Ac) rfl (λ j x s hx hs=>?_) λ s hs=>?_
 ·have hi:=Wd (ae hx)
  have hl:s.length=p.Ac.length:=by rw [hs,K_]
  have hnext:((Bd b p).take (j+1)).foldl (Dc p) p.Ac=Dc p s x:=by rw [Bg hx,aM,←hs];rfl
  rw [hnext]
  unfold zY
  cases hsrc:x.Ac with
  | nil=>exact c6 (by unfold Dc;rw [hsrc])
  | cons m l=>
   have hm:=hi m (by rw [hsrc];exact ah)
   obtain⟨u,hu⟩:∃ u,p.Ac[m.toNat]? = some u:=⟨_,af (by omega)⟩
   have hgu:getI p.Ac m=some u:=by have:=A8 hu;rwa [aK hm.1] at this
   have hd:p.Ac.getD m.toNat default=u:=by simp [List.getD,hu]
   have hf:Dc p s x=Ew u (m::l) s:=by unfold Dc;rw [hsrc];simp only [hd]
   rw [hf]
   have hin:∀ k,k∈m::l->0<=k/\k<p.Ac.length:=λ k hk=>by
    have:=hi k (by rw [hsrc];exact hk)
    omega
   refine (c7 (I:=λ k r=>r=Ew u ((m::l).take k) s) (A:=λ r=>r=Ew u (m::l) s) (B:=λ (_:Unit)=>False) rfl (λ k n r hk hr=>?_) λ r hr=>by rw [hr,ay]).inner (λ r hr=>c6 hr) (λ _ h=>h.elim)
   have hnk:=hin n (ae hk)
   have hrl:r.length=p.Ac.length:=by rw [hr,Hi,hl]
   unfold zX
   rw [hsrc,show getI (m::l) 0=some m from rfl]
   simp only [ab,hgu]
   refine (cS hnk.1 (by omega)).bind λ v hv=>(cU hnk.1 (by omega)).bind λ r1 e1=>?_
   have hvg:r1[n.toNat]? = some (⟨v.State,v.Since,u.Au,v.Phase⟩:Ai):=by rw [e1,bE (by omega)]
   refine Ok.bind (P:=λ w=>w=(⟨v.State,v.Since,u.Au,v.Phase⟩:Ai)) ((cS hnk.1 (by rw [e1];simp;omega)).mono λ w hw=>by rw [hvg] at hw;cases hw;rfl) λ w hw=>?_
   refine (cU hnk.1 (by rw [e1];simp;omega)).bind λ r2 e2=>c6 ?_
   have hdv:r.getD n.toNat default=v:=by simp [List.getD,hv]
   rw [Aat hk,←hr,hdv,e2,e1,hw,List.set_set];rfl
 ·rw [ay] at hs;exact hs
theorem Nj {ss:List Ai} {m n:Nat} {y:Ai}:(ss.set m y).getD n default=if m=n/\m<ss.length then y else ss.getD n default:=by
 unfold List.getD
 rw [ao]
 by_cases e:m=n
 ·subst e
  by_cases hl:m<ss.length
  ·simp [hl]
  ·simp [hl]
 ·simp [e]
theorem Z6 (B3:Ai):∀ (idx:List Int) (ss:List Ai) (n:Nat),((Ew B3 idx ss).getD n default).State=(ss.getD n default).State
 | [],_,_=>rfl
 | i::idx,ss,n=>by
  show ((Ew B3 idx _).getD n default).State=_
  rw [Z6 B3 idx,Nj]
  split
  ·rename_i e;rw [←e.1];rfl
  ·rfl
theorem Xx {B3:Ai}:∀ (idx:List Int) (ss:List Ai) {n:Nat},(∀ i,i∈idx->i.toNat≠n)->(Ew B3 idx ss).getD n default=ss.getD n default
 | [],_,_,_=>rfl
 | i::idx,ss,n,h=>by
  show (Ew B3 idx _).getD n default=_
  rw [Xx idx _ (λ j hj=>h j (aj _ hj)),Nj,if_neg (λ e=>h i ah e.1)]
theorem Alk {B3:Ai}:∀ (idx:List Int) (ss:List Ai) {n:Nat},n<ss.length->(∃ i,i∈idx/\i.toNat=n)->((Ew B3 idx ss).getD n default).Au=B3.Au/\((Ew B3 idx ss).getD n default).Phase=B3.Phase
 | [],_,_,_,h=>by obtain⟨_,h,_⟩:=h;cases h
 | i::idx,ss,n,hn,h=>by
  by_cases hr:∃ j,j∈idx/\j.toNat=n
  ·exact Alk idx _ (by simpa using hn) hr
  ·have hi:i.toNat=n:=by
    obtain⟨j,hj,e⟩:=h
    rcases ag.1 hj with rfl | hj
    ·exact e
    ·exact absurd ⟨j,hj,e⟩ hr
   have:(Ew B3 (i::idx) ss).getD n default=Am9 B3 (ss.getD i.toNat default):=by
    show (Ew B3 idx _).getD n default=_
    rw [Xx idx _ (λ j hj e=>hr ⟨j,hj,e⟩),Nj,if_pos ⟨hi,by omega⟩]
   rw [this];exact⟨rfl,rfl⟩
def Ef (b:Aa) (p:Ab):Prop:=∀ x,x∈Bd b p->∀ i j,i∈x.Ac->j∈x.Ac ->
 (p.Ac.getD i.toNat default).Au=(p.Ac.getD j.toNat default).Au/\(p.Ac.getD i.toNat default).Phase=(p.Ac.getD j.toNat default).Phase
theorem Ak0 (p:Ab) (s:List Ai) (x:Aj) (n:Nat):((Dc p s x).getD n default).State=(s.getD n default).State:=by
 unfold Dc
 split
 ·rfl
 ·exact Z6 _ _ _ _
theorem Sr (b:Aa) (p:Ab) (n:Nat):((D_ b p).getD n default).State=(p.Ac.getD n default).State:=by
 have key:∀ (l:List Aj) (s:List Ai),((l.foldl (Dc p) s).getD n default).State=(s.getD n default).State:=by
  intro l
  induction l with
  | nil=>intro s;rfl
  | cons x l ih=>intro s;rw [aY,ih,Ak0]
 exact key _ _
theorem Ac6 {b:Aa} {p q:Ab} (hc:q.Ae=p.Ae) (hl:q.Ac.length=p.Ac.length) (hs:∀ n:Nat,(q.Ac.getD n default).State=(p.Ac.getD n default).State):Bd b q=Bd b p:=by
 have hled:∀ k i,By b q k i=By b p k i:=λ k i=>by unfold By;rw [hc]
 have hgr:groups b q=groups b p:=by unfold groups;rw [hc]
 have hcon:∀ i,Cy b q i=Cy b p i:=λ i=>by unfold Cy;rw [hled,hl,hs]
 have hgo:∀ o,Dr b q o=Dr b p o:=λ o=>by unfold Dr;rw [hgr]
 have hisl:isl b q=isl b p:=by
  funext f
  unfold isl D0 El Gb
  simp only [hgr,hled,hcon,hgo]
 unfold Bd
 rw [hisl]
theorem Hg {b:Aa} {p:Ab} {f:Nat} {i:Int}:i∈(isl b p f).Ac↔∃ k:Nat,i=(k:Int)/\k<b.Ac.length/\Dr b p (Cy b p (k:Int))=some (f:Int):=by
 constructor
 ·intro h
  obtain⟨k,hk,e⟩:=am.1 h
  obtain⟨h1,h2⟩:=an.1 hk
  exact⟨k,e.symm,aH.1 h1,by rwa [dy] at h2⟩
 ·rintro⟨k,e,h1,h2⟩
  exact am.2 ⟨k,an.2 ⟨aH.2 h1,by rw [dy];exact h2⟩,e.symm⟩
theorem Awy {b:Aa} {p:Ab} {f g:Nat} (hfg:f≠g) {i j:Int} (hi:i∈(isl b p f).Ac) (hj:j∈(isl b p g).Ac):i.toNat≠j.toNat:=by
 obtain⟨k,rfl,_,e1⟩:=Hg.1 hi
 obtain⟨m,rfl,_,e2⟩:=Hg.1 hj
 rw [ai,ai]
 intro e;subst e
 rw [e1] at e2
 have:=bz e2
 exact hfg (by omega)
def Adh (b:Aa) (p:Ab) (f:Nat):Ai:=p.Ac.getD ((isl b p f).Ac.headD 0).toNat default
theorem Aha {b:Aa} {p:Ab} {n:Nat}:∀ (fs:List Nat) (s:List Ai),(∀ f,f∈fs->∀ i,i∈(isl b p f).Ac->i.toNat≠n)->((fs.map (isl b p)).foldl (Dc p) s).getD n default=s.getD n default
 | [],_,_=>rfl
 | f::fs,s,h=>by
  rw [bJ,aY,Aha fs _ (λ g hg=>h g (aj _ hg))]
  have hf:=h f ah
  unfold Dc
  split
  ·rfl
  ·exact Xx _ _ hf
theorem yS {b:Aa} {p:Ab} (hn:p.Ac.length=b.Ac.length):∀ (fs:List Nat) (s:List Ai),s.length=p.Ac.length->fs.Nodup->∀ f,f∈fs->∀ i,i∈(isl b p f).Ac ->
  (((fs.map (isl b p)).foldl (Dc p) s).getD i.toNat default).Au=(Adh b p f).Au/\(((fs.map (isl b p)).foldl (Dc p) s).getD i.toNat default).Phase=(Adh b p f).Phase
 | [],_,_,_,_,h,_,_=>by cases h
 | g::fs,s,hs,hnd,f,hf,i,hi=>by
  obtain⟨h1,h2⟩:=List.nodup_cons.1 hnd
  rw [bJ,aY]
  by_cases e:f=g
  ·subst e
   rw [Aha fs _ (λ k hk j hj=>Awy (λ e=>h1 (by rw [←e];exact hk)) hj hi)]
   obtain⟨k,rfl,hk,_⟩:=Hg.1 hi
   unfold Dc
   split
   ·rename_i e;rw [e] at hi;cases hi
   ·rename_i m r e
    have:Adh b p f=p.Ac.getD m.toNat default:=by unfold Adh;rw [e];rfl
    rw [this]
    exact Alk _ _ (by rw [ai];omega) ⟨_,hi,rfl⟩
  ·rcases ag.1 hf with h | hf
   ·exact absurd h e
   ·exact yS hn fs _ (by rw [Nk];exact hs) h2 f hf i hi
theorem Pv {b:Aa} (h:Ar b) {p:Ab} (hn:p.Ac.length=b.Ac.length):Ef b ⟨p.Ae,D_ b p,p.Al,p.Ah⟩:=by
 have hisl:Bd b ⟨p.Ae,D_ b p,p.Al,p.Ah⟩=Bd b p:=Ac6 rfl (Gt b p) (Sr b p)
 intro x hx i j hi hj
 rw [hisl,Fx h] at hx
 obtain⟨f,hf,rfl⟩:=am.1 hx
 have hnd:(K8 b p b.Am.toNat).Nodup:=(List.nodup_range).sublist cw
 have hfl:D_ b p=((K8 b p b.Am.toNat).map (isl b p)).foldl (Dc p) p.Ac:=by
  rw [←Fx h];rfl
 have e1:=yS hn _ p.Ac rfl hnd f hf i hi
 have e2:=yS hn _ p.Ac rfl hnd f hf j hj
 dsimp only
 rw [hfl]
 exact⟨e1.1.trans e2.1.symm,e1.2.trans e2.2.symm⟩
def A2 (b:Aa) (p:Ab) (n:Nat):Bool:=decide (((isl b p ((groups b p).getD n 0).toNat).Ac.length:Int)>0)
theorem T3 {b:Aa} (h:Ar b) {p:Ab} (hp:Aq b p) {n:Nat} (hn:n<b.Am.toNat):F14 b p (n:Int)=some (A2 b p n):=by
 unfold F14
 rw [V3 h hp hn]
 simp [A2]
theorem Aus {b:Aa} {p:Ab} {n f:Nat} (hn:n<b.Am.toNat):(isl b p f).Am.any ((n:Int) == ·)=((groups b p).getD n 0==(f:Int)):=by
 rw [bf,b9]
 constructor
 ·rintro⟨x,hx,e⟩
  rw [dy] at e;subst e
  obtain⟨i,hi,e⟩:=am.1 hx
  have:i=n:=by omega
  subst this
  exact (an.1 hi).2
 ·intro e
  exact⟨n,am.2 ⟨n,an.2 ⟨aH.2 hn,e⟩,rfl⟩,by simp⟩
theorem of_eq {b:Aa} (h:Ar b) {p:Ab} (hp:Aq b p) {n:Nat} (hn:n<b.Am.toNat):H_ b p (n:Int)=some (isl b p ((groups b p).getD n 0).toNat,true):=by
 have hg:=Gy h p hn
 have hbu:=h.buses
 unfold H_
 rw [J4 h hp,Fx h]
 simp only [ab]
 have key:∀ (fs:List Nat) (k:Nat),foldI (Mx (n:Int)) (fs.map (isl b p)) k ()=if ((groups b p).getD n 0).toNat∈fs then some (.ret (isl b p ((groups b p).getD n 0).toNat,true)) else some (.next ()):=by
  intro fs
  induction fs with
  | nil=>intro k;rfl
  | cons f fs ih=>
   intro k
   have hbl:(isl b p f).Am.length<=9223372036854775807:=by
    have:=De (λ i=>(groups b p).getD i 0==(f:Int)) b.Am.toNat
    simp only [isl,D0]
    omega
   simp only [bJ,foldI,Mx,Eu _ _ hbl,ab,Aus hn]
   by_cases e:(groups b p).getD n 0=(f:Int)
   ·have e2:((groups b p).getD n 0).toNat=f:=by omega
    rw [dy.2 e,e2,if_pos ah];rfl
   ·have e2:((groups b p).getD n 0).toNat≠f:=by omega
    rw [dz.2 e]
    simp only [cond_false]
    rw [ih]
    by_cases hm:((groups b p).getD n 0).toNat∈fs
    ·rw [if_pos hm,if_pos (aj _ hm)]
    ·rw [if_neg hm,if_neg (λ hh=>(ag.1 hh).elim e2 hm)]
 have hm:((groups b p).getD n 0).toNat∈K8 b p b.Am.toNat:=an.2 ⟨aH.2 (by omega),Ii h p hn⟩
 rw [key,if_pos hm]
 rfl
theorem Wa {b:Aa} (h:Ar b) {p:Ab} (hp:Aq b p) {n:Nat} (hn:n<b.Am.toNat):F58 b p (n:Int)=some (A2 b p n):=by
 unfold F58
 rw [of_eq h hp hn]
 simp [A2]
theorem Lc {p:Ab} (k n:Int):F15 p k n=some (brk p.Ah k n):=by
 unfold F15 brk
 have:∀ (l:List As) (i:Nat),foldI (uY k n) l i ()=bif l.any (λ x=>k==x.Kind&&n==x.Number) then some (.ret true) else some (.next ()):=by
  intro l
  induction l with
  | nil=>intro i;rfl
  | cons x l ih=>
   intro i
   simp only [foldI,uY,Az9,List.any_cons]
   have e:(x.Kind==k&&x.Number==n)=(k==x.Kind&&n==x.Number):=by
    rw [bf];simp only [ac,dy];omega
   rw [e]
   cases (k==x.Kind&&n==x.Number) with
   | true=>rfl
   | false=>simp only [cond_false,aU];exact ih (i+1)
 rw [this]
 cases p.Ah.any λ x=>k==x.Kind&&n==x.Number <;> rfl
theorem Fl {b:Aa} {i:Nat} (h:i<b.Af.length):b.Af[i]? = some (b.Af.getD i default):=by
 rw [af h];simp [List.getD,List.getElem?_eq_getElem h]
theorem Al7 {p:Ab} {i:Nat} (h:i<p.Al.length):p.Al[i]? = some (p.Al.getD i 0):=by
 rw [af h];simp [List.getD,List.getElem?_eq_getElem h]

theorem Gz {b:Aa} {p:Ab} (hp:Aq b p) {j:Nat} (hj:j<b.Ad.length):p.Ae[j]? = some (p.Ae.getD j false):=by
 have:=hp.ncl
 rw [af (by omega)];simp [List.getD,List.getElem?_eq_getElem (show j<p.Ae.length by omega)]
theorem Cs {b:Aa} {j:Nat} {x:Ag} (hx:b.Ad[j]? = some x):b.Ad.getD j default=x:=by simp [List.getD,hx]
def Bz (p:Ab) (x:Ag):Bool:=
 brk p.Ah 3 x.A || (if x.Kind=1 then brk p.Ah 3 x.B else if x.Kind=2 then brk p.Ah 1 x.B || ((p.Ac.getD x.B.toNat default).State != 2) else brk p.Ah 4 x.B)
theorem A1x {b:Aa} {p:Ab} (hp:Aq b p) (k n:Int) (acts:List Ak):Lx k n ⟨b,p,acts⟩=some (brk p.Ah k n,⟨b,p,acts⟩):=by
 have:=hp.brk.len
 unfold Lx
 rw [C3 (by dsimp only;omega)];rfl
theorem Aud {b:Aa} (h:Ar b) {p:Ab} (hp:Aq b p) (acts:List Ak) {x:Ag} (hx:x∈b.Ad):Vh ⟨b,p,acts⟩ x=some (Bz p x,⟨b,p,acts⟩):=by
 have hbr:=(h.br x hx).2
 have hns:=hp.nso
 unfold Vh Bz
 simp only [A1x hp,ab]
 cases brk p.Ah 3 x.A with
 | true=>rfl
 | false=>
  simp only [cond_false,aU]
  rcases hbr with⟨hk,_⟩ | ⟨hk,h0,h1⟩ | ⟨hk,_⟩
  ·rw [hk];rfl
  ·rw [hk]
   have e:p.Ac[x.B.toNat]? = some (p.Ac.getD x.B.toNat default):=by
    rw [af (by omega)];simp [List.getD,List.getElem?_eq_getElem (show x.B.toNat<p.Ac.length by omega)]
   have e2:getI p.Ac x.B=some (p.Ac.getD x.B.toNat default):=by
    unfold getI;rw [dA h0];exact e
   rw [e2]
   cases brk p.Ah 1 x.B <;> rfl
  ·rw [hk];rfl
def B2 (b:Aa) (C:List Bool) (q:Ag->Bool) (n:Nat):List Int:=((List.range n).filter λ i=>C.getD i false&&q (b.Ad.getD i default)).map λ (i:Nat)=>(i:Int)
theorem G3 {b:Aa} {C:List Bool} {q:Ag->Bool} {n:Nat} {i:Int}:i∈B2 b C q n↔∃ k:Nat,i=(k:Int)/\k<n/\C.getD k false=true/\q (b.Ad.getD k default)=true:=by
 unfold B2
 simp only [am,an,aH,ac]
 constructor
 ·rintro⟨k,⟨h1,h2,h3⟩,rfl⟩;exact⟨k,rfl,h1,h2,h3⟩
 ·rintro⟨k,rfl,h1,h2,h3⟩;exact⟨k,⟨h1,h2,h3⟩,rfl⟩
theorem G4 (b:Aa) (C:List Bool) (q:Ag->Bool) (n:Nat):(B2 b C q n).length<=n:=De _ n
def Bk (C:List Bool) (l:List Int):List Bool:=l.foldl (λ c i=>c.set i.toNat false) C
def Du (l:List Int):List Ak:=l.map λ i=>⟨2,i,0⟩
theorem Jf:∀ (l:List Int) (C:List Bool),(Bk C l).length=C.length
 | [],_=>rfl
 | i::l,C=>by
  show (Bk (C.set i.toNat false) l).length=_
  rw [Jf l];simp
theorem Jt (C:List Bool) (l:List Int) (i:Int):Bk C (l++[i])=(Bk C l).set i.toNat false:=by
 unfold Bk;rw [aM];rfl
theorem Ll:∀ (l:List Int) (C:List Bool) (k:Nat),(Bk C l).getD k false=(C.getD k false && !l.any λ i=>i.toNat==k)
 | [],_,_=>by simp [Bk]
 | i::l,C,k=>by
  show (Bk (C.set i.toNat false) l).getD k false=_
  rw [Ll l]
  simp only [List.any_cons]
  by_cases e:i.toNat=k
  ·subst e
   have:(C.set i.toNat false).getD i.toNat false=false:=by
    simp only [List.getD,ao]
    by_cases hl:i.toNat<C.length
    ·simp [hl]
    ·simp [hl]
   rw [this];simp
  ·have:(C.set i.toNat false).getD k false=C.getD k false:=by
    simp only [List.getD,ao,if_neg e]
   rw [this]
   have e2:(i.toNat==k)=false:=by simpa using e
   rw [e2,aU]
theorem X1 {b:Aa}:∀ (l:List Int) {p:Ab},Aq b p->Aq b ⟨Bk p.Ae l,p.Ac,p.Al,p.Ah⟩
 | [],_,hp=>hp
 | i::l,p,hp=>X1 l (p:=⟨p.Ae.set i.toNat false,p.Ac,p.Al,p.Ah⟩) (jE hp i.toNat)
theorem Axf {b:Aa} {p:Ab} {acts:List Ak} (ha:acts.length<=1000000) {i:Int} (h0:0<=i) (h1:i<p.Ae.length):Nt ⟨b,p,acts⟩ i=some ⟨b,⟨p.Ae.set i.toNat false,p.Ac,p.Al,p.Ah⟩,acts++[⟨2,i,0⟩]⟩:=by
 refine cZ ?_
 unfold Nt
 refine (cS h0 h1).bind λ _ _=>(cU h0 h1).bind λ y hy=>(cV (by simp;omega)).bind λ z hz=>c5 ?_
 rw [hy,hz]
theorem X0 {b:Aa} {p:Ab} {acts:List Ak} {l:List Int} (ha:acts.length+l.length<=1000000) (hl:∀ i,i∈l->0<=i/\i<p.Ae.length) :
  Ok (foldI Ow l 0 (b.Am,b.Ad,b.Ac,b.Af,b.Phase,b.Au,p.Ae,p.Ac,p.Al,p.Ah,acts)) (D1 (λ s=>s=(b.Am,b.Ad,b.Ac,b.Af,b.Phase,b.Au,Bk p.Ae l,p.Ac,p.Al,p.Ah,acts++Du l)) λ (_:Unit)=>False):=by
 refine c7 (I:=λ j s=>s=(b.Am,b.Ad,b.Ac,b.Af,b.Phase,b.Au,Bk p.Ae (l.take j),p.Ac,p.Al,p.Ah,acts++Du (l.take j))) (by simp [Bk,Du]) (λ j i s hi hs=>?_) λ s hs=>?_
 ·have hj:=(aa.1 hi).1
  have hin:=hl i (ae hi)
  subst hs
  unfold Ow
  have e:=Axf (b:=b) (p:=⟨Bk p.Ae (l.take j),p.Ac,p.Al,p.Ah⟩) (acts:=acts++Du (l.take j)) (by simp [Du];omega) hin.1 (by rw [Jf];exact hin.2)
  refine Ok.bind (P:=λ y=>y=_) (c8 e rfl) λ y hy=>c6 ?_
  subst hy
  rw [Bg hi,Jt]
  simp [Du]
 ·rw [ay] at hs;exact hs
def acA (b:Aa) (C:List Bool) (q:Ag->Bool):List Ak:=Du (B2 b C q b.Ad.length)
def acC (b:Aa) (C:List Bool) (q:Ag->Bool):List Bool:=Bk C (B2 b C q b.Ad.length)
theorem Wn (b:Aa) (C:List Bool) (q:Ag->Bool):(acA b C q).length<=b.Ad.length:=by
 unfold acA Du
 rw [ax];exact G4 b C q _
theorem P6 {b:Aa} {p:Ab} (hp:Aq b p) (q:Ag->Bool):Aq b ⟨acC b p.Ae q,p.Ac,p.Al,p.Ah⟩:=X1 _ hp
theorem K0 (b:Aa) (C:List Bool) (q:Ag->Bool) {k:Nat} (hk:k<b.Ad.length):(acC b C q).getD k false=(C.getD k false && !q (b.Ad.getD k default)):=by
 unfold acC
 rw [Ll]
 cases hc:C.getD k false with
 | false=>rfl
 | true=>
  rw [aO,aO]
  congr 1
  rw [bf,b9]
  constructor
  ·rintro⟨i,hi,e⟩
   obtain⟨m,rfl,_,_,hq⟩:=G3.1 hi
   have:m=k:=by simpa using e
   subst this;exact hq
  ·intro hq
   exact⟨(k:Int),G3.2 ⟨k,rfl,hk,hc,hq⟩,by simp⟩
theorem J6 {b:Aa} {C:List Bool} {q:Ag->Bool} {j:Nat} {x:Ag} (hx:b.Ad[j]? = some x):B2 b C q (j+1)=B2 b C q j++if (C.getD j false&&q x)=true then [(j:Int)] else []:=by
 unfold B2
 rw [Ea,Cs hx]
theorem Aqz {b:Aa} (h:Ar b) {p:Ab} (hp:Aq b p) {acts:List Ak} (ha:acts.length<=1000):Vn ⟨b,p,acts⟩=some ⟨b,⟨acC b p.Ae (Bz p),p.Ac,p.Al,p.Ah⟩,acts++acA b p.Ae (Bz p)⟩:=by
 have hbl:=h.brl
 have hnc:=hp.ncl
 refine cZ ?_
 unfold Vn
 refine Ok.andThen (A:=λ s=>s=(b.Am,b.Ad,b.Ac,b.Af,b.Phase,b.Au,B2 b p.Ae (Bz p) b.Ad.length,p.Ae,p.Ac,p.Al,p.Ah,acts)) (B:=λ (_:Unit)=>False) ?_ (λ s hs=>?_) (λ _ h=>h.elim)
 ·refine c7 (I:=λ j s=>s=(b.Am,b.Ad,b.Ac,b.Af,b.Phase,b.Au,B2 b p.Ae (Bz p) j,p.Ae,p.Ac,p.Al,p.Ah,acts)) rfl (λ j x s hx hs=>?_) λ s hs=>hs
  have hj:j<b.Ad.length:=(aa.1 hx).1
  have hfl:=G4 b p.Ae (Bz p) j
  have hfs:=J6 (C:=p.Ae) (q:=Bz p) hx
  subst hs
  unfold Vm
  rw [Cw (by omega),A8 (Gz hp hj)]
  simp only [ab]
  have hd:=Aud h hp acts (ae hx)
  cases hC:p.Ae.getD j false with
  | false=>
   rw [hC] at hfs
   refine c6 ?_
   rw [hfs];simp
  | true=>
   rw [hC] at hfs
   refine Ok.bind (P:=λ y=>y=(Bz p x,(⟨b,p,acts⟩:Ax))) (c8 hd rfl) λ y hy=>?_
   subst hy
   cases hq:Bz p x with
   | false=>
    rw [hq] at hfs
    refine c6 ?_
    rw [hfs];simp
   | true=>
    rw [hq] at hfs
    refine Ok.bind (P:=λ y=>y=B2 b p.Ae (Bz p) j++[(j:Int)]) (cV (by simp;omega)) λ y hy=>c6 ?_
    rw [hy,hfs];simp
 ·subst hs
  have hfl:=G4 b p.Ae (Bz p) b.Ad.length
  refine Ok.andThen (X0 (b:=b) (p:=p) (acts:=acts) (l:=B2 b p.Ae (Bz p) b.Ad.length) (by omega) λ i hi=>?_) (λ s hs=>?_) (λ _ h=>h.elim)
  ·obtain⟨k,rfl,hk,_⟩:=G3.1 hi
   omega
  ·subst hs
   exact c5 rfl
def Co (b:Aa) (p:Ab) (x:Ag):Bool:=x.Kind==3 && !A2 b p x.A.toNat
theorem A1u {b:Aa} (h:Ar b) {p:Ab} (hp:Aq b p) (acts:List Ak) {x:Ag} (hx:x∈b.Ad):Vg x ⟨b,p,acts⟩=some (Co b p x,⟨b,p,acts⟩):=by
 have hA:=(h.br x hx).1
 have hl:=Wa h hp (n:=x.A.toNat) (by omega)
 rw [aK hA.1] at hl
 unfold Vg Co
 rw [hl]
 cases x.Kind==3 <;> rfl
theorem Aqy {b:Aa} (h:Ar b) {p:Ab} (hp:Aq b p) {acts:List Ak} (ha:acts.length<=1000):Vl ⟨b,p,acts⟩=some ⟨b,⟨acC b p.Ae (Co b p),p.Ac,p.Al,p.Ah⟩,acts++acA b p.Ae (Co b p)⟩:=by
 have hbl:=h.brl
 have hnc:=hp.ncl
 refine cZ ?_
 unfold Vl
 refine Ok.andThen (A:=λ s=>s=(b.Am,b.Ad,b.Ac,b.Af,b.Phase,b.Au,B2 b p.Ae (Co b p) b.Ad.length,p.Ae,p.Ac,p.Al,p.Ah,acts)) (B:=λ (_:Unit)=>False) ?_ (λ s hs=>?_) (λ _ h=>h.elim)
 ·refine c7 (I:=λ j s=>s=(b.Am,b.Ad,b.Ac,b.Af,b.Phase,b.Au,B2 b p.Ae (Co b p) j,p.Ae,p.Ac,p.Al,p.Ah,acts)) rfl (λ j x s hx hs=>?_) λ s hs=>hs
  have hj:j<b.Ad.length:=(aa.1 hx).1
  have hfl:=G4 b p.Ae (Co b p) j
  have hfs:=J6 (C:=p.Ae) (q:=Co b p) hx
  subst hs
  unfold Vk
  rw [Cw (by omega),A8 (Gz hp hj)]
  simp only [ab]
  have hd:=A1u h hp acts (ae hx)
  cases hC:p.Ae.getD j false with
  | false=>
   rw [hC] at hfs
   refine c6 ?_
   rw [hfs];simp
  | true=>
   rw [hC] at hfs
   refine Ok.bind (P:=λ y=>y=(Co b p x,(⟨b,p,acts⟩:Ax))) (c8 hd rfl) λ y hy=>?_
   subst hy
   cases hq:Co b p x with
   | false=>
    rw [hq] at hfs
    refine c6 ?_
    rw [hfs];simp
   | true=>
    rw [hq] at hfs
    refine Ok.bind (P:=λ y=>y=B2 b p.Ae (Co b p) j++[(j:Int)]) (cV (by simp;omega)) λ y hy=>c6 ?_
    rw [hy,hfs];simp
 ·subst hs
  have hfl:=G4 b p.Ae (Co b p) b.Ad.length
  refine Ok.andThen (X0 (b:=b) (p:=p) (acts:=acts) (l:=B2 b p.Ae (Co b p) b.Ad.length) (by omega) λ i hi=>?_) (λ s hs=>?_) (λ _ h=>h.elim)
  ·obtain⟨k,rfl,hk,_⟩:=G3.1 hi
   omega
  ·subst hs
   exact c5 rfl
def B6 (b:Aa) (p:Ab):Ab:=⟨acC b p.Ae (Bz p),p.Ac,p.Al,p.Ah⟩
def Nn (b:Aa) (p:Ab):Ab:=⟨acC b (B6 b p).Ae (Co b (B6 b p)),p.Ac,p.Al,p.Ah⟩
def Gv (b:Aa) (p:Ab):Ab:=⟨(Nn b p).Ae,D_ b (Nn b p),p.Al,p.Ah⟩
def zF (b:Aa) (p:Ab):List Ak:=acA b p.Ae (Bz p)++acA b (B6 b p).Ae (Co b (B6 b p))
theorem P0 {b:Aa} {p:Ab} (hp:Aq b p):Aq b (B6 b p):=P6 hp _
theorem Pz {b:Aa} {p:Ab} (hp:Aq b p):Aq b (Nn b p):=P6 (P0 hp) _
theorem Jm {b:Aa} {p:Ab} (hp:Aq b p):Aq b (Gv b p):=Ia (Pz hp) (Gt b _) (Rm (Pz hp))
theorem Aor {b:Aa} (h:Ar b) {p:Ab} (hp:Aq b p):Ef b (Gv b p):=Pv h (Pz hp).nso
theorem Ayk (b:Aa) (p:Ab):(zF b p).length<=2*b.Ad.length:=by
 have h1:=Wn b p.Ae (Bz p)
 have h2:=Wn b (B6 b p).Ae (Co b (B6 b p))
 unfold zF
 rw [aI];omega
theorem Aym {b:Aa} (h:Ar b) {p:Ab} (hp:Aq b p):uK ⟨b,p,[]⟩=some ⟨b,Gv b p,zF b p⟩:=by
 have hbl:=h.brl
 have hl:=Wn b p.Ae (Bz p)
 unfold uK
 rw [Aqz h hp (by simp)]
 simp only [ab,cI]
 have e2:=Aqy h (P0 hp) (acts:=acA b p.Ae (Bz p)) (by omega)
 have e3:=Uf h (Pz hp)
 refine cZ ?_
 refine Ok.bind (P:=λ y=>y=_) (c8 e2 rfl) λ y hy=>?_
 subst hy
 refine Ok.bind (P:=λ y=>y=_) (c8 e3 rfl) λ y hy=>?_
 subst hy
 exact c5 rfl
def key (b:Aa) (c:Int):Int:=(b.Af.getD c.toNat default).Bl*100+c
theorem Jj {l:List Int} {m k:Nat} {v:Int}:(l.set m v).getD k 0=if m=k/\m<l.length then v else l.getD k 0:=by
 simp only [List.getD,ao]
 by_cases e:m=k
 ·subst e
  by_cases hl:m<l.length
  ·simp [hl]
  ·simp [hl]
 ·simp [e]
theorem Ud {l:List Int} {k:Nat} (h:k<l.length):getI l (k:Int)=some (l.getD k 0):=A8 (by
 rw [af h];simp [List.getD,List.getElem?_eq_getElem h])
structure Srt (b:Aa) (n i:Nat) (d:List Int):Prop where
 len:d.length=n
 low:∀ k,k<i->k<n->0<=d.getD k 0/\d.getD k 0<(i:Int)
 asc:∀ k m,k<m->m<i->m<n->key b (d.getD k 0)<key b (d.getD m 0)
 rest:∀ k,i<=k->k<n->d.getD k 0=(k:Int)
 mem:∀ v,v<n->∃ k,k<n/\d.getD k 0=(v:Int)
structure Ins (b:Aa) (n i j:Nat) (d:List Int):Prop where
 len:d.length=n
 here:d.getD j 0=(i:Int)
 low:∀ k,k<=i->k≠j->0<=d.getD k 0/\d.getD k 0<(i:Int)
 asc:∀ k m,k<m->m<=i->k≠j->m≠j->key b (d.getD k 0)<key b (d.getD m 0)
 big:∀ k,j<k->k<=i->key b (i:Int)<key b (d.getD k 0)
 rest:∀ k,i<k->k<n->d.getD k 0=(k:Int)
 mem:∀ v,v<n->∃ k,k<n/\d.getD k 0=(v:Int)
theorem Srt.ins {b:Aa} {n i:Nat} {d:List Int} (h:Srt b n i d) (hi:i<n):Ins b n i i d where
 len:=h.len
 here:=h.rest i (au _) hi
 low k hk hne:=h.low k (by omega) (by omega)
 asc k m hkm hm hk hm2:=h.asc k m hkm (by omega) (by omega)
 big k h1 h2:=by omega
 rest k h1 h2:=h.rest k (by omega) h2
 mem:=h.mem
theorem Ins.done {b:Aa} {n i j:Nat} {d:List Int} (h:Ins b n i j d) (hj:j<=i) (hk:0<j->key b (d.getD (j-1) 0)<key b (i:Int)):Srt b n (i+1) d:=by
 refine⟨h.len,λ k h1 h2=>?_,λ k m hkm hm hn=>?_,λ k h1 h2=>h.rest k (by omega) h2,h.mem⟩
 ·by_cases e:k=j
  ·rw [e,h.here];omega
  ·have:=h.low k (by omega) e
   omega
 ·have lo:∀ k,k<j->key b (d.getD k 0)<key b (i:Int):=λ k hkj=>by
   have h3:=hk (by omega)
   by_cases e:k=j-1
   ·rw [e];exact h3
   ·have:=h.asc k (j-1) (by omega) (by omega) (by omega) (by omega)
    omega
  by_cases e:k=j
  ·subst e
   rw [h.here]
   exact h.big m hkm (by omega)
  ·by_cases e2:m=j
   ·subst e2
    rw [h.here]
    exact lo k hkm
   ·exact h.asc k m hkm (by omega) e e2
theorem Ins.step {b:Aa} {n i j:Nat} {d:List Int} (h:Ins b n i j d) (hj:j<=i) (h0:0<j) (hi:i<n) (hk:key b (i:Int)<key b (d.getD (j-1) 0)):Ins b n i (j-1) ((d.set j (d.getD (j-1) 0)).set (j-1) (i:Int)):=by
 have hl:=h.len
 have ev:∀ k,((d.set j (d.getD (j-1) 0)).set (j-1) (i:Int)).getD k 0=if k=j-1 then (i:Int) else if k=j then d.getD (j-1) 0 else d.getD k 0:=λ k=>by
  rw [Jj,Jj,be]
  by_cases e1:k=j-1
  ·have c1:j-1=k/\j-1<d.length:=⟨e1.symm,by omega⟩
   rw [if_pos c1,if_pos e1]
  ·have c1:¬(j-1=k/\j-1<d.length):=λ hh=>e1 hh.1.symm
   rw [if_neg c1,if_neg e1]
   by_cases e2:k=j
   ·have c2:j=k/\j<d.length:=⟨e2.symm,by omega⟩
    rw [if_pos c2,if_pos e2]
   ·have c2:¬(j=k/\j<d.length):=λ hh=>e2 hh.1.symm
    rw [if_neg c2,if_neg e2]
 refine⟨by simp [hl],?_,λ k h1 h2=>?_,λ k m hkm hm hk1 hm1=>?_,λ k h1 h2=>?_,λ k h1 h2=>?_,λ v hv=>?_⟩
 ·rw [ev,if_pos rfl]
 ·rw [ev,if_neg h2]
  split
  ·exact h.low (j-1) (by omega) (by omega)
  ·exact h.low k h1 (by omega)
 ·rw [ev,ev,if_neg hk1,if_neg hm1]
  by_cases e1:k=j
  ·rw [if_pos e1,if_neg (by omega)]
   subst e1
   exact h.asc (k-1) m (by omega) hm (by omega) (by omega)
  ·rw [if_neg e1]
   by_cases e2:m=j
   ·rw [if_pos e2]
    exact h.asc k (j-1) (by omega) (by omega) e1 (by omega)
   ·rw [if_neg e2]
    exact h.asc k m hkm hm e1 e2
 ·rw [ev,if_neg (by omega)]
  split
  ·exact hk
  ·exact h.big k (by omega) h2
 ·rw [ev,if_neg (by omega),if_neg (by omega)]
  exact h.rest k h1 h2
 ·obtain⟨k,hk1,hk2⟩:=h.mem v hv
  by_cases e1:k=j
  ·refine⟨j-1,by omega,?_⟩
   rw [ev,if_pos rfl,←hk2,e1,h.here]
  ·by_cases e2:k=j-1
   ·refine⟨j,by omega,?_⟩
    rw [ev,if_neg (by omega),if_pos rfl,←hk2,e2]
   ·refine⟨k,hk1,?_⟩
    rw [ev,if_neg e2,if_neg e1];exact hk2
theorem As3 {b:Aa} {x y:Nat} (hx:x<b.Af.length) (hy:y<b.Af.length):Nv (x:Int) (y:Int) b=some (if (b.Af.getD x default).Bl<(b.Af.getD y default).Bl then -1 else if (b.Af.getD x default).Bl>(b.Af.getD y default).Bl then 1 else 0):=by
 unfold Nv
 rw [A8 (Fl hx),A8 (Fl hy)]
 simp only [ab,Ahx]
theorem Ax3 {b:Aa} (h:Ar b) {i:Nat} (hi:i<b.Af.length) {d:List Int} (hd:Ins b b.Af.length i i d) :
  Ok (whileN (Ou 0 b) 1152921504606846976 ((i:Int),d)) (D1 (λ s=>Srt b b.Af.length (i+1) s.2) λ (_:Unit)=>False):=by
 have hcl:=h.col
 refine c9 (λ s=>∃ j:Nat,s.1=(j:Int)/\j<=i/\Ins b b.Af.length i j s.2) (λ s=>s.1.toNat) _ _ ⟨i,rfl,au _,hd⟩ (by dsimp only;omega) ?_
 rintro⟨z,d⟩ ⟨j,hz,hj,hI⟩
 dsimp only at hz hI
 subst hz
 have hl:=hI.len
 unfold Ou
 dsimp only
 by_cases h0:0<j
 ·have e1:decide ((j:Int)>0)=true:=dA (by omega)
  have e2:w64 ((j:Int)-1)=((j-1:Nat):Int):=by rw [A6 (by omega)];omega
  have hlow:=hI.low (j-1) (by omega) (by omega)
  obtain⟨v,hv⟩:∃ v:Nat,d.getD (j-1) 0=(v:Int):=⟨(d.getD (j-1) 0).toNat,by omega⟩
  have hvi:v<i:=by omega
  have ec:=As3 (b:=b) hi (show v<b.Af.length by omega)
  have g1:Az [(decide ((j:Int)>0),true)] (getI d (j:Int)) default=some (i:Int):=by
   rw [e1,Ud (by omega),hI.here];rfl
  have g2:Az [(decide ((j:Int)>0),true)] (getI d (w64 ((j:Int)-1))) default=some (v:Int):=by
   rw [e1,e2,Ud (by omega),hv];rfl
  rw [g1,g2]
  simp only [ab]
  have g3:Az [(decide ((j:Int)>0),true)] (Nv (i:Int) (v:Int) b) default=Nv (i:Int) (v:Int) b:=by rw [e1];rw [ec];rfl
  rw [g3,ec]
  simp only [ab]
  have hci:=h.co i _ (Fl hi)
  have hcv:=h.co v _ (Fl (show v<b.Af.length by omega))
  have ki:key b (i:Int)=(b.Af.getD i default).Bl*100+(i:Int):=by unfold key;rw [ai]
  have kv:key b (v:Int)=(b.Af.getD v default).Bl*100+(v:Int):=by unfold key;rw [ai]
  refine c4 (λ hq=>?_) (λ hq=>?_)
  ·simp only [Yf,ac,dw] at hq
   have hlt:(b.Af.getD i default).Bl<(b.Af.getD v default).Bl:=by
    have:=hq.2
    split at this
    ·assumption
    ·split at this <;> omega
   have e3:getI d (w64 ((j:Int)-1))=some (d.getD (j-1) 0):=by rw [e2,Ud (by omega)]
   have e4:getI d (j:Int)=some (i:Int):=by rw [Ud (by omega),hI.here]
   rw [e3,e4]
   simp only [ab]
   rw [e2,M4 (by omega)]
   simp only [ab]
   rw [Ud (by rw [be];omega)]
   simp only [ab]
   rw [M4 (by rw [be];omega)]
   simp only [ab]
   refine c6 ⟨⟨j-1,rfl,by omega,hI.step hj h0 hi ?_⟩,by dsimp only;omega⟩
   rw [hv,ki,kv];omega
  ·refine cW (hI.done hj λ _=>?_)
   simp only [Yf,Bool.and_eq_false_iff,dx] at hq
   have hge:¬(b.Af.getD i default).Bl<(b.Af.getD v default).Bl:=by
    intro hlt
    rw [if_pos hlt] at hq
    omega
   rw [hv,ki,kv];omega
 ·have h00:j=0:=by omega
  subst h00
  exact cW (hI.done hj λ hh=>by omega)
theorem A0v {b:Aa} (h:Ar b) {d:List Int} (hd:Srt b b.Af.length 0 d):Ok (Vb d b) λ y=>Srt b b.Af.length b.Af.length y.1:=by
 have hcl:=h.col
 have hl:=hd.len
 unfold Vb uX
 rw [hl]
 refine Ok.bind (P:=λ y=>Srt b b.Af.length b.Af.length y.1) ?_ λ y hy=>c5 hy
 refine Ok.andThen (A:=λ s=>s=((0:Int),(20:Int),d,b.Am,b.Ad,b.Ac,b.Af,b.Phase,b.Au)) (B:=λ (_:Unit)=>False) ?_ (λ s hs=>?_) (λ _ h=>h.elim)
 ·refine c9 (λ s=>s=((0:Int),(20:Int),d,b.Am,b.Ad,b.Ac,b.Af,b.Phase,b.Au)) (λ _=>0) _ _ rfl (by omega) ?_
  intro s hs
  subst hs
  unfold U4
  dsimp only
  refine c4 (λ hq=>?_) (λ _=>cW rfl)
  simp only [dw] at hq
  omega
 ·subst hs
  dsimp only
  refine Ok.bind (P:=λ y=>Srt b b.Af.length b.Af.length y.1) ?_ λ y hy=>?_
  ·unfold U1
   have e1:w64 (0+1)=1:=by rw [A6 (by omega)];rfl
   rw [e1]
   refine Ok.andThen (A:=λ s=>Srt b b.Af.length b.Af.length s.2) (B:=λ (_:Unit)=>False) ?_ (λ s hs=>c5 hs) (λ _ h=>h.elim)
   refine c9 (λ s=>∃ i:Nat,s.1=(i:Int)/\1<=i/\(i<=b.Af.length\/b.Af.length=0)/\Srt b b.Af.length i s.2) (λ s=>(100-s.1).toNat) _ _ ⟨1,rfl,by omega,by omega,?_⟩ (by dsimp only;omega) ?_
   ·refine⟨hl,λ k h1 h2=>?_,λ k m h1 h2 h3=>by omega,λ k h1 h2=>hd.rest k (by omega) h2,hd.mem⟩
    have:k=0:=by omega
    subst this
    have:=hd.rest 0 (au _) h2
    dsimp only
    rw [this];omega
   ·rintro⟨z,d'⟩ ⟨i,hz,h1,h2,hS⟩
    dsimp only at hz hS
    subst hz
    unfold U0
    dsimp only
    refine c4 (λ hq=>?_) (λ hq=>cW ?_)
    ·simp only [dw] at hq
     have hin:i<b.Af.length:=by omega
     refine Ok.inner (Ax3 h hin (hS.ins hin)) (λ s hs=>?_) (λ _ h=>h.elim)
     have e2:w64 ((i:Int)+1)=((i+1:Nat):Int):=by rw [A6 (by omega)];omega
     rw [e2]
     exact c6 ⟨⟨i+1,rfl,by omega,by omega,hs⟩,by dsimp only;omega⟩
    ·simp only [dx] at hq
     dsimp only
     have hge:b.Af.length<=i:=by omega
     refine⟨hS.len,λ k g1 g2=>?_,λ k m g1 g2 g3=>hS.asc k m g1 (by omega) g3,λ k g1 g2=>by omega,hS.mem⟩
     obtain⟨w1,w2⟩:=hS.low k (by omega) g2
     exact⟨w1,by omega⟩
  ·refine Ok.andThen (A:=λ _=>True) (B:=λ (_:Unit)=>False) ?_ (λ s hs=>c5 hy) (λ _ h=>h.elim)
   refine c9 (λ _=>True) (λ _=>0) _ _ trivial (by omega) ?_
   intro s _
   unfold U3
   refine c4 (λ hq=>?_) (λ _=>cW trivial)
   simp only [dw] at hq
   omega
def Cc (b:Aa):List Int:=(F85 b).getD []
theorem I8 {b:Aa} (h:Ar b):F85 b=some (Cc b)/\Srt b b.Af.length b.Af.length (Cc b):=by
 have hcl:=h.col
 have key:Ok (F85 b) λ y=>Srt b b.Af.length b.Af.length y:=by
  unfold F85
  rw [Ahy h]
  simp only [ab]
  refine c4 (λ hc=>by simp at hc) (λ _=>?_)
  refine Ok.andThen (A:=λ s=>s.2=Cr b.Af.length) (B:=λ (_:Unit)=>False) ?_ (λ s hs=>?_) (λ _ h=>h.elim)
  ·refine c9 (λ s=>∃ i:Nat,s.1=(i:Int)/\i<=b.Af.length/\s.2=Cr i) (λ s=>(100-s.1).toNat) _ _ ⟨0,rfl,by omega,rfl⟩ (by dsimp only;omega) ?_
   rintro⟨z,d⟩ ⟨i,hz,h1,h2⟩
   dsimp only at hz h2
   subst hz
   subst h2
   unfold Ajl Azz
   dsimp only
   refine c4 (λ hq=>?_) (λ hq=>cW ?_)
   ·simp only [dw] at hq
    refine (cV (by simp [Cr];omega)).bind λ y hy=>?_
    have e2:w64 ((i:Int)+1)=((i+1:Nat):Int):=by rw [A6 (by omega)];omega
    rw [e2]
    refine c6 ⟨⟨i+1,rfl,by omega,?_⟩,by dsimp only;omega⟩
    dsimp only
    rw [hy]
    unfold Cr
    rw [bp,bm];rfl
   ·simp only [dx] at hq
    have:i=b.Af.length:=by omega
    subst this;rfl
  ·rw [hs]
   refine (A0v h ?_).bind λ y hy=>c5 hy
   refine⟨by simp [Cr],λ k h1=>by omega,λ k m _ h1=>by omega,λ k _ h2=>Lj h2,λ v hv=>⟨v,hv,Lj hv⟩⟩
 obtain⟨r,e,hr⟩:=key
 have:Cc b=r:=by unfold Cc;rw [e];rfl
 rw [this]
 exact⟨e,hr⟩
theorem jD {b:Aa} (h:Ar b) {c:Int} (hc:c∈Cc b):0<=c/\c<b.Af.length:=by
 have hs:=(I8 h).2
 obtain⟨k,hk⟩:=cR.1 hc
 have hlt:=(aa.1 hk).1
 have:=hs.low k (by have:=hs.len;omega) (by have:=hs.len;omega)
 have e:(Cc b).getD k 0=c:=by simp [List.getD,hk]
 rwa [e] at this
theorem vY {b:Aa} (h:Ar b):(Cc b).length=b.Af.length:=(I8 h).2.len
theorem Abm {b:Aa} (h:Ar b):(Cc b).Nodup:=by
 have hs:=(I8 h).2
 have hl:=hs.len
 rw [bS,bT]
 intro i j hi hj hij e
 have:=hs.asc i j hij (by omega) (by omega)
 simp only [List.getD,af hi,af hj,bF,e] at this
 omega
def Ir (L:List Int) (l:List Int):Int:=l.foldl (λ s c=>s+L.getD c.toNat 0) 0
theorem Hw (L:List Int) (l:List Int) (c:Int):Ir L (l++[c])=Ir L l+L.getD c.toNat 0:=by
 unfold Ir;rw [aM];rfl
def Bh (b:Aa) (p:Ab) (n:Nat):Nat:=((groups b p).getD n 0).toNat
def Bm (b:Aa) (p:Ab) (n:Nat):Int:=if 0<(isl b p (Bh b p n)).Ac.length then Ir p.Al (isl b p (Bh b p n)).Af else 0
def K7 (b:Aa):List Int:=b.Ac.map (·.Rating)
def Cg (b:Aa) (p:Ab) (n:Nat):Int:=Ir (K7 b) (isl b p (Bh b p n)).Ac
theorem Gq {b:Aa} {p:Ab} {f:Nat} {i:Int} (hi:i∈(isl b p f).Af):0<=i/\i<b.Af.length:=by
 obtain⟨k,hk,rfl⟩:=am.1 hi
 have:=aH.1 (an.1 hk).1
 omega
theorem Mv {b:Aa} {p:Ab} {f:Nat} {i:Int} (hi:i∈(isl b p f).Ac):0<=i/\i<b.Ac.length:=by
 obtain⟨k,hk,rfl⟩:=am.1 hi
 have:=aH.1 (an.1 hk).1
 omega
theorem O5 {b:Aa} (h:Ar b) {p:Ab} (hp:Aq b p) {c:Int} (h0:0<=c) (h1:c<b.Af.length):getI p.Al c=some (p.Al.getD c.toNat 0)/\0<=p.Al.getD c.toNat 0/\p.Al.getD c.toNat 0<=(b.Af.getD c.toNat default).Load/\p.Al.getD c.toNat 0<=50000:=by
 have hn:=hp.nli
 obtain⟨k,rfl⟩:∃ k:Nat,c=(k:Int):=⟨c.toNat,by omega⟩
 rw [ai]
 have hg:=Fl (b:=b) (i:=k) (by omega)
 have hl:=hp.lim k _ _ (Al7 (p:=p) (by omega)) hg
 have hc:=(h.co k _ hg).1
 exact⟨A8 (Al7 (by omega)),hl.1,hl.2,by omega⟩
theorem A4u {b:Aa} {c:Int} (h0:0<=c) (h1:c<b.Af.length):getI b.Af c=some (b.Af.getD c.toNat default):=by
 obtain⟨k,rfl⟩:∃ k:Nat,c=(k:Int):=⟨c.toNat,by omega⟩
 rw [ai]
 exact A8 (Fl (by omega))
theorem V_ {b:Aa} (h:Ar b) {p:Ab} (hp:Aq b p) {n:Nat} (hn:n<b.Am.toNat):F87 b p (n:Int)=some (Bm b p n)/\0<=Bm b p n/\Bm b p n<=800000:=by
 have hcl:=h.col
 have hlen:(isl b p (Bh b p n)).Af.length<=b.Af.length:=De _ _
 have key:Ok (F87 b p (n:Int)) λ y=>y=Bm b p n/\0<=Bm b p n/\Bm b p n<=800000:=by
  unfold F87
  have hof:H_ b p (n:Int)=some (isl b p (Bh b p n),true):=of_eq h hp hn
  rw [hof]
  simp only [ab]
  refine Ok.andThen (A:=λ s=>s=Bm b p n/\0<=Bm b p n/\Bm b p n<=800000) (B:=λ (_:Unit)=>False) ?_ (λ s hs=>c5 hs) (λ _ h=>h.elim)
  by_cases hs:0<(isl b p (Bh b p n)).Ac.length
  ·refine c7 (I:=λ j s=>s=Ir p.Al ((isl b p (Bh b p n)).Af.take j)/\0<=s/\s<=50000*(j:Int)) ⟨rfl,by omega,by omega⟩ (λ j c s hc hI=>?_) λ s hI=>?_
   ·obtain⟨h1,h2,h3⟩:=hI
    have hj:j<(isl b p (Bh b p n)).Af.length:=(aa.1 hc).1
    have hcm:=Gq (ae hc)
    obtain⟨g1,g2,g3,g4⟩:=O5 h hp hcm.1 hcm.2
    unfold uJ
    have e:decide (((isl b p (Bh b p n)).Ac.length:Int)>0)=true:=dA (by omega)
    show Ok (bif decide (((isl b p (Bh b p n)).Ac.length:Int)>0) then _ else _) _
    rw [e,g1]
    simp only [cond_true,ab]
    rw [A6 (by omega)]
    refine c6 ⟨?_,by omega,by omega⟩
    rw [Bg hc,Hw,h1]
   ·rw [ay] at hI
    have e:Bm b p n=Ir p.Al (isl b p (Bh b p n)).Af:=by unfold Bm;rw [if_pos hs]
    rw [e,←hI.1]
    exact⟨rfl,hI.2.1,by omega⟩
  ·have e:Bm b p n=0:=by unfold Bm;rw [if_neg hs]
   rw [e]
   refine c7 (I:=λ _ s=>s=0) rfl (λ j c s hc hI=>?_) λ s hI=>⟨hI,by omega,by omega⟩
   unfold uJ
   have e:decide (((isl b p (Bh b p n)).Ac.length:Int)>0)=false:=decide_eq_false (by omega)
   show Ok (bif decide (((isl b p (Bh b p n)).Ac.length:Int)>0) then _ else _) _
   rw [e]
   exact c6 hI
 obtain⟨r,e,h1,h2⟩:=key
 rw [h1] at e
 exact⟨e,h2⟩
theorem Ob {b:Aa} (h:Ar b) {p:Ab} (hp:Aq b p) {n:Nat} (hn:n<b.Am.toNat):F88 b p (n:Int)=some (Cg b p n)/\0<=Cg b p n/\Cg b p n<=400000:=by
 have hcl:=h.sol
 have hlen:(isl b p (Bh b p n)).Ac.length<=b.Ac.length:=De _ _
 have key:Ok (F88 b p (n:Int)) λ y=>y=Cg b p n/\0<=Cg b p n/\Cg b p n<=400000:=by
  unfold F88
  have hof:H_ b p (n:Int)=some (isl b p (Bh b p n),true):=of_eq h hp hn
  rw [hof]
  simp only [ab]
  refine Ok.andThen (A:=λ s=>s=Cg b p n/\0<=Cg b p n/\Cg b p n<=400000) (B:=λ (_:Unit)=>False) ?_ (λ s hs=>c5 hs) (λ _ h=>h.elim)
  refine c7 (I:=λ j s=>s=Ir (K7 b) ((isl b p (Bh b p n)).Ac.take j)/\0<=s/\s<=50000*(j:Int)) ⟨rfl,by omega,by omega⟩ (λ j c s hc hI=>?_) λ s hI=>?_
  ·obtain⟨h1,h2,h3⟩:=hI
   have hj:j<(isl b p (Bh b p n)).Ac.length:=(aa.1 hc).1
   have hcm:=Mv (ae hc)
   unfold Ajk
   refine (cS hcm.1 hcm.2).bind λ y hy=>?_
   have hr:=(h.so y (ae hy)).1
   have e:(K7 b).getD c.toNat 0=y.Rating:=by simp [K7,List.getD,hy]
   rw [A6 (by omega)]
   refine c6 ⟨?_,by omega,by omega⟩
   rw [Bg hc,Hw,h1,e]
  ·rw [ay] at hI
   unfold Cg
   rw [←hI.1]
   exact⟨rfl,hI.2.1,by omega⟩
 obtain⟨r,e,h1,h2⟩:=key
 rw [h1] at e
 exact⟨e,h2⟩
def Bu (b:Aa) (p:Ab) (n:Nat):Int:=max 0 (Bm b p n-Cg b p n)
theorem Abs {b:Aa} (h:Ar b) {p:Ab} (hp:Aq b p) (acts:List Ak) {n:Nat} (hn:n<b.Am.toNat):Qa ⟨b,p,acts⟩ (n:Int)=some (Bu b p n):=by
 obtain⟨h1,h2,h3⟩:=V_ h hp hn
 obtain⟨h4,h5,h6⟩:=Ob h hp hn
 unfold Qa
 simp only [h1,h4,ab]
 rw [A6 (by omega)];rfl
theorem A1r {b:Aa} (h:Ar b) {p:Ab} (hp:Aq b p) {n:Nat} (hn:n<b.Am.toNat):0<=Bu b p n/\Bu b p n<=800000:=by
 obtain⟨h1,h2,h3⟩:=V_ h hp hn
 obtain⟨h4,h5,h6⟩:=Ob h hp hn
 unfold Bu
 omega
def Bj (p:Ab) (L:List Int):Ab:=⟨p.Ae,p.Ac,L,p.Ah⟩
def Ba (p:Ab) (C:List Bool):Ab:=⟨C,p.Ac,p.Al,p.Ah⟩
def Dq (b:Aa) (p:Ab) (n:Nat) (c:Int):Int:=min (Bu b p n) (p.Al.getD c.toNat 0-(b.Af.getD c.toNat default).Least)
def J0 (b:Aa) (p:Ab) (n:Nat) (z:List Int×List Ak) (c:Int):List Int×List Ak:=
 if 0<Dq b (Bj p z.1) n c then (z.1.set c.toNat (z.1.getD c.toNat 0-Dq b (Bj p z.1) n c),z.2++[⟨5,c,z.1.getD c.toNat 0-Dq b (Bj p z.1) n c⟩]) else z
def Hq (b:Aa) (p:Ab) (n:Nat) (l:List Int) (z:List Int×List Ak):List Int×List Ak:=l.foldl (J0 b p n) z
theorem Aq8 {b:Aa} {p:Ab} (hp:Aq b p) {c:Nat} {v:Int} (hv:0<=v/\v<=(b.Af.getD c default).Load):Aq b (Bj p (p.Al.set c v)) where
 ncl:=hp.ncl
 nso:=hp.nso
 nli:=by simp [Bj,hp.nli]
 run:=hp.run
 lim i n x hn hx:=by
  simp only [Bj,ao] at hn
  by_cases e:c=i
  ·subst e
   have ex:b.Af.getD c default=x:=by simp [List.getD,hx]
   rw [ex] at hv
   rw [if_pos rfl] at hn
   split at hn
   ·cases hn;exact hv
   ·cases hn
  ·rw [if_neg e] at hn
   exact hp.lim i n x hn hx
 one:=hp.one
 brk:=hp.brk
theorem Al6 {b:Aa} (h:Ar b) {p:Ab} {n:Nat} {z:List Int×List Ak} (hz:Aq b (Bj p z.1)) {c:Int} (h0:0<=c) (h1:c<b.Af.length):Aq b (Bj p (J0 b p n z c).1):=by
 unfold J0
 split
 ·rename_i hl
  obtain⟨_,g2,g3,_⟩:=O5 h hz h0 h1
  have hco:=(h.co c.toNat _ (Fl (b:=b) (i:=c.toNat) (by omega))).2.1
  have hm:Dq b (Bj p z.1) n c<=z.1.getD c.toNat 0-(b.Af.getD c.toNat default).Least:=cJ _ _
  exact Aq8 (p:=Bj p z.1) hz (c:=c.toNat) ⟨by omega,by
   have:(Bj p z.1).Al.getD c.toNat 0=z.1.getD c.toNat 0:=rfl
   omega⟩
 ·exact hz
theorem Axo {b:Aa} (h:Ar b) {p:Ab} (hp:Aq b p) {acts:List Ak} {l:List Int} (hl:∀ c,c∈l->0<=c/\c<b.Af.length) (ha:acts.length+l.length<=100000) {n:Nat} (hn:n<b.Am.toNat) :
  Qe ⟨b,p,acts⟩ l (n:Int)=some ⟨b,Bj p (Hq b p n l (p.Al,acts)).1,(Hq b p n l (p.Al,acts)).2⟩/\Aq b (Bj p (Hq b p n l (p.Al,acts)).1)/\(Hq b p n l (p.Al,acts)).2.length<=acts.length+l.length:=by
 have key : Ok (Qe ⟨b, p, acts⟩ l (n : Int)) λ y => y = ⟨b, Bj p (Hq b p n l (p.Al, acts)).1, (Hq b p n l (p.Al, acts)).2⟩ /\ Aq b (Bj p (Hq b p n l (p.Al, acts)).1) /\ (Hq b p n l (p.Al, acts)).2.length <= acts.length + l.length := by
  unfold Qe
  refine Ok.andThen (A:=λ s=>s=Hq b p n l (p.Al,acts)/\Aq b (Bj p s.1)/\s.2.length<=acts.length+l.length) (B:=λ (_:Unit)=>False) ?_ (λ s hs=>?_) (λ _ h=>h.elim)
  ·refine c7 (I:=λ j s=>s=Hq b p n (l.take j) (p.Al,acts)/\Aq b (Bj p s.1)/\s.2.length<=acts.length+j) ⟨rfl,hp,by simp⟩ (λ j c s hc hI=>?_) λ s hI=>?_
   ·obtain⟨h1,h2,h3⟩:=hI
    have hj:j<l.length:=(aa.1 hc).1
    have hin:=hl c (ae hc)
    obtain⟨g1,g2,g3,g4⟩:=O5 h h2 hin.1 hin.2
    have hco:=(h.co c.toNat _ (Fl (b:=b) (i:=c.toNat) (by omega))).2.1
    have hcl:=(h.co c.toNat _ (Fl (b:=b) (i:=c.toNat) (by omega))).1
    have hex:=A1r h h2 hn
    have hE:=Abs h h2 s.2 hn
    have hsucc:Hq b p n (l.take (j+1)) (p.Al,acts)=J0 b p n s c:=by
     rw [Bg hc,h1];unfold Hq;rw [aM];rfl
    have hok:=Al6 (n:=n) h h2 hin.1 hin.2
    have hless:w64 ((Bj p s.1).Al.getD c.toNat 0-(b.Af.getD c.toNat default).Least)=(Bj p s.1).Al.getD c.toNat 0-(b.Af.getD c.toNat default).Least:=A6 (by omega)
    have hlen:s.1.length=b.Af.length:=h2.nli
    unfold Vd
    refine Ok.bind (P:=λ y=>y=Bu b (Bj p s.1) n) (c8 hE rfl) λ y hy=>?_
    subst hy
    refine Ok.bind (P:=λ y=>y=(Bj p s.1).Al.getD c.toNat 0) (c8 g1 rfl) λ y hy=>?_
    subst hy
    refine Ok.bind (P:=λ y=>y=b.Af.getD c.toNat default) (c8 (A4u hin.1 hin.2) rfl) λ y hy=>?_
    subst hy
    have em:min (Bu b (Bj p s.1) n) (w64 ((Bj p s.1).Al.getD c.toNat 0-(b.Af.getD c.toNat default).Least))=Dq b (Bj p s.1) n c:=by rw [hless];rfl
    have hlb:0<Dq b (Bj p s.1) n c->0<=(Bj p s.1).Al.getD c.toNat 0-Dq b (Bj p s.1) n c/\(Bj p s.1).Al.getD c.toNat 0-Dq b (Bj p s.1) n c<=50000:=λ hh=>by
     have hm:Dq b (Bj p s.1) n c<=(Bj p s.1).Al.getD c.toNat 0-(b.Af.getD c.toNat default).Least:=cJ _ _
     omega
    refine c4 (λ hq=>?_) (λ hq=>?_)
    ·simp only [Yg,em,dw,gt_iff_lt] at hq
     have hb2:=hlb hq
     rw [em,A6 (by omega)]
     have eS:J0 b p n s c=(s.1.set c.toNat (s.1.getD c.toNat 0-Dq b (Bj p s.1) n c),s.2++[⟨5,c,s.1.getD c.toNat 0-Dq b (Bj p s.1) n c⟩]):=by unfold J0;rw [if_pos hq]
     refine (cU hin.1 (by omega)).bind λ y hy=>?_
     subst hy
     refine Ok.bind (P:=λ v=>v=s.1.getD c.toNat 0-Dq b (Bj p s.1) n c) ?_ λ v hv=>?_
     ·refine (cS hin.1 (by rw [be];omega)).mono λ v hv=>?_
      rw [bE (by omega)] at hv
      cases hv;rfl
     ·subst hv
      refine (cV (by simp;omega)).bind λ w hw=>c6 ?_
      subst hw
      rw [hsucc,eS]
      rw [eS] at hok
      exact⟨rfl,hok,by simp;omega⟩
    ·simp only [Yg,em,dx,gt_iff_lt] at hq
     have eS:J0 b p n s c=s:=by unfold J0;rw [if_neg hq]
     refine c6 ?_
     rw [hsucc,eS]
     exact⟨rfl,h2,by show s.2.length<=_;omega⟩
   ·rw [ay] at hI
    exact hI
  ·obtain⟨h1,h2,h3⟩:=hs
   subst h1
   exact c5 ⟨rfl,h2,h3⟩
 obtain⟨r,e,h1,h2⟩:=key
 rw [h1] at e
 exact⟨e,h2⟩
def isC (c:Int) (x:Ag):Bool:=x.Kind==3&&x.B==c
theorem Aqx {b:Aa} (h:Ar b) {p:Ab} (hp:Aq b p) {acts:List Ak} (ha:acts.length<=100000) (c:Int):Vj ⟨b,p,acts⟩ c=some (⟨b,Ba p (acC b p.Ae (isC c)),acts++acA b p.Ae (isC c)⟩,c):=by
 have hbl:=h.brl
 have hnc:=hp.ncl
 refine cZ ?_
 unfold Vj
 refine Ok.andThen (A:=λ s=>s=B2 b p.Ae (isC c) b.Ad.length) (B:=λ (_:Unit)=>False) ?_ (λ s hs=>?_) (λ _ h=>h.elim)
 ·refine c7 (I:=λ j s=>s=B2 b p.Ae (isC c) j) rfl (λ j x s hx hs=>?_) λ s hs=>hs
  have hj:j<b.Ad.length:=(aa.1 hx).1
  have hfl:=G4 b p.Ae (isC c) j
  have hfs:=J6 (C:=p.Ae) (q:=isC c) hx
  subst hs
  unfold Vi
  rw [Cw (by omega),A8 (Gz hp hj)]
  simp only [ab]
  have e:U5 x c=isC c x:=rfl
  rw [e,hfs]
  cases (p.Ae.getD j false&&isC c x) with
  | false=>refine c6 ?_;simp
  | true=>
   refine Ok.bind (P:=λ y=>y=B2 b p.Ae (isC c) j++[(j:Int)]) (cV (by simp;omega)) λ y hy=>c6 ?_
   rw [hy];simp
 ·subst hs
  have hfl:=G4 b p.Ae (isC c) b.Ad.length
  refine Ok.andThen (X0 (b:=b) (p:=p) (acts:=acts) (l:=B2 b p.Ae (isC c) b.Ad.length) (by omega) λ i hi=>?_) (λ s hs=>?_) (λ _ h=>h.elim)
  ·obtain⟨k,rfl,hk,_⟩:=G3.1 hi
   omega
  ·subst hs
   exact c5 rfl
def Gh (b:Aa) (p:Ab) (n:Nat) (z:List Bool×List Ak) (c:Int):List Bool×List Ak:=
 if 0<p.Al.getD c.toNat 0/\0<Bu b (Ba p z.1) n then (acC b z.1 (isC c),z.2++acA b z.1 (isC c)) else z
def Ei (b:Aa) (p:Ab) (n:Nat) (l:List Int) (z:List Bool×List Ak):List Bool×List Ak:=l.foldl (Gh b p n) z
theorem A0p {b:Aa} (h:Ar b) {p:Ab} (hp:Aq b p) {acts:List Ak} {l:List Int} (hl:∀ c,c∈l->0<=c/\c<b.Af.length) (ha:acts.length+24*l.length<=100000) {n:Nat} (hn:n<b.Am.toNat) :
  Qd ⟨b,p,acts⟩ l (n:Int)=some ⟨b,Ba p (Ei b p n l (p.Ae,acts)).1,(Ei b p n l (p.Ae,acts)).2⟩/\Aq b (Ba p (Ei b p n l (p.Ae,acts)).1)/\(Ei b p n l (p.Ae,acts)).2.length<=acts.length+24*l.length:=by
 have hbl:=h.brl
 have key : Ok (Qd ⟨b, p, acts⟩ l (n : Int)) λ y => y = ⟨b, Ba p (Ei b p n l (p.Ae, acts)).1, (Ei b p n l (p.Ae, acts)).2⟩ /\ Aq b (Ba p (Ei b p n l (p.Ae, acts)).1) /\ (Ei b p n l (p.Ae, acts)).2.length <= acts.length + 24 * l.length := by
  unfold Qd
  refine Ok.andThen (A:=λ s=>∃ z:List Bool×List Ak,s=(b.Am,b.Ad,b.Ac,b.Af,b.Phase,b.Au,z.1,p.Ac,p.Al,p.Ah,z.2)/\z=Ei b p n l (p.Ae,acts)/\Aq b (Ba p z.1)/\z.2.length<=acts.length+24*l.length) (B:=λ (_:Unit)=>False) ?_ (λ s hs=>?_) (λ _ h=>h.elim)
  ·refine c7 (I:=λ j s=>∃ z:List Bool×List Ak,s=(b.Am,b.Ad,b.Ac,b.Af,b.Phase,b.Au,z.1,p.Ac,p.Al,p.Ah,z.2)/\z=Ei b p n (l.take j) (p.Ae,acts)/\Aq b (Ba p z.1)/\z.2.length<=acts.length+24*j) ⟨(p.Ae,acts),rfl,rfl,hp,by simp⟩ (λ j c s hc hI=>?_) λ s hI=>?_
   ·obtain⟨z,h0,h1,h2,h3⟩:=hI
    subst h0
    have hj:j<l.length:=(aa.1 hc).1
    have hin:=hl c (ae hc)
    obtain⟨g1,g2,g3,g4⟩:=O5 h hp hin.1 hin.2
    have hE:=Abs h h2 z.2 hn
    have hsucc:Ei b p n (l.take (j+1)) (p.Ae,acts)=Gh b p n z c:=by
     rw [Bg hc,h1];unfold Ei;rw [aM];rfl
    unfold Vc
    refine Ok.bind (P:=λ y=>y=p.Al.getD c.toNat 0) (c8 g1 rfl) λ y hy=>?_
    subst hy
    have stay:¬(0<p.Al.getD c.toNat 0/\0<Bu b (Ba p z.1) n)->∃ w:List Bool×List Ak,(b.Am,b.Ad,b.Ac,b.Af,b.Phase,b.Au,z.1,p.Ac,p.Al,p.Ah,z.2)=(b.Am,b.Ad,b.Ac,b.Af,b.Phase,b.Au,w.1,p.Ac,p.Al,p.Ah,w.2)/\w=Ei b p n (l.take (j+1)) (p.Ae,acts)/\Aq b (Ba p w.1)/\w.2.length<=acts.length+24*(j+1):=λ hh=>by
     have eS:Gh b p n z c=z:=by unfold Gh;rw [if_neg hh]
     exact⟨z,rfl,by rw [hsucc,eS],h2,by omega⟩
    cases hq:decide (p.Al.getD c.toNat 0>0) with
    | false=>
     simp only [dx] at hq
     exact c6 (stay λ hh=>hq hh.1)
    | true=>
     simp only [dw] at hq
     refine Ok.bind (P:=λ y=>y=Bu b (Ba p z.1) n) (c8 hE rfl) λ y hy=>?_
     subst hy
     cases hq2:decide (Bu b (Ba p z.1) n>0) with
     | false=>
      simp only [dx] at hq2
      exact c6 (stay λ hh=>hq2 hh.2)
     | true=>
      simp only [dw] at hq2
      have hS:=Aqx h h2 (acts:=z.2) (by omega) c
      refine Ok.bind (P:=λ y=>y=_) (c8 hS rfl) λ y hy=>c6 ?_
      subst hy
      have eS:Gh b p n z c=(acC b z.1 (isC c),z.2++acA b z.1 (isC c)):=by unfold Gh;rw [if_pos ⟨hq,hq2⟩]
      refine⟨(acC b z.1 (isC c),z.2++acA b z.1 (isC c)),rfl,by rw [hsucc,eS],P6 h2 (isC c),?_⟩
      have:=Wn b z.1 (isC c)
      show (z.2++acA b z.1 (isC c)).length<=_
      rw [aI];omega
   ·rw [ay] at hI
    exact hI
  ·obtain⟨z,h0,h1,h2,h3⟩:=hs
   subst h0;subst h1
   exact c5 ⟨rfl,h2,h3⟩
 obtain⟨r,e,h1,h2⟩:=key
 rw [h1] at e
 exact⟨e,h2⟩
def Dg (x:Aj) (c:Int):Bool:=x.Af.any (c == ·)
theorem Azm {x:Aj} (hx:x.Af.length<=1000) (c:Int):Qf c x=some (!Dg x c):=by
 unfold Qf
 rw [Eu _ _ (by omega)];rfl
theorem Abx {x:Aj} (hx:x.Af.length<=1000):∀ (l:List Int) (k:Nat),foldI (Ov x) l k ()=match l.findIdx? λ c=>!Dg x c with
  | some j=>some (.ret (cnt 0 (k+j),x))
  | none=>some (.next ())
 | [],_=>rfl
 | c::l,k=>by
  simp only [foldI,Ov,Azm hx,ab,List.findIdx?_cons]
  cases hq:(!Dg x c) with
  | true=>rfl
  | false=>
   simp only [cond_false,bM,if_false]
   rw [Abx hx l (k+1)]
   cases l.findIdx? λ c=>!Dg x c with
   | none=>rfl
   | some j=>
    have e:k+1+j=k+(j+1):=by omega
    simp only [bQ,e]
theorem A1t {x:Aj} (hx:x.Af.length<=1000) (l:List Int) (hl:l.length<=1000):Vf l x=some (l.filter (Dg x),x):=by
 refine cZ ?_
 unfold Vf uZ
 rw [Abx hx]
 cases hf:l.findIdx? λ c=>!Dg x c with
 | none=>
  rw [cP] at hf
  refine c5 ?_
  have:l.filter (Dg x)=l:=by
   rw [cA]
   intro c hc
   have:=hf c hc
   simpa using this
  rw [this]
 | some i=>
  rw [cQ] at hf
  obtain⟨hi,hp,hn⟩:=hf
  have e0:cnt 0 (0+i)=(i:Int):=by rw [aL];exact Cw (by omega)
  simp only [e0,andThen,ab]
  refine c4 (λ hc=>?_) (λ _=>?_)
  ·simp only [dy] at hc;omega
  have e1:w64 ((i:Int)+1)=(i:Int)+1:=A6 (by omega)
  rw [e1]
  refine Ok.andThen (A:=λ s=>0<=s.1/\s.1<=(l.length:Int)/\s.2.2.length=l.length/\s.2.2.take s.1.toNat=l.filter (Dg x)) (B:=λ (_:Unit)=>False) ?_ ?_ (λ _ h=>h.elim)
  ·refine c9 (λ s=>(0<=s.1/\s.1<s.2.1/\s.2.1<=(l.length:Int))/\s.2.2.length=l.length/\s.2.2.take s.1.toNat=(l.take s.2.1.toNat).filter (Dg x)/\s.2.2.drop s.2.1.toNat=l.drop s.2.1.toNat) (λ s=>((l.length:Int)-s.2.1).toNat) _ _ ?_ ?_ ?_
   ·refine⟨by dsimp only;omega,rfl,?_,rfl⟩
    dsimp only
    have e2:((i:Int)+1).toNat=i+1:=by omega
    rw [e2,ai,Bg (af hi),bk]
    have h1:(l.take i).filter (Dg x)=l.take i:=by
     rw [cA]
     intro c hc
     obtain⟨j,hj,rfl⟩:=bP hc
     simp only [aF] at hj
     rw [List.getElem_take]
     have:=hn j (by omega)
     simpa using this
    have h2:Dg x l[i]=false:=by simpa using hp
    rw [h1]
    simp [h2]
   ·dsimp only;omega
   ·rintro⟨a,j,m⟩ ⟨⟨h1,h2,h3⟩,h4,h5,h6⟩
    dsimp only at h1 h2 h3 h4 h5 h6
    unfold Ve Ah4
    dsimp only
    refine c4 (λ hq=>?_) (λ hq=>?_)
    ·simp only [dw] at hq
     have e1:w64 (j+1)=j+1:=A6 (by omega)
     have e2:w64 (a+1)=a+1:=A6 (by omega)
     have e3:(j+1).toNat=j.toNat+1:=by omega
     have e4:(a+1).toNat=a.toNat+1:=by omega
     refine (cS (by omega) (by omega)).bind λ y hy=>?_
     have hyl:l[j.toNat]? = some y:=by
      have:=congrArg (·[0]?) h6
      simp only [ar,ck] at this
      rw [←this];exact hy
     have hdrop:∀ (q:List Int),q.drop j.toNat=l.drop j.toNat->q.drop (j.toNat+1)=l.drop (j.toNat+1):=λ q hq=>by
      rw [←bO,hq,bO]
     rw [Azm hx]
     simp only [ab,Bool.not_not]
     refine c4 (λ hf=>?_) (λ hf=>?_)
     ·refine (cS (by omega) (by omega)).bind λ _ _=>(cU (by omega) (by omega)).bind λ z hz=>?_
      rw [e1,e2]
      subst hz
      refine c6 ⟨⟨by dsimp only;omega,by simpa using h4,?_,?_⟩,by dsimp only;omega⟩
      ·dsimp only
       rw [e3,e4,Bg hyl,bk,←h5]
       rw [Bg (x:=y) (by rw [bE (by omega)])]
       simp [hf,List.take_set_of_le]
      ·dsimp only
       rw [e3,List.drop_set_of_lt (by omega)]
       exact hdrop m h6
     ·rw [e1]
      refine c6 ⟨⟨by dsimp only;omega,h4,?_,?_⟩,by dsimp only;omega⟩
      ·dsimp only
       rw [e3,Bg hyl,bk,←h5]
       simp [hf]
      ·dsimp only
       rw [e3];exact hdrop m h6
    ·simp only [dx] at hq
     have e:j.toNat=l.length:=by omega
     refine cW ⟨h1,by dsimp only;omega,h4,?_⟩
     dsimp only
     rw [h5,e,ay]
  ·rintro⟨a,j,m⟩ ⟨h1,h2,h3,h4⟩
   dsimp only at h1 h2 h3 h4 ⊢
   have hc:(G5 m a.toNat ((Int.toNat (m.length:Int))-a.toNat) (0:Int)).length=l.length:=by
    simp [G5];omega
   refine (Ok.bndI h1 (by omega) (by omega)).bind λ _ _=>(Ok.bndI (by omega) h1 (by rw [hc];omega)).bind λ _ _=>c5 ?_
   rw [←h4]
   unfold G5
   rw [Nat.sub_zero,bZ (by simp;omega),cm,Nat.min_self]
def Fu (b:Aa) (x:Aj):List Int:=(Cc b).filter (Dg x)
theorem V1 {b:Aa} (h:Ar b) {x:Aj} {c:Int} (hc:c∈Fu b x):0<=c/\c<b.Af.length:=jD h (an.1 hc).1
theorem Axe {b:Aa} (h:Ar b) (x:Aj):(Fu b x).length<=16:=by
 have h1:=bh (Dg x) (Cc b)
 have h2:=vY h
 have h3:=h.col
 unfold Fu;omega
def Ed (x:Aj):Nat:=(x.Am.headD 0).toNat
def Iu (b:Aa) (x:Aj) (z:Ab×List Ak):List Int×List Ak:=Hq b z.1 (Ed x) (Fu b x) (z.1.Al,z.2)
def M7 (b:Aa) (x:Aj) (z:Ab×List Ak):List Bool×List Ak:=Ei b (Bj z.1 (Iu b x z).1) (Ed x) (Fu b x) (z.1.Ae,(Iu b x z).2)
def H0 (b:Aa) (z:Ab×List Ak) (x:Aj):Ab×List Ak:=
 if 0<x.Ac.length then (Ba (Bj z.1 (Iu b x z).1) (M7 b x z).1,(M7 b x z).2) else z
def Gm (b:Aa) (l:List Aj) (z:Ab×List Ak):Ab×List Ak:=l.foldl (H0 b) z
structure A0k (b:Aa) (x:Aj):Prop where
 cons:x.Af.length<=16
 ne:x.Am≠[]
 bus:∀ n,n∈x.Am->0<=n/\n<b.Am
theorem jS {b:Aa} (h:Ar b) {p:Ab} {x:Aj} (hx:x∈Bd b p):A0k b x:=by
 have hcl:=h.col
 unfold Bd at hx
 obtain⟨h1,h2⟩:=an.1 hx
 obtain⟨f,hf,rfl⟩:=am.1 h1
 have hc:(isl b p f).Af.length<=b.Af.length:=De _ _
 refine⟨by omega,λ e=>?_,λ n hn=>?_⟩
 ·unfold Iw at h2
  rw [e] at h2;simp at h2
 ·obtain⟨k,hk,rfl⟩:=am.1 hn
  have:=aH.1 (an.1 hk).1
  omega
theorem Yi {b:Aa} {x:Aj} (hx:A0k b x):getI x.Am 0=some ((Ed x:Nat):Int)/\Ed x<b.Am.toNat:=by
 unfold Ed
 cases hb:x.Am with
 | nil=>exact absurd hb hx.ne
 | cons n l=>
  have:=hx.bus n (by rw [hb];exact ah)
  simp only [List.headD_cons]
  refine⟨?_,by omega⟩
  have e:(n.toNat:Int)=n:=by omega
  rw [e];rfl
theorem A0y {b:Aa} (h:Ar b) {p:Ab} (hp:Aq b p) {acts:List Ak} (ha:acts.length<=1000) :
  Wv ⟨b,p,acts⟩=some ⟨b,(Gm b (Bd b p) (p,acts)).1,(Gm b (Bd b p) (p,acts)).2⟩/\Aq b (Gm b (Bd b p) (p,acts)).1/\(Gm b (Bd b p) (p,acts)).2.length<=10000:=by
 have hil:=Ps b p
 have hbu:=h.buses
 have hcl:=h.col
 have hol:=vY h
 have key:Ok (Wv ⟨b,p,acts⟩) λ y=>y=⟨b,(Gm b (Bd b p) (p,acts)).1,(Gm b (Bd b p) (p,acts)).2⟩/\Aq b (Gm b (Bd b p) (p,acts)).1/\(Gm b (Bd b p) (p,acts)).2.length<=10000:=by
  unfold Wv
  simp only [(I8 h).1,ab]
  have hi:Zd b p=some (Bd b p):=J4 h hp
  refine Ok.bind (P:=λ y=>y=Bd b p) (c8 hi rfl) λ y hy=>?_
  subst hy
  refine Ok.andThen (A:=λ s=>∃ z:Ab×List Ak,s=(b.Am,b.Ad,b.Ac,b.Af,b.Phase,b.Au,z.1.Ae,z.1.Ac,z.1.Al,z.1.Ah,z.2)/\z=Gm b (Bd b p) (p,acts)/\Aq b z.1/\z.2.length<=10000) (B:=λ (_:Unit)=>False) ?_ (λ s hs=>?_) (λ _ h=>h.elim)
  ·refine c7 (I:=λ j s=>∃ z:Ab×List Ak,s=(b.Am,b.Ad,b.Ac,b.Af,b.Phase,b.Au,z.1.Ae,z.1.Ac,z.1.Al,z.1.Ah,z.2)/\z=Gm b ((Bd b p).take j) (p,acts)/\Aq b z.1/\z.2.length<=1000+400*j) ⟨(p,acts),rfl,rfl,hp,by simpa using ha⟩ (λ j x s hx hI=>?_) λ s hI=>?_
   ·obtain⟨z,h0,h1,h2,h3⟩:=hI
    subst h0
    have hj:j<(Bd b p).length:=(aa.1 hx).1
    have hin:=jS h (ae hx)
    have hsucc:Gm b ((Bd b p).take (j+1)) (p,acts)=H0 b z x:=by
     rw [Bg hx,h1];unfold Gm;rw [aM];rfl
    have hc:=hin.cons
    have hol2:=Axe h x
    obtain⟨e0,hb0⟩:=Yi hin
    unfold Yz
    have ecl:F80 (Cc b)=some (Cc b):=by
     unfold F80
     rw [Rx (by omega)]
    rw [ecl]
    simp only [ab]
    rw [A1t (by omega) _ (by omega)]
    simp only [ab]
    refine c4 (λ hq=>?_) (λ hq=>?_)
    ·simp only [dw] at hq
     rw [e0]
     simp only [ab]
     obtain⟨l1,l2,l3⟩:=Axo h h2 (acts:=z.2) (l:=Fu b x) (λ c hc=>V1 h hc) (by omega) hb0
     refine Ok.bind (P:=λ y=>y=_) (c8 l1 rfl) λ y hy=>?_
     subst hy
     obtain⟨t1,t2,t3⟩:=A0p h l2 (acts:=(Iu b x z).2) (l:=Fu b x) (λ c hc=>V1 h hc) (by unfold Iu;omega) hb0
     refine Ok.bind (P:=λ y=>y=_) (c8 t1 rfl) λ y hy=>c6 ?_
     subst hy
     have eS:H0 b z x=(Ba (Bj z.1 (Iu b x z).1) (M7 b x z).1,(M7 b x z).2):=by unfold H0;rw [if_pos (by omega)]
     refine⟨(Ba (Bj z.1 (Iu b x z).1) (M7 b x z).1,(M7 b x z).2),rfl,by rw [hsucc,eS],t2,?_⟩
     have t4:(M7 b x z).2.length<=(Iu b x z).2.length+24*(Fu b x).length:=t3
     have l4:(Iu b x z).2.length<=z.2.length+(Fu b x).length:=l3
     show (M7 b x z).2.length<=_
     omega
    ·simp only [dx] at hq
     have eS:H0 b z x=z:=by unfold H0;rw [if_neg (by omega)]
     exact c6 ⟨z,rfl,by rw [hsucc,eS],h2,by omega⟩
   ·rw [ay] at hI
    obtain⟨z,h0,h1,h2,h3⟩:=hI
    exact⟨z,h0,h1,h2,by omega⟩
  ·obtain⟨z,h0,h1,h2,h3⟩:=hs
   subst h0;subst h1
   exact c5 ⟨rfl,h2,h3⟩
 obtain⟨r,e,h1,h2⟩:=key
 rw [h1] at e
 exact⟨e,h2⟩
def A2c (b:Aa) (p:Ab):Ab×List Ak:=Gm b (Bd b (Gv b p)) (Gv b p,zF b p)
def Gn (b:Aa) (p:Ab):Ab:=(A2c b p).1
def Anp (b:Aa) (p:Ab):List Ak:=(A2c b p).2
theorem Qz {b:Aa} (h:Ar b) {p:Ab} (hp:Aq b p):F31 b p=some (Gn b p,Anp b p,0)/\Aq b (Gn b p)/\(Anp b p).length<=10000:=by
 have hbl:=h.brl
 have hcl:=Ayk b p
 obtain⟨s1,s2,s3⟩:=A0y h (Jm hp) (acts:=zF b p) (by omega)
 refine⟨?_,s2,s3⟩
 unfold F31 Aed Aec
 rw [Cm h hp,D8 h hp]
 simp only [ab,dD,cond_false]
 rw [Aym h hp]
 simp only [ab]
 rw [s1]
 rfl
theorem Oh {α:Type} {f:Nat->α->Unit->Option (Ctl Unit Bool)} {l m:List α} {e:α->α->Bool} (he:∀ x y,e x y=true->x=y)
  (hf:∀ (j:Nat) x y,l[j]? = some x->m[j]? = some y->f j x ()=bif !e x y then some (.ret false) else some (.next ())) (hl:l.length=m.length) :
  Ok (andThen (foldI f l 0 ()) some λ _=>some true) λ v=>v=true->l=m:=by
 refine Ok.andThen (A:=λ _=>l=m) (B:=λ v=>v=false) ?_ (λ _ hs=>c5 λ _=>hs) (λ v hv=>c5 λ hh=>by rw [hv] at hh;cases hh)
 refine c7 (I:=λ j _=>l.take j=m.take j) rfl (λ j x _ hx hI=>?_) λ _ hI=>?_
 ·have hj:=(aa.1 hx).1
  have hy:m[j]? = some (m[j]'(by omega)):=af (by omega)
  rw [hf j x _ hx hy]
  refine c4 (λ _=>Ok.ret rfl) (λ hq=>c6 ?_)
  have:=he _ _ (by simpa using hq)
  rw [Bg hx,Bg hy,hI,←this]
 ·rw [ay] at hI
  rw [hI,hl,ay]
theorem A3s {l m:List Bool} (h:l.length<=1000):Ok (F72 l m) λ v=>v=true->l=m:=by
 unfold F72
 refine c4 (λ _=>c5 λ hh=>by cases hh) (λ hq=>?_)
 have hl:l.length=m.length:=by simp only [dC] at hq;omega
 refine Oh (e:=λ x y=>x==y) (λ x y hh=>by simpa using hh) (λ j x y hx hy=>?_) hl
 have hj:=(aa.1 hx).1
 unfold Ajt
 rw [Cw (by omega),A8 hy];rfl
theorem A3r {l m:List Int} (h:l.length<=1000):Ok (F74 l m) λ v=>v=true->l=m:=by
 unfold F74
 refine c4 (λ _=>c5 λ hh=>by cases hh) (λ hq=>?_)
 have hl:l.length=m.length:=by simp only [dC] at hq;omega
 refine Oh (e:=λ x y=>x==y) (λ x y hh=>by simpa using hh) (λ j x y hx hy=>?_) hl
 have hj:=(aa.1 hx).1
 unfold Ajr
 rw [Cw (by omega),A8 hy];rfl
theorem A3p {l m:List Ai} (h:l.length<=1000):Ok (F73 l m) λ v=>v=true->l=m:=by
 unfold F73
 refine c4 (λ _=>c5 λ hh=>by cases hh) (λ hq=>?_)
 have hl:l.length=m.length:=by simp only [dC] at hq;omega
 refine Oh (e:=λ x y=>(x.State==y.State)&&((x.Since==y.Since)&&((x.Au==y.Au)&&((x.Phase==y.Phase)&&true)))) (λ x y hh=>?_) (λ j x y hx hy=>?_) hl
 ·simp only [ac,dy] at hh
  obtain⟨h1,h2,h3,h4,_⟩:=hh
  cases x;cases y;simp_all
 ·have hj:=(aa.1 hx).1
  unfold Ajs
  rw [Cw (by omega),A8 hy];rfl
theorem A3q {l m:List As} (h:l.length<=1000):Ok (F75 l m) λ v=>v=true->l=m:=by
 unfold F75
 refine c4 (λ _=>c5 λ hh=>by cases hh) (λ hq=>?_)
 have hl:l.length=m.length:=by simp only [dC] at hq;omega
 refine Oh (e:=λ x y=>(x.Kind==y.Kind)&&((x.Number==y.Number)&&true)) (λ x y hh=>?_) (λ j x y hx hy=>?_) hl
 ·simp only [ac,dy] at hh
  obtain⟨h1,h2,_⟩:=hh
  cases x;cases y;simp_all
 ·have hj:=(aa.1 hx).1
  unfold Ajq
  rw [Cw (by omega),A8 hy];rfl
def Qu (p q:Ab):Bool:=(F32 p q).getD false
theorem A00 {p:Ab} (hp:A5i p) (q:Ab):F32 p q=some (Qu p q)/\(Qu p q=true->p=q):=by
 have h1:=hp.c
 have h2:=hp.s
 have h3:=hp.l
 have h4:=hp.k
 have key:Ok (F32 p q) λ v=>v=true->p=q:=by
  unfold F32
  refine (A3s (l:=p.Ae) (m:=q.Ae) (by omega)).bind λ v1 e1=>?_
  cases v1 with
  | false=>exact c5 λ hh=>by simp at hh
  | true=>
   refine Ok.bind (P:=λ v=>v=true->p.Ac=q.Ac) (A3p (by omega)) λ v2 e2=>?_
   cases v2 with
   | false=>exact c5 λ hh=>by simp at hh
   | true=>
    refine Ok.bind (P:=λ v=>v=true->p.Al=q.Al) (A3r (by omega)) λ v3 e3=>?_
    cases v3 with
    | false=>exact c5 λ hh=>by simp at hh
    | true=>
     refine Ok.bind (P:=λ v=>v=true->p.Ah=q.Ah) (A3q (by omega)) λ v4 e4=>c5 λ hh=>?_
     have w1:=e1 rfl
     have w2:=e2 rfl
     have w3:=e3 rfl
     have w4:=e4 (by simpa using hh)
     cases p;cases q;simp_all
 obtain⟨r,e,hr⟩:=key
 have:Qu p q=r:=by unfold Qu;rw [e];rfl
 rw [this]
 exact⟨e,hr⟩
def Gw (b:Aa) (p:Ab) (t:Int) (a:Ak):Ab×Int:=(F27 b p t a).getD default
theorem Amm {b:Aa} (h:Ar b) {p:Ab} (hp:Aq b p) (t:Int) (a:Ak):F27 b p t a=some (Gw b p t a)/\((Gw b p t a).2≠0\/Aq b (Gw b p t a).1):=by
 obtain⟨r,e,hr⟩:=A48 h hp t a
 have:Gw b p t a=r:=by unfold Gw;rw [e];rfl
 rw [this]
 exact⟨e,hr.imp (·.1) (·.2)⟩
def yW (b:Aa) (p:Ab) (t:Int) (a:Ak):Int:=if a.Kind=7 then 1 else (Gw b p t a).2
def Anu (b:Aa) (p:Ab) (t:Int) (a:Ak):Ab:=(Gw b p t a).1
def doP (b:Aa) (p:Ab) (t:Int) (a:Ak):Ab:=if yW b p t a=0 then Gn b (Anu b p t a) else p
theorem A3o {b:Aa} (h:Ar b) {p:Ab} (hp:Aq b p) {t:Int} {a:Ak} (he:yW b p t a=0):Aq b (Anu b p t a)/\(Gw b p t a).2=0/\a.Kind≠7:=by
 unfold yW at he
 by_cases hk:a.Kind=7
 ·rw [if_pos hk] at he;omega
 ·rw [if_neg hk] at he
  rcases (Amm h hp t a).2 with h1 | h1
  ·exact absurd he h1
  ·exact⟨h1,he,hk⟩
theorem A4s {b:Aa} (h:Ar b) {p:Ab} (hp:Aq b p) (t:Int) (a:Ak):Aq b (doP b p t a):=by
 unfold doP
 split
 ·rename_i he
  exact (Qz h (A3o h hp he).1).2.1
 ·exact hp
theorem Azk {b:Aa} (h:Ar b) {p:Ab} (hp:Aq b p) {n:Nat} (hn:n<b.Am.toNat):H_ b p (n:Int)=some (isl b p (Bh b p n),true):=of_eq h hp hn
def Ep (b:Aa) (T:Int) (p:Ab) (l:List Ak):Ab:=l.foldl (λ q a=>doP b q T a) p
theorem Pi {b:Aa} (h:Ar b) (T:Int):∀ (l:List Ak) {p:Ab},Aq b p->Aq b (Ep b T p l)
 | [],_,hp=>hp
 | a::l,_,hp=>Pi h T l (A4s h hp T a)
def wtP (b:Aa) (P:Ab) (T:Int):Ab:=(Gw b P T ⟨7,0,0⟩).1
theorem Aei {b:Aa} (h:Ar b) {P:Ab} (hp:Aq b P) {T:Int} (hT:0<=T/\T<=2147483648):F27 b P T ⟨7,0,0⟩=some (wtP b P T,0)/\Aq b (wtP b P T)/\∃ w,Kb ⟨b,P,T⟩=some w/\w.Ao=wtP b P T:=by
 obtain⟨w,hw,hwo⟩:=Alc h hp T
 have key:F27 b P T ⟨7,0,0⟩=some (w.Ao,0):=by
  refine cZ ?_
  unfold F27
  rw [Cm h hp,A2l,D8 h hp]
  simp only [ab]
  refine c4 (λ hc=>by simp at hc) (λ _=>c4 (λ hc=>?_) (λ _=>c4 (λ hc=>by simp at hc) (λ _=>?_)))
  ·simp [Ado] at hc;omega
  ·have:Oq ⟨b,P,T⟩ ⟨7,0,0⟩=some (0,w):=by
    unfold Oq
    rw [hw];rfl
   rw [this]
   exact c5 rfl
 have e:wtP b P T=w.Ao:=by unfold wtP Gw;rw [key];rfl
 rw [e]
 exact⟨key,hwo,w,hw,rfl⟩
theorem Afn {α:Type} {l:List α} {x:α} {j:Nat} (h:l[j]? = some x):l.set j x=l:=by
 obtain⟨hj,e⟩:=aa.1 h
 rw [←e];exact List.set_getElem_self hj
def C5 (x:Ai):Ai:=if x.State=2 then ⟨x.State,x.Since,x.Au,Hr (w64 (x.Phase+w64 (36*w64 (x.Au-5000))))⟩ else x
theorem Alj {α:Type} {l m:List α} {x:α} {v:α} {j:Nat} (h:m[j]? = some x) (hl:l.length=m.length):(l.take j++m.drop j).set j v=l.take j++v::m.drop (j+1):=by
 have hj:=(aa.1 h).1
 rw [List.set_append_right _ _ (by simp;omega),cH hj]
 have:j-(l.take j).length=0:=by simp;omega
 rw [this];rfl
theorem A2i {α:Type} (f:α->α) {l:List α} {x:α} {j:Nat} (h:l[j]? = some x):(((l.map f).take j++l.drop j)[j]? = some x)/\(l.map f).take (j+1)++l.drop (j+1)=((l.map f).take j++l.drop j).set j (f x):=by
 have hj:=(aa.1 h).1
 constructor
 ·rw [aB (by simp;omega)]
  have:j-((l.map f).take j).length=0:=by simp;omega
  rw [this,ar];exact h
 ·rw [Alj h (by simp),Bg (x:=f x) (by simp [h]),aX];rfl
theorem A0n {b:Aa} (h:Ar b) {p:Ab} (hp:Aq b p):Za b p=some (⟨p.Ae,p.Ac.map C5,p.Al,p.Ah⟩,0):=by
 have hs:=h.sol
 have hn:=hp.nso
 refine cZ ?_
 unfold Za
 rw [Cm h hp,D8 h hp]
 simp only [ab]
 refine c4 (λ hc=>by simp at hc) (λ _=>?_)
 refine Ok.andThen (A:=λ s=>s=p.Ac.map C5) (B:=λ (_:Unit)=>False) ?_ (λ s hs=>c5 (by rw [hs])) (λ _ h=>h.elim)
 refine c7 (I:=λ j s=>s=(p.Ac.map C5).take j++p.Ac.drop j) rfl (λ j x s hx hs=>?_) λ s hs=>?_
 ·obtain⟨m1,m2⟩:=A2i C5 hx
  have hj:=(aa.1 hx).1
  subst hs
  unfold Wz
  rw [Cw (by omega),m2]
  refine c4 (λ hc=>?_) (λ hc=>c6 ?_)
  ·rw [A8 m1]
   simp only [ab]
   rw [M4 (by simp;omega)]
   refine c6 ?_
   unfold C5
   rw [if_pos (by simpa using hc)]
  ·unfold C5
   rw [if_neg (by simpa using hc)]
   exact (Afn m1).symm
 ·rw [hs,List.drop_length,aG,bN (by simp)]
def Jb (b:Aa) (C:List Bool) (i:Nat):Bool:=!C.getD (Ft b (i:Int)).toNat false
def Ez (b:Aa) (C:List Bool) (t:Int) (x:Ai) (i:Nat):Ai:=
 if (x.State=1/\Jb b C i=true)/\w64 (x.Since+(b.Ac.getD i default).Start)<=w64 (t+1) then ⟨2,x.Since,x.Au,x.Phase⟩ else x
def K6 (b:Aa) (C:List Bool) (t:Int) (l:List Ai) (j:Nat):List Ai:=((l.zipIdx.map λ z=>Ez b C t z.1 z.2).take j)++l.drop j
theorem Ank {b:Aa} {C:List Bool} {t:Int} {l:List Ai} {j:Nat} {x:Ai} (h:l[j]? = some x):(K6 b C t l j)[j]? = some x/\K6 b C t l (j+1)=(K6 b C t l j).set j (Ez b C t x j)/\(K6 b C t l j).length=l.length:=by
 have hj:=(aa.1 h).1
 unfold K6
 refine⟨?_,?_,by simp;omega⟩
 ·rw [aB (by simp;omega)]
  have:j-((l.zipIdx.map λ z=>Ez b C t z.1 z.2).take j).length=0:=by simp;omega
  rw [this,ar];exact h
 ·rw [Alj h (by simp),Bg (x:=Ez b C t x j) (by simp [h]),aX];rfl
def wtS (b:Aa) (p:Ab) (t:Int):Ab:=⟨p.Ae,K6 b p.Ae t (p.Ac.map C5) (p.Ac.map C5).length,p.Al,p.Ah⟩
theorem Xw {b:Aa} {i:Nat} (h:i<b.Ac.length):b.Ac[i]? = some (b.Ac.getD i default):=by
 rw [af h];simp [List.getD,List.getElem?_eq_getElem h]
theorem Al2 {b:Aa} (h:Ar b) {p:Ab} (hc:p.Ae.length=b.Ad.length) (t:Int) {i:Nat} (hi:i<b.Ac.length):Ka ⟨b,p,t⟩ (i:Int)=some (Jb b p.Ae i):=by
 obtain⟨j,x,e,hx,_⟩:=J9 h (i:=(i:Int)) (by omega) (by omega)
 have hj:=(aa.1 hx).1
 unfold Ka Jb
 rw [Io h,e,ai]
 simp only [ab]
 have hg:p.Ae[j]? = some (p.Ae.getD j false):=by
  rw [af (by omega)];simp [List.getD,List.getElem?_eq_getElem (show j<p.Ae.length by omega)]
 rw [A8 hg];rfl
theorem Ald {b:Aa} (h:Ar b) {p:Ab} (hp:Aq b p) (t:Int):Kb ⟨b,p,t⟩=some ⟨b,wtS b p t,t⟩:=by
 have hs:=h.sol
 have hn:=hp.nso
 refine cZ ?_
 unfold Kb
 rw [A0n h hp]
 simp only [ab]
 refine Ok.andThen (A:=λ s=>s.2=K6 b p.Ae t (p.Ac.map C5) (p.Ac.map C5).length) (B:=λ (_:Unit)=>False) ?_ (λ s hs=>c5 (by rw [hs];rfl)) (λ _ h=>h.elim)
 refine c9 (λ s=>∃ j:Nat,s.1=(j:Int)/\j<=p.Ac.length/\s.2=K6 b p.Ae t (p.Ac.map C5) j) (λ s=>(100-s.1).toNat) _ _ ⟨0,rfl,by omega,rfl⟩ (by dsimp only;omega) ?_
 rintro⟨z,s⟩ ⟨j,hz,hj,hsr⟩
 dsimp only at hz hsr
 subst hz
 unfold Oy Yh
 dsimp only
 refine c4 (λ hq=>?_) (λ hq=>cW ?_)
 ·simp only [dw,ax] at hq
  have hlt:j<p.Ac.length:=by omega
  obtain⟨x,hx⟩:∃ x,(p.Ac.map C5)[j]? = some x:=⟨_,af (by simp;omega)⟩
  obtain⟨r1,r2,r3⟩:=Ank (b:=b) (C:=p.Ae) (t:=t) hx
  rw [←hsr] at r1 r2 r3
  simp only [ax] at r3
  rw [A8 r1]
  simp only [ab]
  have ho:=Al2 h (p:=⟨p.Ae,s,p.Al,p.Ah⟩) hp.ncl t (i:=j) (by omega)
  have e1:w64 ((j:Int)+1)=((j+1:Nat):Int):=by rw [A6 (by omega)];omega
  rw [e1]
  have nxt:∀ v,v=Ez b p.Ae t x j->(∃ k:Nat,((j+1:Nat):Int)=(k:Int)/\k<=p.Ac.length/\s.set j v=K6 b p.Ae t (p.Ac.map C5) k):=λ v hv=>⟨j+1,rfl,by omega,by rw [hv,r2]⟩
  have stay:x=Ez b p.Ae t x j->s=s.set j (Ez b p.Ae t x j):=λ hv=>by
   rw [←hv];exact (Afn r1).symm
  cases hs1:(x.State==1) with
  | false=>
   have hno:x=Ez b p.Ae t x j:=by
    unfold Ez;rw [if_neg (λ hh=>by simp [hh.1.1] at hs1)]
   refine Ok.bind (P:=λ _=>True) (d5 (λ hg=>absurd hg.1 (by simp)) λ _=>trivial) λ _ _=>?_
   refine Ok.bind (P:=λ _=>True) (d5 (λ hg=>absurd hg.1 (by simp)) λ _=>trivial) λ _ _=>?_
   refine c4 (λ hc=>by simp [Nq,hs1] at hc) (λ _=>c6 ⟨?_,by dsimp only;omega⟩)
   dsimp only
   rw [stay hno]
   exact nxt _ rfl
  | true=>
   refine Ok.bind (P:=λ v=>v=Jb b p.Ae j) (c8 ho rfl) λ v hv=>?_
   subst hv
   cases ho1:Jb b p.Ae j with
   | false=>
    have hno:x=Ez b p.Ae t x j:=by
     unfold Ez;rw [if_neg (λ hh=>by simp [hh.1.2] at ho1)]
    refine Ok.bind (P:=λ _=>True) (d5 (λ hg=>absurd hg.1 (by simp)) λ _=>trivial) λ _ _=>?_
    refine c4 (λ hc=>by simp [Nq] at hc) (λ _=>c6 ⟨?_,by dsimp only;omega⟩)
    dsimp only
    rw [stay hno]
    exact nxt _ rfl
   | true=>
    refine Ok.bind (P:=λ v=>v=b.Ac.getD j default) (c8 (A8 (Xw (by omega))) rfl) λ v hv=>?_
    subst hv
    refine c4 (λ hc=>?_) (λ hc=>c6 ⟨?_,by dsimp only;omega⟩)
    ·simp only [Nq,hs1,bt,aO,dw] at hc
     rw [M4 (by omega)]
     refine c6 ⟨?_,by dsimp only;omega⟩
     exact nxt _ (by unfold Ez;rw [if_pos ⟨⟨by simpa using hs1,ho1⟩,hc⟩])
    ·simp only [Nq,hs1,bt,aO,dx] at hc
     have hno:x=Ez b p.Ae t x j:=by
      unfold Ez;rw [if_neg (λ hh=>hc hh.2)]
     dsimp only
     rw [stay hno]
     exact nxt _ rfl
 ·simp only [dx,ax] at hq
  have:j=(p.Ac.map C5).length:=by simp;omega
  dsimp only
  rw [hsr,this]
theorem A17 {b:Aa} (h:Ar b) {P:Ab} (hp:Aq b P) {T:Int} (hT:0<=T/\T<=2147483648):wtP b P T=wtS b P T:=by
 obtain⟨_,_,w,hw,e⟩:=Aei h hp hT
 rw [Ald h hp] at hw
 cases hw
 exact e.symm
end Go.Proofs.YtcigbocngfaopaaGreat
