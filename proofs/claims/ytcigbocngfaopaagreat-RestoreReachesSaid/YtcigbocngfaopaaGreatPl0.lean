import Derived.Test.YtcigbocngfaopaaGreatMo
import Derived.Test.YtcigbocngfaopaaGreatHo
namespace Go.Proofs.YtcigbocngfaopaaGreat
open Go.SL
theorem Mr {x n:Int} (h:0<n):-n<Int.tmod x n/\Int.tmod x n<n:=by
 have h1:=Int.tmod_lt_of_pos x h
 have h2:=Int.lt_tmod_of_pos x h
 exact⟨h2,h1⟩
theorem Amk {x n:Int} (h:0<n) (h0:0<=x):0<=Int.tmod x n/\Int.tmod x n<n:=⟨Int.tmod_nonneg n h0,(Mr h).2⟩
structure B6 (s:Au):Prop where
 lo:0<=s.At
 hi:s.At<=s.L.length
 len:s.L.length<=600
def InR (n r:Int):Prop:=(1<=n->0<=r/\r<n)/\(n<1->r=0)
theorem A68 (x n:Int) (h:n<=4611686018427387904):Ok (Alr x n) (InR n):=by
 unfold Alr
 refine c4 (λ h1=>?_) λ h1=>?_
 ·simp only [dx] at h1
  exact Ok.pure ⟨λ h2=>by omega,λ _=>rfl⟩
 ·simp only [dy] at h1
  refine (Ok.nzI (by omega)).bind λ _ _=>(Ok.nzI (by omega)).bind λ _ _=>Ok.pure ⟨λ _=>?_,λ h2=>by omega⟩
  have h2:=Mr (x:=x) (n:=n) (by omega)
  rw [A5 (by omega)]
  exact Amk (by omega) (by omega)
theorem A90 {s:Au} (hs:B6 s) (n:Int) (h:n<=4611686018427387904):Ok (F60 s n) λ y=>B6 y.2/\InR n y.1:=by
 obtain⟨h1,h2,h3⟩:=hs
 unfold F60
 refine c4 (λ h4=>?_) λ h4=>?_
 ·exact Ok.pure ⟨⟨h1,h2,h3⟩,λ h5=>⟨by simp,by show (0:Int)<n;omega⟩,λ _=>rfl⟩
 ·simp only [dy] at h4
  have e:w64 (s.At+1)=s.At+1:=A5 (by omega)
  rw [e,A5 (n:=s.At+1-1) (by omega)]
  refine (c9 (by omega) (by omega)).bind λ x _=>(A68 x n h).bind λ r hr=>Ok.pure ⟨⟨?_,?_,h3⟩,hr⟩
  ·show 0<=s.At+1;omega
  ·show s.At+1<=(s.L.length:Int);omega
theorem Gm {s:Au} (hs:B6 s) (n:Int) (h0:1<=n) (h:n<=4611686018427387904):Ok (F60 s n) λ y=>B6 y.2/\0<=y.1/\y.1<n:=
 (A90 hs n h).mono λ _ h=>⟨h.1,h.2.1 h0⟩
theorem Ajd {s:Au} (hs:B6 s) (lo hi:Int) (h:lo<=hi) (h0:-1000000000000<=lo) (h1:hi<=1000000000000):Ok (F64 s lo hi) λ y=>B6 y.2/\lo<=y.1/\y.1<=hi:=by
 unfold F64
 have e:w64 (w64 (hi-lo)+1)=hi-lo+1:=by rw [A5 (n:=hi-lo) (by omega),A5 (by omega)]
 rw [e]
 refine (Gm hs _ (by omega) (by omega)).bind λ y hy=>Ok.pure ⟨hy.1,?_⟩
 have:=hy.2
 show lo<=w64 (lo+y.1)/\w64 (lo+y.1)<=hi
 rw [A5 (by omega)]
 omega
theorem G6 {s:Au} (hs:B6 s) (l:List Int) (h:1<=l.length) (h1:l.length<=1000):Ok (F65 s l) λ y=>B6 y.2/\y.1∈l:=by
 unfold F65
 refine (Gm hs _ (by omega) (by omega)).bind λ y hy=>?_
 have:=hy.2
 refine (c9 (by omega) (by omega)).bind λ x hx=>Ok.pure ⟨hy.1,ae hx⟩
theorem A67 (l:List Int):Ok (F6 l) B6:=by
 unfold F6
 refine (Ok.cutI (by omega) (by omega) (by omega)).bind λ y hy=>Ok.pure ⟨by simp,by simp,?_⟩
 subst hy
 simp only [bY,aK]
 omega
def Jp (nb:Int) (ns nc:Nat) (x:Ah):Prop:=
 (0<=x.A/\x.A<nb)/\((x.Kind=1/\x.A<x.B/\x.B<nb)\/(x.Kind=2/\0<=x.B/\x.B<ns)\/(x.Kind=3/\0<=x.B/\x.B<nc))
def brs (l:List Ah) (k:Int) (i:Nat):List Ah:=l.filter λ x=>x.Kind==k&&x.B==(i:Int)
def Aqb (x:Be):Prop:=(1<=x.Rating/\x.Rating<=50000)/\(0<=x.Least/\x.Least<=x.Rating)/\0<=x.Start/\x.Start<=600
def Ars (i:Nat) (x:A3):Prop:=
 (0<=x.Load/\x.Load<=50000)/\(0<=x.Least/\x.Least<=x.Load)/\(0<=x.Bl/\x.Bl<=15)/\(-1<=x.Thruster/\x.Thruster<=7)/\x.Needs.length<=4 /\
 (∀ n,n∈x.Needs->0<=n/\n<(i:Int))/\∀ (j:Nat) a b,x.Needs[j]? = some a->x.Needs[j+1]? = some b->a<b
structure Ap (b:Aa):Prop where
 buses:1<=b.Al/\b.Al<=6
 brl:b.Ad.length<=24
 sol:b.Ac.length<=8
 col:b.Af.length<=16
 phase:0<=b.Phase/\b.Phase<=1800
 freq:0<=b.Ar/\b.Ar<=6000
 br:∀ x,x∈b.Ad->Jp b.Al b.Ac.length b.Af.length x
 one:∀ i,i<b.Ac.length->(brs b.Ad 2 i).length=1
 any:∀ i,i<b.Af.length->brs b.Ad 3 i≠[]
 nodup:∀ i,((brs b.Ad 3 i).map (·.A)).Nodup
 so:∀ x,x∈b.Ac->Aqb x
 co:∀ (i:Nat) x,b.Af[i]? = some x->Ars i x
theorem Hh (l m:List Ah) (k:Int) (i:Nat):brs (l++m) k i=brs l k i++brs m k i:=by unfold brs;rw [bm]
theorem Anr (x:Ah) (k:Int) (i:Nat):brs [x] k i=if x.Kind=k/\x.B=(i:Int) then [x] else []:=by
 unfold brs
 simp only [bn,List.filter_nil,ac,dz]
theorem La {l:List Ah} {k:Int} {i:Nat} (h:∀ x,x∈l->x.Kind=k->x.B≠(i:Int)):brs l k i=[]:=by
 unfold brs
 rw [List.filter_eq_nil_iff]
 intro x hx
 simp only [ac,dz,not_and]
 exact h x hx
def Od (nb:Int) (l:List Ah):Prop:=∀ x,x∈l->x.Kind=1/\0<=x.A/\x.A<x.B/\x.B<nb
structure Th (nb:Int) (l:List Ah) (so:List Be):Prop where
 len:l.length<=4+so.length
 br:∀ x,x∈l->(0<=x.A/\x.A<nb)/\((x.Kind=1/\x.A<x.B/\x.B<nb)\/(x.Kind=2/\0<=x.B/\x.B<so.length))
 one:∀ i,i<so.length->(brs l 2 i).length=1
 so:∀ x,x∈so->Aqb x
structure Z_ (nb:Int) (l:List Ah) (ns:Nat) (co:List A3):Prop where
 len:l.length<=4+ns+2*co.length
 br:∀ x,x∈l->Jp nb ns co.length x
 one:∀ i,i<ns->(brs l 2 i).length=1
 any:∀ i,i<co.length->brs l 3 i≠[]
 nodup:∀ i,((brs l 3 i).map (·.A)).Nodup
 co:∀ (i:Nat) x,co[i]? = some x->Ars i x/\x.Thruster<=2
theorem Th.cons {nb:Int} {l:List Ah} {so:List Be} (h:Th nb l so):Z_ nb l so.length [] where
 len:=by have:=h.len;simp;omega
 br x hx:=by
  obtain⟨h1,h2⟩:=h.br x hx
  exact⟨h1,h2.imp id .inl⟩
 one:=h.one
 any i hi:=by simp at hi
 nodup i:=by
  rw [La]
  ·simp
  ·intro x hx h3
   obtain⟨_,h2⟩:=h.br x hx
   omega
 co i x hx:=by simp at hx
theorem Th.add {nb:Int} {l:List Ah} {so:List Be} (h:Th nb l so) {x:Ah} {y:Be} (hx:x.Kind=2/\x.B=so.length/\0<=x.A/\x.A<nb) (hy:Aqb y):Th nb (l++[x]) (so++[y]) where
 len:=by have:=h.len;simp;omega
 br z hz:=by
  rcases aq.1 hz with hz | hz
  ·obtain⟨h1,h2⟩:=h.br z hz
   refine⟨h1,?_⟩
   rw [aL]
   simp only [aS,bL]
   omega
  ·simp at hz;subst hz
   refine⟨hx.2.2,.inr ⟨hx.1,?_⟩⟩
   rw [aL]
   simp only [aS,bL]
   omega
 one i hi:=by
  rw [aL] at hi
  simp only [aS,bL] at hi
  rw [Hh,Anr,aL]
  by_cases e:i=so.length
  ·rw [La,if_pos ⟨hx.1,by omega⟩]
   ·rfl
   ·intro z hz h2
    obtain⟨_,h3⟩:=h.br z hz
    omega
  ·rw [h.one i (by omega),if_neg (by omega)];rfl
 so z hz:=by
  rcases aq.1 hz with hz | hz
  ·exact h.so z hz
  ·simp at hz;subst hz;exact hy
theorem Z_.add {nb:Int} {l m:List Ah} {ns:Nat} {co:List A3} (h:Z_ nb l ns co) {y:A3} (hm:∀ x,x∈m->x.Kind=3/\x.B=co.length/\0<=x.A/\x.A<nb) (h1:m≠[]) (h2:m.length<=2) (h3:(m.map (·.A)).Nodup)
  (hy:Ars co.length y/\y.Thruster<=2):Z_ nb (l++m) ns (co++[y]):=by
 have e1:brs m 3 co.length=m:=by
  unfold brs
  rw [cE]
  intro x hx
  obtain⟨g1,g2,_⟩:=hm x hx
  simp [g1,g2]
 have e2:∀ i,i≠co.length->brs m 3 i=[]:=λ i hi=>La λ x hx _ e=>by
  have:=(hm x hx).2.1
  omega
 have e3:brs l 3 co.length=[]:=La λ x hx h3 e=>by
  obtain⟨_,g⟩:=h.br x hx
  omega
 have hlen:(co++[y]).length=co.length+1:=by simp
 refine⟨?_,λ z hz=>?_,λ i hi=>?_,λ i hi=>?_,λ i=>?_,λ i x hx=>?_⟩
 ·have:=h.len
  rw [aL,hlen];omega
 ·rw [hlen]
  rcases aq.1 hz with hz | hz
  ·obtain⟨g1,g2⟩:=h.br z hz
   exact⟨g1,by omega⟩
  ·obtain⟨g1,g2,g3⟩:=hm z hz
   exact⟨g3,by omega⟩
 ·have:brs m 2 i=[]:=La λ x hx h2=>by have:=(hm x hx).1;omega
  rw [Hh,this,aH]
  exact h.one i hi
 ·rw [Hh]
  rw [hlen] at hi
  by_cases e:i=co.length
  ·subst e;rw [e1];simp [h1]
  ·have:=h.any i (by omega)
   simp [this]
 ·rw [Hh]
  by_cases e:i=co.length
  ·subst e;rw [e1,e3];simpa using h3
  ·rw [e2 i e,aH];exact h.nodup i
 ·rw [bZ] at hx
  split at hx
  ·exact h.co i x hx
  ·rename_i hi
   have:i=co.length:=by
    have:=(aa.1 hx).1
    simp at this;omega
   subst this
   simp at hx;subst hx;exact hy
theorem Od.nil (nb:Int):Od nb []:=λ x hx=>by cases hx
theorem Od.add {nb:Int} {l:List Ah} (h:Od nb l) {x:Ah} (hx:x.Kind=1/\0<=x.A/\x.A<x.B/\x.B<nb):Od nb (l++[x]):=λ z hz=>by
 rcases aq.1 hz with hz | hz
 ·exact h z hz
 ·simp at hz;subst hz;exact hx
theorem Od.gens {nb:Int} {l:List Ah} (h:Od nb l) (hl:l.length<=4):Th nb l [] where
 len:=by simpa using hl
 br x hx:=by have:=h x hx;exact⟨by omega,.inl (by omega)⟩
 one i hi:=by simp at hi
 so x hx:=by cases hx
theorem A0f {y:Int×Au} (hy:1<=y.1/\y.1<=4) {s0:Au} (hs0:B6 s0) :
  Ok (whileN (vX y) 1152921504606846976 (1,s0.L,s0.At,([]:List Ah))) (D7 (λ s=>B6 ⟨s.2.1,s.2.2.1⟩/\Od y.1 s.2.2.2/\s.2.2.2.length<=3) (λ (_:Unit)=>False)):=by
 refine c8 (λ s=>(1<=s.1/\s.1<=4/\s.1<=y.1)/\B6 ⟨s.2.1,s.2.2.1⟩/\Od y.1 s.2.2.2/\(s.2.2.2.length:Int)+1<=s.1) (λ s=>(y.1-s.1).toNat) _ _ ?_ ?_ ?_
 ·exact⟨by dsimp only;omega,hs0,Od.nil _,by simp⟩
 ·dsimp only;omega
 ·rintro⟨i,L,a,l⟩ ⟨⟨h1,h2,h3⟩,h4,h5,h6⟩
  dsimp only at h1 h2 h3 h4 h5 h6
  unfold vX
  refine c4 (λ h=>?_) (λ h=>?_)
  ·simp only [dx] at h
   have e:w64 (i+1)=i+1:=A5 (by omega)
   dsimp only
   rw [e]
   refine (Gm h4 6 (by omega) (by omega)).bind λ u hu=>c4 (λ _=>?_) (λ _=>?_)
   ·refine (Gm hu.1 i h1 (by omega)).bind λ v hv=>(cW (by simp;omega)).bind λ m hm=>c5 ?_
    subst hm
    have:=hv.2
    refine⟨⟨by dsimp only;omega,hv.1,h5.add ⟨rfl,by dsimp only;omega,by dsimp only;omega,by dsimp only;omega⟩,by simp;omega⟩,by dsimp only;omega⟩
   ·refine c5 ⟨⟨by dsimp only;omega,hu.1,h5,by dsimp only;omega⟩,by dsimp only;omega⟩
  ·exact cX ⟨h4,h5,by dsimp only;omega⟩
theorem A0e {y:Int×Au} (hy:1<=y.1/\y.1<=4) {s0:Au} (hs0:B6 s0) {k:Int} (hk:0<=k/\k<5) {l0:List Ah} (hl0:Th y.1 l0 []) :
  Ok (whileN (vW y) 1152921504606846976 (k,s0.L,s0.At,l0,([]:List Be))) (D7 (λ s=>B6 ⟨s.2.1,s.2.2.1⟩/\Th y.1 s.2.2.2.1 s.2.2.2.2/\s.2.2.2.2.length<=4) (λ (_:Unit)=>False)):=by
 refine c8 (λ s=>(0<=s.1/\s.1+(s.2.2.2.2.length:Int)<=4)/\B6 ⟨s.2.1,s.2.2.1⟩/\Th y.1 s.2.2.2.1 s.2.2.2.2) (λ s=>s.1.toNat) _ _ ?_ ?_ ?_
 ·exact⟨by simp;omega,hs0,hl0⟩
 ·dsimp only;omega
 ·rintro⟨i,L,a,l,so⟩ ⟨⟨h1,h2⟩,h4,h5⟩
  dsimp only at h1 h2 h4 h5
  unfold vW
  refine c4 (λ h=>?_) (λ h=>?_)
  ·simp only [dx] at h
   have e:w64 (i-1)=i-1:=A5 (by omega)
   have hl:=h5.len
   dsimp only
   rw [e]
   refine (Gm h4 y.1 hy.1 (by omega)).bind λ u hu=>(cW (by simp;omega)).bind λ m hm=>?_
   refine (G6 hu.1 _ (by simp) (by simp)).bind λ v hv=>(G6 hv.1 _ (by simp) (by simp)).bind λ p hp=>(G6 hp.1 _ (by simp) (by simp)).bind λ q hq=>(cW (by simp;omega)).bind λ o ho=>c5 ?_
   subst hm;subst ho
   have g1:=hu.2
   have g2:v.1=10\/v.1=50\/v.1=100:=by simpa using hv.2
   have g3:p.1=0\/p.1=5\/p.1=v.1:=by simpa using hp.2
   have g4:q.1=0\/q.1=1\/q.1=3:=by simpa using hq.2
   refine⟨⟨by simp;omega,hq.1,h5.add ⟨rfl,rfl,g1⟩ ⟨by dsimp only;omega,by dsimp only;omega,by dsimp only;omega⟩⟩,by dsimp only;omega⟩
  ·exact cX ⟨h4,h5,by dsimp only;omega⟩
theorem A3a {x:Int} (h:0<=x) (h2:x<=50000):0<=w64 (Int.tdiv x 2)/\w64 (Int.tdiv x 2)<=x:=by
 have:Int.tdiv x 2=x / 2:=Int.tdiv_eq_ediv_of_nonneg h
 rw [this,A5 (by omega)]
 omega
theorem Ax8 {x:Int} (h:0<=x) (h2:x<=50000):0<=w64 (Int.tdiv x 3)/\w64 (Int.tdiv x 3)<=x:=by
 have:Int.tdiv x 3=x / 3:=Int.tdiv_eq_ediv_of_nonneg h
 rw [this,A5 (by omega)]
 omega
theorem A0d {y:Int×Au} (hy:1<=y.1/\y.1<=4) {s0:Au} (hs0:B6 s0) {k:Int} (hk:0<=k/\k<6) {ns:Nat} (hns:ns<=4) {l0:List Ah} (hl0:Z_ y.1 l0 ns []) :
  Ok (whileN (vV y) 1152921504606846976 (k,s0.L,s0.At,l0,([]:List A3))) (D7 (λ s=>B6 ⟨s.2.1,s.2.2.1⟩/\Z_ y.1 s.2.2.2.1 ns s.2.2.2.2/\s.2.2.2.2.length<=5) (λ (_:Unit)=>False)):=by
 refine c8 (λ s=>(0<=s.1/\s.1+(s.2.2.2.2.length:Int)<=5)/\B6 ⟨s.2.1,s.2.2.1⟩/\Z_ y.1 s.2.2.2.1 ns s.2.2.2.2) (λ s=>s.1.toNat) _ _ ?_ ?_ ?_
 ·exact⟨by simp;omega,hs0,hl0⟩
 ·dsimp only;omega
 ·rintro⟨i,L,a,l,co⟩ ⟨⟨h1,h2⟩,h4,h5⟩
  dsimp only at h1 h2 h4 h5
  unfold vV
  refine c4 (λ h=>?_) (λ h=>?_)
  ·simp only [dx] at h
   have e:w64 (i-1)=i-1:=A5 (by omega)
   have hl:=h5.len
   dsimp only
   rw [e]
   refine (Gm h4 y.1 hy.1 (by omega)).bind λ u hu=>(cW (by simp;omega)).bind λ m hm=>?_
   subst hm
   have g1:=hu.2
   refine Ok.bind (P:=λ v=>B6 v.2) (cU (λ _=>(Gm hu.1 4 (by omega) (by omega)).mono λ _ h=>h.1) λ _=>hu.1) λ v hv=>?_
   refine Ok.inner (A:=λ (r:List Ah)=>∃ m,r=l++m/\(∀ x,x∈m->x.Kind=3/\x.B=co.length/\0<=x.A/\x.A<y.1)/\m≠[]/\m.length<=2/\(m.map (·.A)).Nodup) (B:=λ (_:Unit)=>False) ?_ (λ r hr=>?_) (λ _ h=>h.elim)
   ·unfold Ak5
    refine c4 (λ hc=>?_) (λ hc=>?_)
    ·simp only [ac,dx] at hc
     have e2:w64 (u.1+1)=u.1+1:=A5 (by omega)
     rw [e2]
     refine (Ok.nzI (by omega)).bind λ _ _=>(cW (by simp;omega)).bind λ m hm=>d9 ?_
     subst hm
     have g2:=Amk (x:=u.1+1) (n:=y.1) (by omega) (by omega)
     have g3:Int.tmod (u.1+1) y.1≠u.1:=by
      rw [cF (by omega)]
      intro e3
      by_cases g4:u.1+1=y.1
      ·rw [g4,Int.emod_self] at e3;omega
      ·rw [Int.emod_eq_of_lt (by omega) (by omega)] at e3;omega
     refine⟨_,aY _ _ _,?_,by simp,by simp,?_⟩
     ·intro x hx
      simp at hx
      rcases hx with rfl | rfl
      ·exact⟨rfl,rfl,g1⟩
      ·exact⟨rfl,rfl,g2⟩
     ·simp
      exact λ h=>g3 h.symm
    ·exact d9 ⟨_,rfl,λ x hx=>by simp at hx;subst hx;exact⟨rfl,rfl,g1⟩,by simp,by simp,by simp⟩
   ·obtain⟨m,rfl,hm,hm1,hm2,hm3⟩:=hr
    refine (G6 hv _ (by simp) (by simp)).bind λ p hp=>(G6 hp.1 _ (by simp) (by simp)).bind λ q hq=>(Gm hq.1 3 (by omega) (by omega)).bind λ pr hpr=>(Ajd hpr.1 (-1) 2 (by omega) (by omega) (by omega)).bind λ th hth=>?_
    have k1:p.1=0\/p.1=5\/p.1=20\/p.1=40:=by simpa using hp.2
    have k2:q.1=0\/q.1=w64 (Int.tdiv p.1 2)\/q.1=p.1:=by simpa using hq.2
    have k3:=A3a (x:=p.1) (by omega) (by omega)
    have k4:=hpr.2
    have k5:=hth.2
    refine Ok.bind (P:=λ v=>B6 v.2) (cU (λ _=>(Gm hth.1 4 (by omega) (by omega)).mono λ _ h=>h.1) λ _=>hth.1) λ w hw=>c4 (λ hc=>?_) (λ hc=>?_)
    ·simp only [A1u,ac,dx] at hc
     refine (Gm hw _ (by omega) (by omega)).bind λ n hn=>(cW (by simp;omega)).bind λ o ho=>c5 ?_
     subst ho
     have k6:=hn.2
     refine⟨⟨by simp;omega,hn.1,h5.add hm hm1 hm2 hm3 ⟨⟨by dsimp only;omega,by dsimp only;omega,by dsimp only;omega,by dsimp only;omega,by simp,?_,?_⟩,by dsimp only;omega⟩⟩,by dsimp only;omega⟩
     ·intro z hz;simp at hz;subst hz;exact k6
     ·intro j a b ha hb
      simp at hb
    ·refine (cW (by simp;omega)).bind λ o ho=>c5 ?_
     subst ho
     refine⟨⟨by simp;omega,hw,h5.add hm hm1 hm2 hm3 ⟨⟨by dsimp only;omega,by dsimp only;omega,by dsimp only;omega,by dsimp only;omega,by simp,?_,?_⟩,by dsimp only;omega⟩⟩,by dsimp only;omega⟩
     ·intro z hz;simp at hz
     ·intro j a b ha hb;simp at ha
  ·exact cX ⟨h4,h5,by dsimp only;omega⟩
structure A69 (b:Aa):Prop where
 ok:Ap b
 buses:b.Al<=4
 brl:b.Ad.length<=18
 sol:b.Ac.length<=4
 col:b.Af.length<=5
 thr:∀ x,x∈b.Af->x.Thruster<=2
theorem A0x {s:Au} (hs:B6 s):Ok (F28 s) λ y=>A69 y.1/\B6 y.2:=by
 unfold F28
 refine (Ajd hs 1 4 (by omega) (by omega) (by omega)).bind λ y1 h1=>(G6 h1.1 _ (by simp) (by simp)).bind λ y3 h3=>(G6 h3.1 _ (by simp) (by simp)).bind λ y5 h5=>?_
 refine (A0f h1.2 h5.1).andThen (λ s0 hs0=>?_) (λ _ h=>h.elim)
 refine Ok.bind (P:=λ v=>B6 v.2) (cU (λ _=>(Gm hs0.1 2 (by omega) (by omega)).mono λ _ h=>h.1) λ _=>hs0.1) λ y15 h15=>?_
 have hb:=h1.2
 refine Ok.andThen (A:=λ (l:List Ah)=>Od y1.1 l/\l.length<=4) (B:=λ (_:Unit)=>False) ?_ (λ l hl=>?_) (λ _ h=>h.elim)
 ·unfold Ak6
  refine c4 (λ hc=>?_) (λ hc=>d9 ⟨hs0.2.1,by omega⟩)
  simp only [ac,dx] at hc
  have e:w64 (y1.1-1)=y1.1-1:=A5 (by omega)
  rw [e]
  have:=hs0.2.2
  refine (cW (by simp;omega)).bind λ m hm=>d9 ?_
  subst hm
  exact⟨hs0.2.1.add ⟨rfl,by simp,by dsimp only;omega,by dsimp only;omega⟩,by simp;omega⟩
 ·refine (Gm h15 5 (by omega) (by omega)).bind λ y20 h20=>?_
  refine (A0e h1.2 h20.1 h20.2 (hl.1.gens hl.2)).andThen (λ s2 hs2=>?_) (λ _ h=>h.elim)
  refine (Gm hs2.1 6 (by omega) (by omega)).bind λ y35 h35=>?_
  refine (A0d h1.2 h35.1 h35.2 hs2.2.2 hs2.2.1.cons).andThen (λ s3 hs3=>Ok.pure ⟨?_,hs3.1⟩) (λ _ h=>h.elim)
  obtain⟨_,hc,hl5⟩:=hs3
  have hl4:=hs2.2.2
  have hlen:=hc.len
  have p3:y3.1=0\/y3.1=50\/y3.1=200\/y3.1=1800:=by simpa using h3.2
  have p5:y5.1=0\/y5.1=10\/y5.1=50:=by simpa using h5.2
  refine⟨⟨by dsimp only;omega,by dsimp only;omega,by dsimp only;omega,by dsimp only;omega,by dsimp only;omega,by dsimp only;omega,hc.br,hc.one,hc.any,hc.nodup,hs2.2.1.so,λ i x hx=>(hc.co i x hx).1⟩,by dsimp only;omega,by dsimp only;omega,hl4,hl5,λ x hx=>?_⟩
  obtain⟨i,hi⟩:=cr hx
  exact (hc.co i x hi).2
theorem Ii (x lo hi:Int):F93 x lo hi=true↔lo<=x/\x<=hi:=by
 simp [F93]
theorem zV {x lo hi:Int} (h:lo<=x/\x<=hi):F93 x lo hi=true:=(Ii x lo hi).2 h
theorem Eh (l:List Int) (x:Int) (h:l.length<=9223372036854775807):F59 l x=some (l.any (x == ·)):=by
 unfold F59 Arq
 rw [Lt (λ y=>x==y) (λ i y=>rfl) l h]
 simp only [ab,Si]
theorem Ama (l:List (List Int)) (h:l.length<=9223372036854775807):V8 l=some (l.any λ x=>(x.length:Int)==0):=by
 unfold V8 yA
 rw [Lt (λ y=>(y.length:Int)==0) (λ i y=>rfl) l h]
 simp only [ab,Si]
theorem Amd {b:Aa} (h:Ap b):Ok (F99 b) (· = true):=by
 unfold F99
 have hs:=h.sol
 have hc:=h.col
 have hb:=h.buses
 refine (Ok.mkI (by omega) (by omega)).bind λ ys hys=>(Ok.mkI (by omega) (by omega)).bind λ zs hzs=>?_
 rw [ah] at hys hzs
 refine Ok.andThen (A:=λ s=>s.1=(List.range b.Ac.length).map (λ i=>((brs b.Ad 2 i).length:Int))/\s.2=(List.range b.Af.length).map (λ i=>(brs b.Ad 3 i).map (·.A))) (B:=λ _=>False) ?_ ?_ (λ _ h=>h.elim)
 ·refine c6 (I:=λ j s=>s.1=(List.range b.Ac.length).map (λ i=>((brs (b.Ad.take j) 2 i).length:Int))/\s.2=(List.range b.Af.length).map (λ i=>(brs (b.Ad.take j) 3 i).map (·.A))) ?_ ?_ ?_
  ·exact⟨by rw [hys,O2];rfl,by rw [hzs,O2];rfl⟩
  ·rintro j x ⟨us,vs⟩ hx ⟨hu,hv⟩
   dsimp only at hu hv
   subst hu;subst hv
   have hmem:=ae hx
   obtain⟨⟨a0,a1⟩,hk⟩:=h.br x hmem
   have htk:∀ k i,brs (b.Ad.take (j+1)) k i=brs (b.Ad.take j) k i++if x.Kind=k/\x.B=(i:Int) then [x] else []:=λ k i=>by rw [Bi hx,Hh,Anr]
   have hall:∀ k i,brs b.Ad k i=brs (b.Ad.take (j+1)) k i++brs (b.Ad.drop (j+1)) k i:=λ k i=>by rw [←Hh,ct]
   unfold Aka
   have e1:w64 (b.Al-1)=b.Al-1:=A5 (by omega)
   have e2:w64 (x.A+1)=x.A+1:=A5 (by omega)
   refine c4 (λ hq=>?_) (λ _=>?_)
   ·rw [e1,zV (by omega)] at hq;simp at hq
   refine c4 (λ hq=>?_) (λ hq=>?_)
   ·simp only [Apz,ac,dz,Ii] at hq
    refine c5 ⟨bf λ i _=>?_,bf λ i _=>?_⟩
    ·rw [htk,if_neg (by omega),aH]
    ·rw [htk,if_neg (by omega),aH]
   have hq:=ff hq
   simp only [Apz,ac,dz,Ii,e1,e2] at hq
   rcases hk with hk | hk | hk
   ·exact absurd ⟨hk.1,by omega⟩ hq
   ·have hBn:x.B=(x.B.toNat:Int):=by omega
    have hone:=h.one x.B.toNat (by omega)
    have hz:(brs (b.Ad.take j) 2 x.B.toNat).length=0:=by
     rw [hall,htk,if_pos ⟨hk.1,hBn⟩] at hone
     simp at hone;omega
    have hg:((x.Kind==2)&&(F93 x.B 0 (w64 ((((List.range b.Ac.length).map (λ i=>((brs (b.Ad.take j) 2 i).length:Int))).length:Int)-1))))=true:=by
     rw [ac,dz,Ii,ax,List.length_range,A5 (by omega)]
     omega
    dsimp only
    refine Ok.bind (P:=λ y=>y=0) (cU (λ _=>(de (by omega) (by omega)).mono λ y hy=>by rw [hy,hz];rfl) λ hn=>(Ww hg hn).elim) λ y hy=>?_
    refine c4 (λ hq2=>?_) (λ hq2=>?_)
    ·refine (de (by omega) (by omega)).bind λ y2 hy2=>(dk (by omega) (by omega)).bind λ y3 hy3=>c5 ⟨?_,bf λ i _=>?_⟩
     ·rw [hy3]
      refine bf λ i hi=>?_
      by_cases e:i=x.B.toNat
      ·subst e
       rw [if_pos rfl,hy2,htk,if_pos ⟨hk.1,hBn⟩,hz,aL,hz]
       rfl
      ·rw [if_neg e,htk,if_neg (by omega),aH]
     ·rw [htk,if_neg (by omega),aH]
    ·have hq2:=ff hq2
     simp only [Apy,ac,hy] at hq2
     rw [ac] at hg
     exact absurd ⟨hg,by simp⟩ hq2
   ·have hBn:x.B=(x.B.toNat:Int):=by omega
    have hnod:=h.nodup x.B.toNat
    have hnot:x.A∉(brs (b.Ad.take j) 3 x.B.toNat).map (·.A):=by
     rw [hall,htk,if_pos ⟨hk.1,hBn⟩] at hnod
     simp only [bo,bM,List.map_nil] at hnod
     rw [List.nodup_append] at hnod
     have:=hnod.1
     rw [List.nodup_append] at this
     intro hm
     exact this.2.2 _ hm _ (by simp) rfl
    have hg0:((x.Kind==2)&&(F93 x.B 0 (w64 ((((List.range b.Ac.length).map (λ i=>((brs (b.Ad.take j) 2 i).length:Int))).length:Int)-1))))=false:=by
     have:(x.Kind==2)=false:=by rw [dA];omega
     rw [this];rfl
    have hg:((x.Kind==3)&&(F93 x.B 0 (w64 ((((List.range b.Af.length).map (λ i=>(brs (b.Ad.take j) 3 i).map (·.A))).length:Int)-1))))=true:=by
     rw [ac,dz,Ii,ax,List.length_range,A5 (by omega)]
     omega
    dsimp only
    refine Ok.bind (P:=λ _=>True) (cU (λ hn=>absurd hn.1 (by rw [hg0];simp)) λ _=>trivial) λ y _=>?_
    refine c4 (λ hq2=>?_) (λ _=>?_)
    ·simp only [Apy,ac,dz] at hq2
     omega
    refine Ok.bind (P:=λ y=>y=(brs (b.Ad.take j) 3 x.B.toNat).map (·.A)) (cU (λ _=>de (by omega) (by omega)) λ hn=>(Ww hg hn).elim) λ y14 hy14=>?_
    have hyl:y14.length<=24:=by
     rw [hy14,ax]
     have:=bp (λ x=>x.Kind==3&&x.B==((x.B.toNat:Nat):Int)) (b.Ad.take j)
     have h1:(brs (b.Ad.take j) 3 x.B.toNat).length<=(b.Ad.take j).length:=bp _ _
     have h2:=h.brl
     rw [aK] at h1
     omega
    refine Ok.bind (P:=λ y=>y=false) (cU (λ _=>?_) λ hn=>(Ww hg hn).elim) λ y16 hy16=>?_
    ·rw [Eh _ _ (by omega)]
     refine Ok.pure ?_
     rw [bN]
     intro z hz
     rw [hy14] at hz
     simp only [dz]
     rintro rfl
     exact hnot hz
    refine c4 (λ hq2=>?_) (λ hq2=>?_)
    ·refine (de (by omega) (by omega)).bind λ y19 hy19=>?_
     rw [hy19,←hy14]
     refine (cW (by simp;omega)).bind λ y21 hy21=>(dk (by omega) (by omega)).bind λ y23 hy23=>c5 ⟨bf λ i _=>?_,?_⟩
     ·rw [htk,if_neg (by omega),aH]
     ·rw [hy23]
      refine bf λ i hi=>?_
      by_cases e:i=x.B.toNat
      ·subst e
       rw [if_pos rfl,hy21,hy14,htk,if_pos ⟨hk.1,hBn⟩,bo]
       rfl
      ·rw [if_neg e,htk,if_neg (by omega),aH]
    ·have hq2:=ff hq2
     simp only [A1b,ac,hy16] at hq2
     rw [ac] at hg
     exact absurd ⟨hg,by simp⟩ hq2
  ·rintro⟨us,vs⟩ ⟨hu,hv⟩
   rw [ay] at hu hv
   exact⟨hu,hv⟩
 ·rintro⟨us,vs⟩ ⟨hu,hv⟩
  dsimp only at hu hv ⊢
  rw [Eh _ _ (by rw [hu];simp;omega)]
  have h0:us.any (λ y=>0==y)=false:=by
   rw [bN,hu]
   intro z hz
   obtain⟨i,hi,rfl⟩:=an.1 hz
   rw [h.one i (by simpa using hi)]
   simp
  have h1:vs.any (λ x=>(x.length:Int)==0)=false:=by
   rw [bN,hv]
   intro z hz
   obtain⟨i,hi,rfl⟩:=an.1 hz
   have:=h.any i (by simpa using hi)
   simp only [ax,dz]
   intro e
   exact this (bR (by omega))
  simp only [h0,ab]
  refine Ok.bind (P:=λ y=>y=false) (cU (λ _=>?_) λ hn=>(Ww rfl hn).elim) λ y hy=>Ok.pure (by rw [hy];rfl)
  rw [Ama _ (by rw [hv];simp;omega)]
  exact Ok.pure h1
theorem Ar4 {x:Be} (h:Aqb x):Aba x=true:=by
 obtain⟨h1,h2,h3⟩:=h
 simp only [Aba,ac,Ii]
 omega
theorem Amb {x:A3} {i:Nat} (h:Ars i x) (hi:i<=1000):Aa9 x (i:Int)=some true:=by
 obtain⟨h1,h2,h3,h4,h5,h6,h7⟩:=h
 unfold Aa9
 have hf:foldI (Xx x (i:Int)) x.Needs 0 ()=some (.next ()):=by
  refine Dz _ _ λ j n hj=>?_
  rw [aE]
  have hn:=h6 n (ae hj)
  have hjl:=(aa.1 hj).1
  have hcnt:cnt 0 j=(j:Int):=Co (by omega)
  have hin:F93 n 0 (w64 ((i:Int)-1))=true:=by rw [Ii,A5 (by omega)];omega
  unfold Xx Av1
  rw [hcnt,hin]
  cases j with
  | zero=>simp [Az,Cn]
  | succ j=>
   obtain⟨p,hp⟩:∃ p,x.Needs[j]? = some p:=⟨_,af (by omega)⟩
   have hlt:=h7 j p n hp hj
   have e:w64 ((((j+1:Nat):Int))-1)=(j:Int):=by rw [A5 (by omega)];omega
   have hg:getI x.Needs (j:Int)=some p:=by
    unfold getI
    simp [hp]
   have hd:decide (((j+1:Nat):Int)>0)=true:=dC (by omega)
   have hd2:decide (p>=n)=false:=by simp;omega
   rw [e,hg,hd]
   simp [Az,Cn,hd2]
 rw [hf]
 have:(((((F93 x.Load 0 50000)&&(F93 x.Least 0 x.Load))&&(F93 x.Bl 0 15))&&(F93 x.Thruster (-1) 7))&&(decide ((x.Needs.length:Int)<=4)))=true:=by
  simp only [ac,Ii,dx]
  omega
 simp [andThen,this]
theorem Za {b:Aa} (h:Ap b):F51 b=some 0:=by
 refine d5 ?_
 unfold F51
 have h1:=h.buses
 have h2:=h.brl
 have h3:=h.sol
 have h4:=h.col
 have h5:=h.phase
 have h6:=h.freq
 refine c4 (λ hc=>?_) (λ _=>?_)
 ·have:F93 b.Al 1 6=true:=zV (by omega)
  simp only [A1q,this,aB,dx,bi,bO,false_or] at hc
  omega
 refine (Amd h).bind λ y hy=>?_
 subst hy
 rw [zV (x:=b.Phase) (by omega),zV (x:=b.Ar) (by omega)]
 refine Ok.andThen (A:=λ s=>s=true) (B:=λ (_:Unit)=>False) ?_ ?_ (λ _ h=>h.elim)
 ·refine c6 (I:=λ _ s=>s=true) rfl (λ j x s hx hs=>?_) λ _ h=>h
  subst hs
  refine c5 ?_
  rw [Ar4 (h.so x (ae hx))];rfl
 ·rintro s rfl
  refine Ok.andThen (A:=λ s=>s=true) (B:=λ (_:Unit)=>False) ?_ ?_ (λ _ h=>h.elim)
  ·refine c6 (I:=λ _ s=>s=true) rfl (λ j x s hx hs=>?_) λ _ h=>h
   subst hs
   have hj:=(aa.1 hx).1
   unfold Akz
   have:Az [(true,true)] (Aa9 x (cnt 0 j)) default=some true:=by
    rw [Co (by omega),Amb (h.co j x hx) (by omega)];rfl
   rw [this]
   exact c5 rfl
  ·rintro s rfl
   exact Ok.pure rfl
def C4 (x:Ag):Prop:=(0<=x.State/\x.State<=3)/\(0<=x.Since/\x.Since<=2147483648)/\(0<=x.Ar/\x.Ar<=6000)/\0<=x.Phase/\x.Phase<=3599
def Cd (b:Aa) (x:As):Prop:=
 0<=x.Number/\((x.Kind=1/\x.Number<b.Ac.length)\/(x.Kind=2/\x.Number<b.Ad.length)\/(x.Kind=3/\x.Number<b.Al)\/(x.Kind=4/\x.Number<b.Af.length))
def Q4 (x y:As):Prop:=x.Kind<y.Kind\/x.Kind=y.Kind/\x.Number<y.Number
structure Ev (b:Aa) (l:List As):Prop where
 len:l.length<=32
 mem:∀ x,x∈l->Cd b x
 asc:∀ (j:Nat) x y,l[j]? = some x->l[j+1]? = some y->Q4 x y
def Ca (l:List Ah) (c:List Bool) (i:Nat):List (Ah×Bool):=(l.zip c).filter λ z=>(z.1.Kind==3&&z.1.B==(i:Int))&&z.2
structure Ao (b:Aa) (p:Ab):Prop where
 ncl:p.Ae.length=b.Ad.length
 nso:p.Ac.length=b.Ac.length
 nli:p.Am.length=b.Af.length
 run:∀ x,x∈p.Ac->C4 x
 lim:∀ (i:Nat) n c,p.Am[i]? = some n->b.Af[i]? = some c->0<=n/\n<=c.Load
 one:∀ i,i<b.Af.length->(Ca b.Ad p.Ae i).length<=1
 brk:Ev b p.Ai
theorem Aol {x:Ag} (h:C4 x):F92 x=true:=by
 obtain⟨h1,h2,h3,h4⟩:=h
 simp only [F92,ac,Ii]
 omega
theorem Aoz (l:List Ag) (h:l.length<=9223372036854775807):Xq l=some (l.any λ x=>!F92 x):=by
 unfold Xq yF
 rw [Lt (λ y=>!F92 y) (λ i y=>rfl) l h]
 simp only [ab,Si]
theorem Aiy (x y:Int):Ld x y=if x<y then -1 else if x>y then 1 else 0:=by
 have h:∀ z:Int,Z2 z=false:=λ z=>by simp [Z2]
 unfold Ld
 rw [h x,h y]
 by_cases h1:x<y
 ·simp [h1]
 ·by_cases h2:y<x <;> simp [h1,h2]
theorem A7f (x y:Int):Aa2 [x,y]=some (if x=0 then y else x):=by
 unfold Aa2
 by_cases h:x=0
 ·subst h
  by_cases h2:y=0
  ·subst h2;rfl
  ·have:(y != 0)=true:=by simpa using h2
   simp [foldI,Xw,andThen,this]
 ·have:(x != 0)=true:=by simpa using h
  simp [foldI,Xw,andThen,this,h]
theorem A2m {b:Aa} (h:Ap b) {x:As} (hx:Cd b x):F93 x.Number 0 (w64 ((Mo b x.Kind)-1))=true:=by
 have h1:=h.buses
 have h2:=h.brl
 have h3:=h.sol
 have h4:=h.col
 obtain⟨hn,hk⟩:=hx
 have hsz:∃ n,Mo b x.Kind=n/\x.Number<n/\n<=100:=by
  unfold Mo
  rcases hk with⟨k,hk⟩ | ⟨k,hk⟩ | ⟨k,hk⟩ | ⟨k,hk⟩ <;> rw [k] <;> exact⟨_,rfl,by simpa using hk,by simp;omega⟩
 obtain⟨n,e,g1,g2⟩:=hsz
 rw [e,Ii,A5 (by omega)]
 omega
theorem Av3 {b:Aa} (h:Ap b) {l:List As} (hl:Ev b l):F89 b l=some true:=by
 have hlen:=hl.len
 unfold F89
 have hf:foldI (vI b l) l 0 ()=some (.next ()):=by
  refine Dz _ _ λ j x hj=>?_
  rw [aE]
  have hjl:=(aa.1 hj).1
  have hcnt:cnt 0 j=(j:Int):=Co (by omega)
  have hin:=A2m h (hl.mem x (ae hj))
  unfold vI A1j
  rw [hcnt,hin]
  cases j with
  | zero=>simp [Az,Cn]
  | succ j=>
   obtain⟨p,hp⟩:∃ p,l[j]? = some p:=⟨_,af (by omega)⟩
   have hlt:=hl.asc j p x hp hj
   have e:w64 ((((j+1:Nat):Int))-1)=(j:Int):=by rw [A5 (by omega)];omega
   have hg:getI l (j:Int)=some p:=by unfold getI;simp [hp]
   have hd:decide (((j+1:Nat):Int)>0)=true:=dC (by omega)
   have ho:Aa2 [Ld p.Kind x.Kind,Ld p.Number x.Number]=some (-1):=by
    rw [A7f,Aiy,Aiy]
    rcases hlt with h1 | ⟨h1,h2⟩
    ·simp [h1]
    ·simp [h1,h2]
   rw [e,hg,hd]
   simp [Az,Cn,ho]
 rw [hf]
 have:decide ((l.length:Int)<=32)=true:=by simp;omega
 simp [andThen,this]
theorem Mz {l:List Ah} {c:List Bool} {j:Nat} {x:Ah} {v:Bool} (hx:l[j]? = some x) (hv:c[j]? = some v) (i:Nat) :
  Ca (l.take (j+1)) (c.take (j+1)) i=Ca (l.take j) (c.take j) i++if ((x.Kind==3&&x.B==(i:Int))&&v)=true then [(x,v)] else []:=by
 unfold Ca
 rw [Bi hx,Bi hv,List.zip_append (by
  have h1:=(aa.1 hx).1
  have h2:=(aa.1 hv).1
  simp;omega),bm]
 congr 1
 simp only [bF,List.zip_nil_right,bn,List.filter_nil]
theorem Avp {b:Aa} (h:Ap b) {p:Ab} (hc:p.Ae.length=b.Ad.length) (i:Nat):F94 b p (i:Int)=some (((Ca b.Ad p.Ae i).length:Nat):Int):=by
 refine d5 ?_
 unfold F94
 have hb:=h.brl
 refine Ok.andThen (A:=λ s=>s=(((Ca b.Ad p.Ae i).length:Nat):Int)) (B:=λ (_:Unit)=>False) ?_ (λ s hs=>Ok.pure hs) (λ _ h=>h.elim)
 refine c6 (I:=λ j s=>s=(((Ca (b.Ad.take j) (p.Ae.take j) i).length:Nat):Int)) ?_ (λ j x s hx hs=>?_) λ s hs=>?_
 ·simp [Ca]
 ·have hj:=(aa.1 hx).1
  obtain⟨v,hv⟩:∃ v,p.Ae[j]? = some v:=⟨_,af (by omega)⟩
  have hcnt:cnt 0 j=(j:Int):=Co (by omega)
  have hg:getI p.Ae (j:Int)=some v:=by unfold getI;simp [hv]
  have hle:(Ca (b.Ad.take j) (p.Ae.take j) i).length<=24:=by
   have h1:(Ca (b.Ad.take j) (p.Ae.take j) i).length<=((b.Ad.take j).zip (p.Ae.take j)).length:=bp _ _
   simp at h1;omega
  subst hs
  unfold Akk A1i
  rw [hcnt,hg,Mz hx hv]
  cases hk:(x.Kind==3&&x.B==(i:Int)) with
  | false=>
   simp only [Az,Cn,Bool.false_and]
   exact c5 (by simp)
  | true=>
   simp only [Az,Cn,aM]
   cases v with
   | false=>exact c5 (by simp)
   | true=>
    refine c5 ?_
    show w64 _=_
    rw [A5 (by omega)]
    simp
 ·rw [ay,←hc,ay] at hs
  exact hs
theorem B4 {b:Aa} (h:Ap b) {p:Ab} (hp:Ao b p):F44 b p=some 0:=by
 refine d5 ?_
 unfold F44
 have h1:=hp.ncl
 have h2:=hp.nso
 have h3:=hp.nli
 have h4:=h.col
 have h5:=h.sol
 rw [Za h]
 simp only [ab]
 have c0:Ap3 b p=false:=by
  simp [Ap3,h1,h2,h3]
 have c1:((0:Int) != 0)=false:=rfl
 rw [c1,c0,Av3 h hp.brk]
 simp only [cond_false,ab]
 have hr:(p.Ac.any λ x=>!F92 x)=false:=by
  rw [bN]
  intro x hx
  rw [Aol (hp.run x hx)];simp
 have:Az [(true,true)] (Xq p.Ac) default=some false:=by
  rw [Aoz _ (by omega),hr];rfl
 rw [this]
 simp only [ab]
 refine Ok.andThen (A:=λ s=>s=true) (B:=λ (_:Unit)=>False) ?_ ?_ (λ _ h=>h.elim)
 ·refine c6 (I:=λ _ s=>s=true) rfl (λ j x s hx hs=>?_) λ _ h=>h
  subst hs
  have hj:=(aa.1 hx).1
  obtain⟨c,hc⟩:∃ c,b.Af[j]? = some c:=⟨_,af (by omega)⟩
  have hcnt:cnt 0 j=(j:Int):=Co (by omega)
  have hg:getI b.Af (j:Int)=some c:=by unfold getI;simp [hc]
  have hl:=hp.lim j x c hx hc
  have hone:=hp.one j (by omega)
  unfold Ak3
  rw [hcnt,hg]
  have e1:Az [(true,true)] (some c) default=some c:=rfl
  rw [e1]
  simp only [ab]
  have e2:(true&&F93 x 0 c.Load)=true:=by rw [zV hl];rfl
  rw [e2,Avp h h1]
  have e3:Az [(true,true)] (some (((Ca b.Ad p.Ae j).length:Nat):Int)) default=some (((Ca b.Ad p.Ae j).length:Nat):Int):=rfl
  rw [e3]
  simp only [ab]
  refine c5 ?_
  simp;omega
 ·rintro s rfl
  exact Ok.pure rfl
theorem J4 (x lo hi:Int):F46 x lo hi=true↔lo<=x/\x<=hi:=by
 simp [F46]
theorem uA {b:Aa} (h:Ap b) (x:As):F47 b x=true↔Cd b x:=by
 have h1:=h.buses
 have h2:=h.brl
 have h3:=h.sol
 have h4:=h.col
 unfold F47 Cd
 rw [A5 (n:=(b.Ac.length:Int)-1) (by omega),A5 (n:=(b.Ad.length:Int)-1) (by omega),A5 (n:=b.Al-1) (by omega),A5 (n:=(b.Af.length:Int)-1) (by omega)]
 by_cases k1:x.Kind=1
 ·rw [dz.2 k1,cond_true,J4];omega
 rw [dA.2 k1,cond_false]
 by_cases k2:x.Kind=2
 ·rw [dz.2 k2,cond_true,J4];omega
 rw [dA.2 k2,cond_false]
 by_cases k3:x.Kind=3
 ·rw [dz.2 k3,cond_true,J4];omega
 rw [dA.2 k3,cond_false]
 by_cases k4:x.Kind=4
 ·rw [dz.2 k4,cond_true,J4];omega
 ·rw [dA.2 k4]
  simp only [cond_false,bO,false_iff]
  omega
theorem Aif {l:List Ah}:∀ {c d:List Bool},c.length=d.length->(∀ k:Nat,c[k]? = some true->d[k]? = some true)->∀ i,(Ca l c i).length<=(Ca l d i).length:=by
 induction l with
 | nil=>intro c d _ _ i;simp [Ca]
 | cons x l ih=>
  intro c d hl h i
  cases c with
  | nil=>simp [Ca]
  | cons v c=>cases d with
   | nil=>simp at hl
   | cons u d=>
    have:=ih (c:=c) (d:=d) (by simpa using hl) (λ k hk=>by have:=h (k+1) (by simpa using hk);simpa using this) i
    have h0:v=true->u=true:=λ e=>by have:=h 0 (by simp [e]);simpa using this
    unfold Ca at this ⊢
    simp only [bF,bn]
    cases hk:(x.Kind==3&&x.B==(i:Int)) with
    | false=>simpa using this
    | true=>
     cases v with
     | false=>cases u <;> simp <;> omega
     | true=>rw [h0 rfl];simp;omega
theorem Ayr {b:Aa} (h:Ap b) {s0:Au} (hs0:B6 s0) :
  Ok (whileN (To b) 1152921504606846976 (0,s0.L,s0.At,([]:List Bool))) (D7 (λ s=>B6 ⟨s.2.1,s.2.2.1⟩/\s.2.2.2.length=b.Ad.length) (λ (_:Unit)=>False)):=by
 have hb:=h.brl
 refine c8 (λ s=>(0<=s.1/\s.1<=(b.Ad.length:Int))/\B6 ⟨s.2.1,s.2.2.1⟩/\(s.2.2.2.length:Int)=s.1) (λ s=>((b.Ad.length:Int)-s.1).toNat) _ _ ?_ ?_ ?_
 ·exact⟨by dsimp only;omega,hs0,by simp⟩
 ·dsimp only;omega
 ·rintro⟨i,L,a,l⟩ ⟨⟨h1,h2⟩,h4,h5⟩
  dsimp only at h1 h2 h4 h5
  unfold To Anq
  refine c4 (λ h=>?_) (λ h=>?_)
  ·simp only [dx] at h
   have e:w64 (i+1)=i+1:=A5 (by omega)
   dsimp only
   rw [e]
   refine (Gm h4 2 (by omega) (by omega)).bind λ u hu=>(cW (by simp;omega)).bind λ m hm=>c5 ?_
   subst hm
   exact⟨⟨by dsimp only;omega,hu.1,by simp;omega⟩,by dsimp only;omega⟩
  ·simp only [dy] at h
   exact cX ⟨h4,by dsimp only;omega⟩
theorem A8 {α:Type} {l:List α} {j:Nat} {x:α} (h:l[j]? = some x):getI l (j:Int)=some x:=by unfold getI;simp [h]
theorem Ns {α:Type} {l:List α} {j:Nat} {x:α} (h:j<l.length):setI l (j:Int) x=some (l.set j x):=by
 unfold setI
 have h1:decide ((0:Int)<=(j:Int))=true:=by simp
 have h2:decide ((j:Int)<(l.length:Int))=true:=by simp;omega
 rw [h1,h2];simp
theorem Ayp {b:Aa} (h:Ap b) {n:Int} {i:Nat} (hn:n=(i:Int)) {c:List Bool} (hc:c.length=b.Ad.length) (w:Int×List Bool) (hw:w.1=n) :
  Ok (foldI (Tm w) b.Ad 0 (true,c)) (D7 (λ s=>s.2.length=b.Ad.length/\(∀ k:Nat,s.2[k]? = some true->c[k]? = some true)/\(Ca b.Ad s.2 i).length<=1) (λ (_:Unit)=>False)):=by
 have hb:=h.brl
 refine c6 (I:=λ j s=>s.2.length=b.Ad.length/\(∀ k:Nat,s.2[k]? = some true->c[k]? = some true)/\(s.1=true->Ca (b.Ad.take j) (s.2.take j) i=[])/\(Ca (b.Ad.take j) (s.2.take j) i).length<=1) ?_ (λ j x s hx hs=>?_) λ s hs=>?_
 ·exact⟨hc,λ _ h=>h,λ _=>by simp [Ca],by simp [Ca]⟩
 ·obtain⟨f,d⟩:=s
  obtain⟨h1,h2,h3,h4⟩:=hs
  dsimp only at h1 h2 h3 h4
  have hj:=(aa.1 hx).1
  obtain⟨v,hv⟩:∃ v,d[j]? = some v:=⟨_,af (by omega)⟩
  have hcnt:cnt 0 j=(j:Int):=Co (by omega)
  unfold Tm Ai1
  dsimp only
  rw [hcnt,A8 hv,Ns (by omega),hw,hn]
  cases hk:(x.Kind==3&&x.B==(i:Int)) with
  | false=>
   simp only [Az,Cn,Bool.false_and]
   refine c5 ⟨h1,h2,λ e=>?_,?_⟩ <;> dsimp only <;> rw [Mz hx hv,hk]
   ·simpa using h3 e
   ·simpa using h4
  | true=>
   simp only [Az,Cn,aM]
   cases v with
   | false=>
    refine c5 ⟨h1,h2,λ e=>?_,?_⟩ <;> dsimp only <;> rw [Mz hx hv,hk]
    ·simpa using h3 e
    ·simpa using h4
   | true=>
    have hset:(d.set j f)[j]? = some f:=by rw [bG (by omega)]
    have htake:(d.set j f).take j=d.take j:=by rw [List.take_set_of_le (au j)]
    refine c5 ⟨by simpa using h1,λ k hk2=>?_,λ e=>?_,?_⟩
    ·dsimp only at hk2
     rw [am] at hk2
     split at hk2
     ·rename_i e;subst e;exact h2 _ hv
     ·exact h2 _ hk2
    ·cases e
    ·dsimp only
     rw [Mz hx hset,hk,htake]
     cases f with
     | false=>simpa using h4
     | true=>simp [h3 rfl]
 ·rw [ay] at hs
  obtain⟨h1,h2,h3,h4⟩:=hs
  have:s.2.take b.Ad.length=s.2:=bS (by omega)
  rw [this] at h4
  exact⟨h1,h2,h4⟩
theorem Ayq {b:Aa} (h:Ap b) {c:List Bool} (hc:c.length=b.Ad.length) :
  Ok (whileN (Tn b) 1152921504606846976 (0,c)) (D7 (λ s=>s.2.length=b.Ad.length/\∀ i,i<b.Af.length->(Ca b.Ad s.2 i).length<=1) (λ (_:Unit)=>False)):=by
 have hco:=h.col
 refine c8 (λ s=>(0<=s.1/\s.1<=(b.Af.length:Int))/\s.2.length=b.Ad.length/\∀ i:Nat,(i:Int)<s.1->(Ca b.Ad s.2 i).length<=1) (λ s=>((b.Af.length:Int)-s.1).toNat) _ _ ?_ ?_ ?_
 ·exact⟨by dsimp only;omega,hc,λ i hi=>by dsimp only at hi;omega⟩
 ·dsimp only;omega
 ·rintro⟨n,d⟩ ⟨⟨h1,h2⟩,h3,h4⟩
  dsimp only at h1 h2 h3 h4
  unfold Tn Anp
  refine c4 (λ hq=>?_) (λ hq=>?_)
  ·simp only [dx] at hq
   have e:w64 (n+1)=n+1:=A5 (by omega)
   dsimp only
   refine (Ayp h (n:=n) (i:=n.toNat) (by omega) h3 (n,d) rfl).inner (λ s hs=>?_) (λ _ h=>h.elim)
   rw [e]
   obtain⟨g1,g2,g3⟩:=hs
   refine c5 ⟨⟨by dsimp only;omega,g1,λ i hi=>?_⟩,by dsimp only;omega⟩
   dsimp only at hi ⊢
   by_cases e:(i:Int)=n
   ·have:i=n.toNat:=by omega
    subst this;exact g3
   ·exact aC (Aif (by omega) g2 i) (h4 i (by omega))
  ·simp only [dy] at hq
   exact cX ⟨h3,λ i hi=>h4 i (by omega)⟩
theorem Ayo {b:Aa} (h:Ap b) {s0:Au} (hs0:B6 s0) :
  Ok (whileN (Tl b) 1152921504606846976 (0,s0.L,s0.At,([]:List Ag))) (D7 (λ s=>B6 ⟨s.2.1,s.2.2.1⟩/\s.2.2.2.length=b.Ac.length/\∀ x,x∈s.2.2.2->C4 x/\x.Since<=4) (λ (_:Unit)=>False)):=by
 have hb:=h.sol
 refine c8 (λ s=>(0<=s.1/\s.1<=(b.Ac.length:Int))/\B6 ⟨s.2.1,s.2.2.1⟩/\(s.2.2.2.length:Int)=s.1/\∀ x,x∈s.2.2.2->C4 x/\x.Since<=4) (λ s=>((b.Ac.length:Int)-s.1).toNat) _ _ ?_ ?_ ?_
 ·exact⟨by dsimp only;omega,hs0,by simp,λ x hx=>by simp at hx⟩
 ·dsimp only;omega
 ·rintro⟨i,L,a,l⟩ ⟨⟨h1,h2⟩,h4,h5,h6⟩
  dsimp only at h1 h2 h4 h5 h6
  unfold Tl Ai0
  refine c4 (λ h=>?_) (λ h=>?_)
  ·simp only [dx] at h
   have e:w64 (i+1)=i+1:=A5 (by omega)
   dsimp only
   rw [e]
   refine (G6 h4 _ (by simp) (by simp)).bind λ u hu=>(Gm hu.1 5 (by omega) (by omega)).bind λ v hv=>(G6 hv.1 _ (by simp) (by simp)).bind λ p hp=>(G6 hp.1 _ (by simp) (by simp)).bind λ q hq=>(cW (by simp;omega)).bind λ m hm=>c5 ?_
   subst hm
   have g1:u.1=0\/u.1=1\/u.1=2\/u.1=2\/u.1=2\/u.1=3:=by simpa using hu.2
   have g2:=hv.2
   have g3:p.1=5000\/p.1=5000\/p.1=5005\/p.1=4950:=by simpa using hp.2
   have g4:q.1=0\/q.1=0\/q.1=40\/q.1=1800\/q.1=3590:=by simpa using hq.2
   refine⟨⟨by dsimp only;omega,hq.1,by simp;omega,λ x hx=>?_⟩,by dsimp only;omega⟩
   rcases aq.1 hx with hx | hx
   ·exact h6 x hx
   ·simp at hx;subst hx
    exact⟨⟨by dsimp only;omega,by dsimp only;omega,by dsimp only;omega,by dsimp only;omega⟩,by dsimp only;omega⟩
  ·simp only [dy] at h
   exact cX ⟨h4,by dsimp only;omega,h6⟩
theorem Ayn {b:Aa} (h:Ap b) {s0:Au} (hs0:B6 s0) :
  Ok (foldI Tk b.Af 0 (s0.L,s0.At,([]:List Int))) (D7 (λ s=>B6 ⟨s.1,s.2.1⟩/\s.2.2.length=b.Af.length/\∀ (i:Nat) n c,s.2.2[i]? = some n->b.Af[i]? = some c->0<=n/\n<=c.Load) (λ (_:Unit)=>False)):=by
 have hb:=h.col
 refine c6 (I:=λ j s=>B6 ⟨s.1,s.2.1⟩/\s.2.2.length=j/\∀ (i:Nat) n c,s.2.2[i]? = some n->b.Af[i]? = some c->0<=n/\n<=c.Load) ?_ (λ j x s hx hs=>?_) λ s hs=>hs
 ·exact⟨hs0,rfl,λ i n c hn=>by simp at hn⟩
 ·obtain⟨L,a,l⟩:=s
  obtain⟨h1,h2,h3⟩:=hs
  dsimp only at h1 h2 h3
  have hj:=(aa.1 hx).1
  unfold Tk
  dsimp only
  refine (G6 h1 _ (by simp) (by simp)).bind λ u hu=>(cW (by simp;omega)).bind λ m hm=>c5 ⟨hu.1,?_,λ i n c hn hc=>?_⟩
  ·subst hm;simp [h2]
  ·dsimp only at hn
   subst hm
   rw [bZ] at hn
   split at hn
   ·exact h3 i n c hn hc
   ·rename_i hi
    have hlt:=(aa.1 hn).1
    simp at hlt
    have:i=j:=by omega
    subst this
    rw [hx] at hc;cases hc
    rw [h2] at hn
    simp at hn;subst hn
    obtain⟨g1,g2,_⟩:=h.co _ x hx
    have g3:=Ax8 (x:=x.Load) (by omega) (by omega)
    have g4:u.1=x.Load\/u.1=x.Load\/u.1=x.Least\/u.1=w64 (Int.tdiv x.Load 3):=by simpa using hu.2
    omega
theorem Aym {b:Aa} (h:Ap b) {s0:Au} (hs0:B6 s0) :
  Ok (whileN (Tj b) 7 (1,s0.L,s0.At,([]:List As))) (D7 (λ s=>B6 ⟨s.2.1,s.2.2.1⟩/\Ev b s.2.2.2/\s.2.2.2.length<=4) (λ (_:Unit)=>False)):=by
 refine c8 (λ s=>(1<=s.1/\s.1<=5)/\B6 ⟨s.2.1,s.2.2.1⟩/\((s.2.2.2.length:Int)<s.1)/\(∀ x,x∈s.2.2.2->Cd b x/\x.Kind<s.1)/\∀ (j:Nat) x y,s.2.2.2[j]? = some x->s.2.2.2[j+1]? = some y->Q4 x y) (λ s=>(5-s.1).toNat) _ _ ?_ ?_ ?_
 ·exact⟨by dsimp only;omega,hs0,by simp,λ x hx=>by simp at hx,λ j x y hx=>by simp at hx⟩
 ·dsimp only;omega
 ·rintro⟨i,L,a,l⟩ ⟨⟨h1,h2⟩,h4,h5,h6,h7⟩
  dsimp only at h1 h2 h4 h5 h6 h7
  unfold Tj
  refine c4 (λ hq=>?_) (λ hq=>?_)
  ·simp only [dx] at hq
   have e:w64 (i+1)=i+1:=A5 (by omega)
   dsimp only
   rw [e]
   have skip:∀ {u:Au},B6 u->Ok (some (.next (i+1,u.L,u.At,l)):Option (Ctl (Int×List Int×Int×List As) Unit)) (Ge (λ s=>((1<=s.1/\s.1<=5)/\B6 ⟨s.2.1,s.2.2.1⟩/\((s.2.2.2.length:Int)<s.1)/\(∀ x,x∈s.2.2.2->Cd b x/\x.Kind<s.1)/\∀ (j:Nat) x y,s.2.2.2[j]? = some x->s.2.2.2[j+1]? = some y->Q4 x y)/\(5-s.1).toNat<(5-i).toNat) (λ s=>B6 ⟨s.2.1,s.2.2.1⟩/\Ev b s.2.2.2/\s.2.2.2.length<=4) (λ _=>False)):=λ hu=>
    c5 ⟨⟨by dsimp only;omega,hu,by dsimp only;omega,λ x hx=>⟨(h6 x hx).1,by have:=(h6 x hx).2;dsimp only;omega⟩,h7⟩,by dsimp only;omega⟩
   refine (Gm h4 5 (by omega) (by omega)).bind λ u hu=>c4 (λ _=>?_) (λ _=>skip hu.1)
   refine (Gm hu.1 4 (by omega) (by omega)).bind λ v hv=>c4 (λ he=>?_) (λ _=>skip hv.1)
   rw [uA h] at he
   refine (cW (by simp;omega)).bind λ m hm=>c5 ?_
   subst hm
   refine⟨⟨by dsimp only;omega,hv.1,by simp;omega,λ x hx=>?_,λ j x y hx hy=>?_⟩,by dsimp only;omega⟩
   ·rcases aq.1 hx with hx | hx
    ·exact⟨(h6 x hx).1,by have:=(h6 x hx).2;dsimp only;omega⟩
    ·simp at hx;subst hx;exact⟨he,by dsimp only;omega⟩
   ·dsimp only at hx hy
    have hyl:=(aa.1 hy).1
    simp at hyl
    rw [aw (by omega)] at hx
    rw [bZ] at hy
    split at hy
    ·exact h7 j x y hx hy
    ·rename_i hn
     have e0:j+1-l.length=0:=by omega
     rw [e0] at hy
     simp at hy;subst hy
     exact .inl (h6 x (ae hx)).2
  ·simp only [dy] at hq
   exact cX ⟨h4,⟨by dsimp only;omega,λ x hx=>(h6 x hx).1,h7⟩,by dsimp only;omega⟩
theorem Axz {b:Aa} (h:Ap b) {s:Au} (hs:B6 s):Ok (vU s b) λ y=>((Ao b y.1/\y.1.Ai.length<=4)/\B6 y.2)/\∀ x,x∈y.1.Ac->x.Since<=4:=by
 unfold vU
 refine (Ayr h hs).andThen (λ s0 h0=>?_) (λ _ h=>h.elim)
 refine (Ayq h h0.2).andThen (λ s1 h1=>?_) (λ _ h=>h.elim)
 refine (Ayo h h0.1).andThen (λ s3 h3=>?_) (λ _ h=>h.elim)
 refine (Ayn h h3.1).andThen (λ s4 h4=>?_) (λ _ h=>h.elim)
 refine (Aym h h4.1).andThen (λ s5 h5=>?_) (λ _ h=>h.elim)
 exact Ok.pure ⟨⟨⟨⟨h1.1,h3.2.1,h4.2.1,λ x hx=>(h3.2.2 x hx).1,h4.2.2,h1.2,h5.2.1⟩,h5.2.2⟩,h5.1⟩,λ x hx=>(h3.2.2 x hx).2⟩
def B1 (b:Aa) (p:Ab) (k i:Int):Option Int:=((b.Ad.zip p.Ae).find? λ z=>(z.1.Kind==k&&z.1.B==i)&&z.2).map (·.1.A)
def Dt (o:Option Int):Int×Bool:=match o with
 | some a=>(a,true)
 | none=>(0,false)
theorem Ah0 {p:Ab} {k i:Int}:∀ (l:List Ah) (c:List Bool) (n:Nat),n+l.length<=9223372036854775807->l.length=c.length->p.Ae.drop n=c ->
  foldI (Xt p k i) l n ()=match ((l.zip c).find? λ z=>(z.1.Kind==k&&z.1.B==i)&&z.2) with
   | some z=>some (.ret (z.1.A,true))
   | none=>some (.next ())
 | [],c,n,_,_,_=>by simp [foldI]
 | x::l,[],n,_,h,_=>by simp at h
 | x::l,v::c,n,hn,h,hd=>by
  simp only [aS] at hn h
  have hv:p.Ae[n]? = some v:=by
   have:=congrArg (·[0]?) hd
   simpa [List.getElem?_drop] using this
  have hd':p.Ae.drop (n+1)=c:=by rw [←bT,hd];rfl
  have ih:=Ah0 (p:=p) (k:=k) (i:=i) l c (n+1) (by omega) (by omega) hd'
  have hcnt:cnt 0 n=(n:Int):=Co (by omega)
  simp only [foldI,Xt,Avw,hcnt,A8 hv,bF,cu]
  cases hk:(x.Kind==k&&x.B==i) with
  | false=>simpa [Az,Cn] using ih
  | true=>
   cases v with
   | false=>simpa [Az,Cn] using ih
   | true=>simp [Az,Cn]
theorem Auj {b:Aa} (h:Ap b) {p:Ab} (hc:p.Ae.length=b.Ad.length) (k i:Int):Aaw b p k i=some (Dt (B1 b p k i)):=by
 have hb:=h.brl
 unfold Aaw
 rw [Ah0 b.Ad p.Ae 0 (by omega) (by omega) rfl]
 unfold B1
 cases (b.Ad.zip p.Ae).find? λ z=>(z.1.Kind==k&&z.1.B==i)&&z.2 with
 | none=>rfl
 | some z=>rfl
theorem qZ {b:Aa} (h:Ap b) {p:Ab} (hc:p.Ae.length=b.Ad.length) (i:Int):Z5 b p i=some (Dt (B1 b p 3 i)):=by
 unfold Z5
 rw [Auj h hc];rfl
def Ce (b:Aa) (p:Ab) (i:Int):Option Int:=
 if 0<=i/\i<p.Ac.length/\(p.Ac.getD i.toNat default).State=2 then B1 b p 2 i else none
theorem N8 {b:Aa} (h:Ap b) {p:Ab} (hp:Ao b p) (i:Int):Z3 b p i=some (Dt (Ce b p i)):=by
 have hs:=h.sol
 have hn:=hp.nso
 refine d5 ?_
 unfold Z3
 have e1:w64 ((p.Ac.length:Int)-1)=(p.Ac.length:Int)-1:=A5 (by omega)
 by_cases hi:0<=i/\i<p.Ac.length
 ·have hin:F93 i 0 (w64 ((p.Ac.length:Int)-1))=true:=by rw [e1];exact zV (by omega)
  obtain⟨x,hx⟩:∃ x,p.Ac[i.toNat]? = some x:=⟨_,af (by omega)⟩
  have hg:getI p.Ac i=some x:=by have:=A8 hx;rwa [az hi.1] at this
  have hd:p.Ac.getD i.toNat default=x:=by simp [List.getD,hx]
  rw [hin,hg]
  refine Ok.bind (P:=λ y=>y=x) (cU (λ _=>Ok.pure rfl) λ hn=>(hn ⟨rfl,trivial⟩).elim) λ y hy=>?_
  subst hy
  unfold Ce
  refine c4 (λ hc=>?_) (λ hc=>?_)
  ·simp only [uT,hin,aB,bi,bO,false_or,dG,ne_eq] at hc
   rw [hd,if_neg (λ hh=>hc hh.2.2)]
   exact Ok.pure rfl
  ·have hc:=ff hc
   simp only [uT,hin,aB,bi,bO,false_or,dG,ne_eq,Decidable.not_not] at hc
   rw [hd,if_pos ⟨hi.1,hi.2,hc⟩,Auj h hp.ncl]
   exact Ok.pure rfl
 ·have hin:F93 i 0 (w64 ((p.Ac.length:Int)-1))=false:=by
   cases hq:F93 i 0 (w64 ((p.Ac.length:Int)-1)) with
   | false=>rfl
   | true=>rw [Ii,e1] at hq;omega
  rw [hin]
  unfold Ce
  rw [if_neg (λ hh=>hi ⟨hh.1,hh.2.1⟩)]
  refine Ok.bind (P:=λ _=>True) (cU (λ hg=>absurd hg.1 (by simp)) λ _=>trivial) λ y _=>?_
  refine c4 (λ _=>Ok.pure rfl) (λ hc=>?_)
  simp [uT,hin] at hc
theorem K8 {b:Aa} (h:Ap b) {p:Ab} {k i a:Int} (e:B1 b p k i=some a):0<=a/\a<b.Al:=by
 unfold B1 at e
 rw [cG] at e
 obtain⟨z,hz,rfl⟩:=e
 exact (h.br z.1 (b9 (cH hz)).1).1
theorem Fb {b:Aa} (h:Ap b) {p:Ab} {i a:Int} (e:Ce b p i=some a):0<=a/\a<b.Al:=by
 unfold Ce at e
 split at e
 ·exact K8 h e
 ·cases e
def D9 (s:List Int) (z:Ah×Bool):List Int:=
 if z.1.Kind=1/\z.2=true then (s.set z.1.A.toNat (min (s.getD z.1.A.toNat 0) (s.getD z.1.B.toNat 0))).set z.1.B.toNat (min (s.getD z.1.A.toNat 0) (s.getD z.1.B.toNat 0)) else s
def Cq (l:List (Ah×Bool)) (s:List Int):List Int:=l.foldl D9 s
def Cv (n:Nat):List Int:=(List.range n).map λ (i:Nat)=>(i:Int)
def groups (b:Aa) (p:Ab):List Int:=(List.range b.Al.toNat).foldl (λ s _=>Cq (b.Ad.zip p.Ae) s) (Cv b.Al.toNat)
theorem E5 (s:List Int) (z:Ah×Bool):(D9 s z).length=s.length:=by
 unfold D9;split <;> simp
theorem Gc (l:List (Ah×Bool)):∀ s:List Int,(Cq l s).length=s.length:=by
 induction l with
 | nil=>intro s;rfl
 | cons z l ih=>intro s;show (Cq l (D9 s z)).length=_;rw [ih,E5]
theorem Pu {b:Aa} {p:Ab} {n:Nat}:∀ (xs:List Nat) (s:List Int),s.length=n->(xs.foldl (λ s _=>Cq (b.Ad.zip p.Ae) s) s).length=n
 | [],s,h=>h
 | _::xs,s,h=>Pu xs _ (by rw [Gc];exact h)
theorem Ho (b:Aa) (p:Ab):(groups b p).length=b.Al.toNat:=Pu _ _ (by simp [Cv])
theorem Azn {b:Aa} (h:Ap b) {p:Ab} (hc:p.Ae.length=b.Ad.length) {s:List Int} (hs:s.length=b.Al.toNat) :
  Ok (foldI (Xu p) b.Ad 0 s) (D7 (λ r=>r=Cq (b.Ad.zip p.Ae) s) (λ (_:Unit)=>False)):=by
 have hb:=h.brl
 have hbu:=h.buses
 refine c6 (I:=λ j r=>r=Cq ((b.Ad.take j).zip (p.Ae.take j)) s) (by simp [Cq]) (λ j x r hx hr=>?_) λ r hr=>?_
 ·have hj:=(aa.1 hx).1
  obtain⟨v,hv⟩:∃ v,p.Ae[j]? = some v:=⟨_,af (by omega)⟩
  have hcnt:cnt 0 j=(j:Int):=Co (by omega)
  have hl:r.length=b.Al.toNat:=by rw [hr,Gc,hs]
  have hnext:Cq ((b.Ad.take (j+1)).zip (p.Ae.take (j+1))) s=D9 r (x,v):=by
   rw [Bi hx,Bi hv,List.zip_append (by simp;omega)]
   unfold Cq at hr ⊢
   rw [aN,←hr];rfl
  rw [hnext]
  unfold Xu
  rw [hcnt,A8 hv]
  obtain⟨⟨a0,a1⟩,hk⟩:=h.br x (ae hx)
  by_cases k1:x.Kind=1
  ·rw [dz.2 k1]
   refine Ok.bind (P:=λ y=>y=v) (cU (λ _=>Ok.pure rfl) λ hn=>(hn ⟨rfl,trivial⟩).elim) λ y hy=>?_
   subst hy
   have hB:x.A<x.B/\x.B<b.Al:=by omega
   cases y with
   | false=>
    refine c4 (λ hq=>by simp at hq) (λ _=>c5 ?_)
    simp [D9]
   | true=>
    refine c4 (λ _=>?_) (λ hq=>by simp at hq)
    refine (c9 a0 (by omega)).bind λ u hu=>(c9 (by omega) (by omega)).bind λ w hw=>(cV a0 (by omega)).bind λ t ht=>?_
    subst ht
    refine (c9 (by omega) (by simp;omega)).bind λ _ _=>(cV (by omega) (by simp;omega)).bind λ t ht=>c5 ?_
    subst ht
    simp [D9,k1,List.getD,hu,hw]
  ·rw [dA.2 k1]
   refine Ok.bind (P:=λ _=>True) (cU (λ hg=>absurd hg.1 (by simp)) λ _=>trivial) λ y _=>?_
   refine c4 (λ hq=>by simp at hq) (λ _=>c5 ?_)
   simp [D9,k1]
 ·rw [ay,←hc,ay] at hr
  exact hr
theorem Auu {b:Aa} (h:Ap b) {p:Ab} (hc:p.Ae.length=b.Ad.length):Aaz b p=some (groups b p):=by
 have hbu:=h.buses
 refine d5 ?_
 unfold Aaz
 refine (Ok.mkI (by omega) (by omega)).bind λ y hy=>?_
 refine Ok.andThen (A:=λ s=>s=Cv b.Al.toNat) (B:=λ (_:Unit)=>False) ?_ ?_ (λ _ h=>h.elim)
 ·refine c6 (I:=λ j s=>s=(List.range b.Al.toNat).map λ i=>if i<j then (i:Int) else 0) ?_ (λ j x s hx hs=>?_) λ s hs=>?_
  ·rw [hy,O2]
   exact bf λ i _=>by simp
  ·have hj:=(aa.1 hx).1
   have hjl:j<b.Al.toNat:=by rw [hy] at hj;simpa using hj
   have hcnt:cnt 0 j=(j:Int):=Co (by omega)
   subst hs
   unfold Aay
   rw [hcnt]
   refine (de (by omega) (by omega)).bind λ _ _=>(dk (by omega) (by omega)).bind λ z hz=>c5 ?_
   rw [hz]
   refine bf λ i _=>?_
   by_cases e:i=j
   ·subst e;simp
   ·have:((j:Int)).toNat=j:=by omega
    rw [this,if_neg e]
    by_cases e2:i<j
    ·rw [if_pos e2,if_pos (by omega)]
    ·rw [if_neg e2,if_neg (by omega)]
  ·rw [hs]
   unfold Cv
   refine bf λ i hi=>?_
   rw [hy]
   simp at hi
   simp [hi]
 ·rintro s rfl
  refine Ok.andThen (A:=λ s=>s=groups b p) (B:=λ (_:Unit)=>False) ?_ (λ s hs=>Ok.pure hs) (λ _ h=>h.elim)
  refine c6 (I:=λ j s=>s=(List.range j).foldl (λ s _=>Cq (b.Ad.zip p.Ae) s) (Cv b.Al.toNat)) rfl (λ j x s hx hs=>?_) λ s hs=>?_
  ·unfold Aax
   have hl:s.length=b.Al.toNat:=by rw [hs];exact Pu _ _ (by simp [Cv])
   refine (Azn h hc hl).inner (λ r hr=>c5 ?_) (λ _ h=>h.elim)
   rw [hr,bt,aN,←hs];rfl
  ·rw [hs]
   unfold groups
   congr 2
   simp [Cv]
theorem Azm {s:List Int} (h:∀ (i:Nat) v,s[i]? = some v->0<=v/\v<=i) {z:Ah×Bool} (hz:z.1.Kind=1->0<=z.1.A/\z.1.A<z.1.B/\z.1.B<s.length):∀ (i:Nat) v,(D9 s z)[i]? = some v->0<=v/\v<=i:=by
 unfold D9
 split
 ·rename_i hk
  obtain⟨h1,h2,h3⟩:=hz hk.1
  have ga:s[z.1.A.toNat]? = some (s.getD z.1.A.toNat 0):=by rw [af (by omega)];simp [List.getD,List.getElem?_eq_getElem (show z.1.A.toNat<s.length by omega)]
  have gb:s[z.1.B.toNat]? = some (s.getD z.1.B.toNat 0):=by rw [af (by omega)];simp [List.getD,List.getElem?_eq_getElem (show z.1.B.toNat<s.length by omega)]
  have ha:=h _ _ ga
  have hb:=h _ _ gb
  intro i v hv
  rw [am] at hv
  split at hv
  ·rename_i e;subst e
   split at hv
   ·cases hv;omega
   ·cases hv
  ·rw [am] at hv
   split at hv
   ·rename_i e;subst e
    split at hv
    ·cases hv;omega
    ·cases hv
   ·exact h i v hv
 ·exact h
theorem Acj {n:Nat}:∀ (l:List (Ah×Bool)) (s:List Int),s.length=n->(∀ z,z∈l->z.1.Kind=1->0<=z.1.A/\z.1.A<z.1.B/\z.1.B<n)->(∀ (i:Nat) v,s[i]? = some v->0<=v/\v<=i)->∀ (i:Nat) v,(Cq l s)[i]? = some v->0<=v/\v<=i
 | [],s,_,_,h=>h
 | z::l,s,hs,hz,h=>Acj l (D9 s z) (by rw [E5];exact hs) (λ y hy=>hz y (ai _ hy)) (Azm h (by rw [hs];exact hz z ag))
theorem O_ {b:Aa} (h:Ap b) (p:Ab):∀ (i:Nat) v,(groups b p)[i]? = some v->0<=v/\v<=i:=by
 have hbu:=h.buses
 have hz:∀ z,z∈b.Ad.zip p.Ae->z.1.Kind=1->0<=z.1.A/\z.1.A<z.1.B/\z.1.B<(b.Al.toNat:Int):=by
  intro z hz hk
  have:=h.br z.1 (b9 hz).1
  unfold Jp at this
  omega
 have key:∀ (xs:List Nat) (s:List Int),s.length=b.Al.toNat->(∀ (i:Nat) v,s[i]? = some v->0<=v/\v<=i)->∀ (i:Nat) v,(xs.foldl (λ s _=>Cq (b.Ad.zip p.Ae) s) s)[i]? = some v->0<=v/\v<=i:=by
  intro xs
  induction xs with
  | nil=>intro s _ h;exact h
  | cons x xs ih=>intro s hl h;exact ih _ (by rw [Gc];exact hl) (Acj _ s hl hz h)
 refine key _ _ (by simp [Cv]) ?_
 intro i v hv
 simp only [Cv,aA] at hv
 cases hr:(List.range b.Al.toNat)[i]? with
 | none=>rw [hr] at hv;cases hv
 | some k=>
  rw [hr] at hv
  have:=aa.1 hr
  simp at this
  obtain⟨_,rfl⟩:=this
  cases hv;dsimp only;omega
def I6 (x:Aj):Bool:=!((x.Al.length:Int)==0)
theorem Az2 (l:List Aj) (h:l.length<=9223372036854775807):Vz l=some (Sj (λ x=>(x.Al.length:Int)==0) l):=by
 unfold Vz
 exact Lt (λ x:Aj=>(x.Al.length:Int)==0) (λ i y=>rfl) l h
theorem A3j (l:List Aj) (hl:l.length<=1000):Q7 l=some (l.filter I6):=by
 refine d5 ?_
 unfold Q7
 rw [Az2 l (by omega)]
 simp only [ab]
 unfold Sj
 cases hf:l.findIdx? λ x=>(x.Al.length:Int)==0 with
 | none=>
  rw [cS] at hf
  refine c4 (λ _=>Ok.pure ?_) (λ hc=>by simp at hc)
  rw [eq_comm,cE]
  intro x hx
  simp only [I6,hf x hx];rfl
 | some i=>
  rw [cT] at hf
  obtain⟨hi,hp,hn⟩:=hf
  refine c4 (λ hc=>?_) (λ _=>?_)
  ·simp only [dz] at hc;omega
  have e1:w64 ((i:Int)+1)=(i:Int)+1:=A5 (by omega)
  simp only [e1]
  refine Ok.andThen (A:=λ s=>0<=s.1/\s.1<=(l.length:Int)/\s.2.2.length=l.length/\s.2.2.take s.1.toNat=l.filter I6) (B:=λ (_:Unit)=>False) ?_ ?_ (λ _ h=>h.elim)
  ·refine c8 (λ s=>(0<=s.1/\s.1<s.2.1/\s.2.1<=(l.length:Int))/\s.2.2.length=l.length/\s.2.2.take s.1.toNat=(l.take s.2.1.toNat).filter I6/\s.2.2.drop s.2.1.toNat=l.drop s.2.1.toNat) (λ s=>((l.length:Int)-s.2.1).toNat) _ _ ?_ ?_ ?_
   ·refine⟨by dsimp only;omega,rfl,?_,rfl⟩
    dsimp only
    have e2:((i:Int)+1).toNat=i+1:=by omega
    rw [e2,ah,Bi (af hi),bm]
    have h1:(l.take i).filter I6=l.take i:=by
     rw [cE]
     intro x hx
     obtain⟨j,hj,rfl⟩:=cd hx
     simp only [aK] at hj
     rw [List.getElem_take]
     have:=hn j (by omega)
     simp only [I6]
     simpa using this
    have h2:I6 l[i]=false:=by simp only [I6,hp];rfl
    rw [h1]
    simp [h2]
   ·dsimp only;omega
   ·rintro⟨a,j,m⟩ ⟨⟨h1,h2,h3⟩,h4,h5,h6⟩
    dsimp only at h1 h2 h3 h4 h5 h6
    unfold V3 Ai2
    dsimp only
    refine c4 (λ hq=>?_) (λ hq=>?_)
    ·simp only [dx] at hq
     have e1:w64 (j+1)=j+1:=A5 (by omega)
     have e2:w64 (a+1)=a+1:=A5 (by omega)
     have e3:(j+1).toNat=j.toNat+1:=by omega
     have e4:(a+1).toNat=a.toNat+1:=by omega
     refine (c9 (by omega) (by omega)).bind λ y hy=>?_
     have hyl:l[j.toNat]? = some y:=by
      have:=congrArg (·[0]?) h6
      simp only [ar,cv] at this
      rw [←this];exact hy
     have hdrop:∀ (q:List Aj),q.drop j.toNat=l.drop j.toNat->q.drop (j.toNat+1)=l.drop (j.toNat+1):=λ q hq=>by
      rw [←bT,hq,bT]
     refine c4 (λ hf=>?_) (λ hf=>?_)
     ·refine (c9 (by omega) (by omega)).bind λ _ _=>(cV (by omega) (by omega)).bind λ z hz=>?_
      rw [e1,e2]
      subst hz
      refine c5 ⟨⟨by dsimp only;omega,by simpa using h4,?_,?_⟩,by dsimp only;omega⟩
      ·dsimp only
       rw [e3,e4,Bi hyl,bm,←h5]
       have hfl:I6 y=true:=hf
       rw [Bi (x:=y) (by rw [bG (by omega)])]
       simp [hfl,List.take_set_of_le]
      ·dsimp only
       rw [e3,List.drop_set_of_lt (by omega)]
       exact hdrop m h6
     ·rw [e1]
      refine c5 ⟨⟨by dsimp only;omega,h4,?_,?_⟩,by dsimp only;omega⟩
      ·dsimp only
       have hfl:I6 y=false:=hf
       rw [e3,Bi hyl,bm,←h5]
       simp [hfl]
      ·dsimp only
       rw [e3];exact hdrop m h6
    ·simp only [dy] at hq
     have e:j.toNat=l.length:=by omega
     refine cX ⟨h1,by dsimp only;omega,h4,?_⟩
     dsimp only
     rw [h5,e,ay]
  ·rintro⟨a,j,m⟩ ⟨h1,h2,h3,h4⟩
   dsimp only at h1 h2 h3 h4 ⊢
   have hc:(Hf m a.toNat ((Int.toNat (m.length:Int))-a.toNat) (⟨([]:List Int),([]:List Int),([]:List Int)⟩:Aj)).length=l.length:=by
    simp [Hf];omega
   refine (Ok.bndI h1 (by omega) (by omega)).bind λ _ _=>(Ok.bndI (by omega) h1 (by rw [hc];omega)).bind λ _ _=>Ok.pure ?_
   rw [←h4]
   unfold Hf
   rw [Nat.sub_zero,ce (by simp;omega),List.take_take,Nat.min_self]
def Dw (b:Aa) (p:Ab) (o:Option Int):Option Int:=o.map λ a=>(groups b p).getD a.toNat 0
def D6 (b:Aa) (p:Ab) (n f:Nat):List Int:=((List.range n).filter λ (i:Nat)=>(groups b p).getD i 0==(f:Int)).map λ (i:Nat)=>(i:Int)
def Ez (b:Aa) (p:Ab) (n f:Nat):List Int:=((List.range n).filter λ (i:Nat)=>Dw b p (Ce b p (i:Int))==some (f:Int)).map λ (i:Nat)=>(i:Int)
def Gj (b:Aa) (p:Ab) (n f:Nat):List Int:=((List.range n).filter λ (i:Nat)=>Dw b p (B1 b p 3 (i:Int))==some (f:Int)).map λ (i:Nat)=>(i:Int)
def isl (b:Aa) (p:Ab) (f:Nat):Aj:=⟨D6 b p b.Al.toNat f,Ez b p b.Ac.length f,Gj b p b.Af.length f⟩
def Bg (b:Aa) (p:Ab):List Aj:=((List.range b.Al.toNat).map (isl b p)).filter I6
theorem Em (q:Nat->Bool) (n:Nat):((List.range (n+1)).filter q).map (λ (i:Nat)=>(i:Int))=((List.range n).filter q).map (λ (i:Nat)=>(i:Int))++if q n=true then [(n:Int)] else []:=by
 rw [bt,bm,bo]
 congr 1
 cases h:q n <;> simp [h]
theorem C1 (q:Nat->Bool) (n:Nat):(((List.range n).filter q).map (λ (i:Nat)=>(i:Int))).length<=n:=by
 have:=bp q (List.range n)
 simpa using this
theorem Kf {b : Aa} (h : Ap b) {p : Ab} (hp : Ao b p) : Z6 b p = some (Bg b p) := by
 have hbu:=h.buses
 have hso:=h.sol
 have hco:=h.col
 have hgl:=Ho b p
 have hglo:=O_ h p
 refine d5 ?_
 unfold Z6
 rw [B4 h hp]
 simp only [ab]
 refine c4 (λ hc=>by simp at hc) (λ _=>?_)
 rw [Auu h hp.ncl]
 simp only [ab]
 refine (Ok.mkI (by omega) (by omega)).bind λ y hy=>?_
 have hget:∀ (i:Nat),i<b.Al.toNat->(groups b p)[i]? = some ((groups b p).getD i 0):=λ i hi=>by
  have:i<(groups b p).length:=by omega
  simp [List.getD,List.getElem?_eq_getElem this]
 refine Ok.andThen (A:=λ s=>s=(List.range b.Al.toNat).map λ f=>(⟨D6 b p b.Al.toNat f,[],[]⟩:Aj)) (B:=λ (_:Unit)=>False) ?_ ?_ (λ _ h=>h.elim)
 ·refine c6 (I:=λ j s=>s=(List.range b.Al.toNat).map λ f=>(⟨D6 b p j f,[],[]⟩:Aj)) ?_ (λ j x s hx hs=>?_) λ s hs=>?_
  ·rw [hy,O2];rfl
  ·subst hs
   have hj:j<b.Al.toNat:=by have:=(aa.1 hx).1;omega
   have hlo:=hglo j x hx
   have hxe:(groups b p).getD j 0=x:=by simp [List.getD,hx]
   have hcnt:cnt 0 j=(j:Int):=Co (by omega)
   unfold Aa5
   rw [hcnt]
   refine (de (by omega) (by omega)).bind λ u hu=>?_
   subst hu
   have hl:(D6 b p j x.toNat).length<=j:=C1 _ _
   refine (cW (by simp;omega)).bind λ v hv=>(dk (by omega) (by omega)).bind λ w hw=>c5 ?_
   rw [hw]
   refine bf λ f _=>?_
   unfold D6
   rw [Em,hxe]
   by_cases e:f=x.toNat
   ·subst e
    rw [if_pos rfl,if_pos (by simp;omega),hv]
    rfl
   ·rw [if_neg e,if_neg (by simp;omega),aH]
  ·rw [hgl] at hs;exact hs
 ·rintro s rfl
  refine Ok.andThen (A:=λ s=>s.2=(List.range b.Al.toNat).map λ f=>(⟨D6 b p b.Al.toNat f,Ez b p b.Ac.length f,[]⟩:Aj)) (B:=λ (_:Unit)=>False) ?_ ?_ (λ _ h=>h.elim)
  ·refine c8 (λ s=>(0<=s.1/\s.1<=(b.Ac.length:Int))/\s.2=(List.range b.Al.toNat).map λ f=>(⟨D6 b p b.Al.toNat f,Ez b p s.1.toNat f,[]⟩:Aj)) (λ s=>((b.Ac.length:Int)-s.1).toNat) _ _ ?_ ?_ ?_
   ·exact⟨by dsimp only;omega,rfl⟩
   ·dsimp only;omega
   ·rintro⟨i,s⟩ ⟨⟨h1,h2⟩,h3⟩
    dsimp only at h1 h2 h3
    subst h3
    unfold Aa4 Avy
    dsimp only
    refine c4 (λ hq=>?_) (λ hq=>?_)
    ·simp only [dx] at hq
     have e1:w64 (i+1)=i+1:=A5 (by omega)
     have e2:(i+1).toNat=i.toNat+1:=by omega
     have e3:((i.toNat:Nat):Int)=i:=by omega
     rw [N8 h hp]
     simp only [ab]
     cases hcn:Ce b p i with
     | none=>
      refine c4 (λ hc=>by simp [Dt] at hc) (λ _=>?_)
      rw [e1]
      refine c5 ⟨⟨by dsimp only;omega,?_⟩,by dsimp only;omega⟩
      dsimp only
      rw [e2]
      refine bf λ f _=>?_
      unfold Ez
      rw [Em,e3,hcn,if_neg (by simp [Dw]),aH]
     | some a=>
      have hab:=Fb h hcn
      have hga:=hget a.toNat (by omega)
      have hgla:=hglo _ _ hga
      refine c4 (λ _=>?_) (λ hc=>by simp [Dt] at hc)
      have hg2:getI (groups b p) a=some ((groups b p).getD a.toNat 0):=by have:=A8 hga;rwa [az hab.1] at this
      simp only [Dt,hg2,ab]
      generalize hge:(groups b p).getD a.toNat 0=ga at hgla
      refine (de (by omega) (by omega)).bind λ u hu=>?_
      subst hu
      have hl:(Ez b p i.toNat ga.toNat).length<=i.toNat:=C1 _ _
      refine (cW (by simp;omega)).bind λ v hv=>(dk (by omega) (by omega)).bind λ w hw=>?_
      rw [e1]
      refine c5 ⟨⟨by dsimp only;omega,?_⟩,by dsimp only;omega⟩
      dsimp only
      rw [hw,e2]
      refine bf λ f _=>?_
      unfold Ez
      rw [Em,e3,hcn]
      simp only [Dw,bU,hge]
      by_cases e:f=ga.toNat
      ·subst e
       rw [if_pos rfl,if_pos (by simp;omega),hv]
       rfl
      ·rw [if_neg e,if_neg (by simp;omega),aH]
    ·simp only [dy] at hq
     have e:i.toNat=b.Ac.length:=by omega
     rw [e]
     exact cX rfl
  ·rintro⟨i0,s⟩ hs
   dsimp only at hs
   subst hs
   dsimp only
   refine Ok.andThen (A:=λ s=>s.2=(List.range b.Al.toNat).map (isl b p)) (B:=λ (_:Unit)=>False) ?_ ?_ (λ _ h=>h.elim)
   ·refine c8 (λ s=>(0<=s.1/\s.1<=(b.Af.length:Int))/\s.2=(List.range b.Al.toNat).map λ f=>(⟨D6 b p b.Al.toNat f,Ez b p b.Ac.length f,Gj b p s.1.toNat f⟩:Aj)) (λ s=>((b.Af.length:Int)-s.1).toNat) _ _ ?_ ?_ ?_
    ·exact⟨by dsimp only;omega,rfl⟩
    ·dsimp only;omega
    ·rintro⟨i,s⟩ ⟨⟨h1,h2⟩,h3⟩
     dsimp only at h1 h2 h3
     subst h3
     unfold Aa3 Avx
     dsimp only
     refine c4 (λ hq=>?_) (λ hq=>?_)
     ·simp only [dx] at hq
      have e1:w64 (i+1)=i+1:=A5 (by omega)
      have e2:(i+1).toNat=i.toNat+1:=by omega
      have e3:((i.toNat:Nat):Int)=i:=by omega
      rw [qZ h hp.ncl]
      simp only [ab]
      cases hcn:B1 b p 3 i with
      | none=>
       refine c4 (λ hc=>by simp [Dt] at hc) (λ _=>?_)
       rw [e1]
       refine c5 ⟨⟨by dsimp only;omega,?_⟩,by dsimp only;omega⟩
       dsimp only
       rw [e2]
       refine bf λ f _=>?_
       unfold Gj
       rw [Em,e3,hcn,if_neg (by simp [Dw]),aH]
      | some a=>
       have hab:=K8 h hcn
       have hga:=hget a.toNat (by omega)
       have hgla:=hglo _ _ hga
       refine c4 (λ _=>?_) (λ hc=>by simp [Dt] at hc)
       have hg2:getI (groups b p) a=some ((groups b p).getD a.toNat 0):=by have:=A8 hga;rwa [az hab.1] at this
       simp only [Dt,hg2,ab]
       generalize hge:(groups b p).getD a.toNat 0=ga at hgla
       refine (de (by omega) (by omega)).bind λ u hu=>?_
       subst hu
       have hl:(Gj b p i.toNat ga.toNat).length<=i.toNat:=C1 _ _
       refine (cW (by simp;omega)).bind λ v hv=>(dk (by omega) (by omega)).bind λ w hw=>?_
       rw [e1]
       refine c5 ⟨⟨by dsimp only;omega,?_⟩,by dsimp only;omega⟩
       dsimp only
       rw [hw,e2]
       refine bf λ f _=>?_
       unfold Gj
       rw [Em,e3,hcn]
       simp only [Dw,bU,hge]
       by_cases e:f=ga.toNat
       ·subst e
        rw [if_pos rfl,if_pos (by simp;omega),hv]
        rfl
       ·rw [if_neg e,if_neg (by simp;omega),aH]
     ·simp only [dy] at hq
      have e:i.toNat=b.Af.length:=by omega
      rw [e]
      exact cX rfl
   ·rintro⟨i1,s⟩ hs
    dsimp only at hs
    subst hs
    dsimp only
    rw [A3j _ (by simp;omega)]
    exact Ok.pure rfl
theorem Sz {α:Type} {B:Nat} {l:List α} (h:l.length*B<=140737488355328):appI B [] l=some l:=by
 unfold appI
 have:decide ((([]:List α).length+l.length)*B<=140737488355328)=true:=by simpa using h
 rw [this];rfl
theorem C3 {b:Aa} (h:Ap b) {p:Ab} (hp:Ao b p):F35 p=some p:=by
 have h1:=hp.ncl
 have h2:=hp.nso
 have h3:=hp.nli
 have h4:=hp.brk.len
 have h5:=h.brl
 have h6:=h.sol
 have h7:=h.col
 unfold F35 F78 F79 F80 F81
 rw [Sz (by omega),Sz (by omega),Sz (by omega),Sz (by omega)]
 rfl
theorem eqB (l:List Bool) (h:l.length<=9223372036854775807):F72 l l=some true:=by
 unfold F72
 rw [Dz l 0 λ j x hj=>?_]
 ·simp [andThen]
 ·have hjl:=(aa.1 hj).1
  unfold vN
  rw [aE,Co (by omega),A8 hj]
  simp
theorem eqI (l:List Int) (h:l.length<=9223372036854775807):F74 l l=some true:=by
 unfold F74
 rw [Dz l 0 λ j x hj=>?_]
 ·simp [andThen]
 ·have hjl:=(aa.1 hj).1
  unfold vL
  rw [aE,Co (by omega),A8 hj]
  simp
theorem eqR (l:List Ag) (h:l.length<=9223372036854775807):F73 l l=some true:=by
 unfold F73
 rw [Dz l 0 λ j x hj=>?_]
 ·simp [andThen]
 ·have hjl:=(aa.1 hj).1
  unfold vM A1o
  rw [aE,Co (by omega),A8 hj]
  simp
theorem eqP (l:List As) (h:l.length<=9223372036854775807):F75 l l=some true:=by
 unfold F75
 rw [Dz l 0 λ j x hj=>?_]
 ·simp [andThen]
 ·have hjl:=(aa.1 hj).1
  unfold vK A1n
  rw [aE,Co (by omega),A8 hj]
  simp
structure A0u (p:Ab):Prop where
 c:p.Ae.length<=1000
 s:p.Ac.length<=1000
 l:p.Am.length<=1000
 k:p.Ai.length<=1000
theorem Ao.lens {b:Aa} (h:Ap b) {p:Ab} (hp:Ao b p):A0u p:=by
 have h1:=hp.ncl
 have h2:=hp.nso
 have h3:=hp.nli
 have h4:=hp.brk.len
 have h5:=h.brl
 have h6:=h.sol
 have h7:=h.col
 exact⟨by omega,by omega,by omega,by omega⟩
theorem Asc {p:Ab} (h:A0u p):F32 p p=some true:=by
 have h1:=h.c
 have h2:=h.s
 have h3:=h.l
 have h4:=h.k
 unfold F32
 rw [eqB _ (by omega),eqI _ (by omega),eqR _ (by omega),eqP _ (by omega)]
 rfl
def Yg (B0 x:Ag):Ag:=⟨x.State,x.Since,B0.Ar,B0.Phase⟩
def Et (B0:Ag) (idx:List Int) (ss:List Ag):List Ag:=idx.foldl (λ s i=>s.set i.toNat (Yg B0 (s.getD i.toNat default))) ss
theorem Hu (B0:Ag):∀ (idx:List Int) (ss:List Ag),(Et B0 idx ss).length=ss.length
 | [],_=>rfl
 | i::idx,ss=>by
  show (Et B0 idx _).length=_
  rw [Hu B0 idx,bj]
theorem Abl {B0:Ag} {idx:List Int} {j:Nat} {i:Int} (h:idx[j]? = some i) (ss:List Ag):Et B0 (idx.take (j+1)) ss=(Et B0 (idx.take j) ss).set i.toNat (Yg B0 ((Et B0 (idx.take j) ss).getD i.toNat default)):=by
 unfold Et
 rw [Bi h,aN];rfl
theorem Um {p:Ab} {idx:List Int} {B0:Ag} (h:∀ i,i∈idx->0<=i/\i<p.Ac.length):Of p idx B0=some (Et B0 idx p.Ac):=by
 refine d5 ?_
 unfold Of
 refine Ok.andThen (A:=λ s=>s=Et B0 idx p.Ac) (B:=λ (_:Unit)=>False) ?_ (λ s hs=>Ok.pure hs) (λ _ h=>h.elim)
 refine c6 (I:=λ j s=>s=Et B0 (idx.take j) p.Ac) rfl (λ j x s hx hs=>?_) λ s hs=>?_
 ·have hi:=h x (ae hx)
  have hl:s.length=p.Ac.length:=by rw [hs,Hu]
  unfold V7
  refine (c9 hi.1 (by omega)).bind λ u hu=>(cV hi.1 (by omega)).bind λ v hv=>?_
  have hvg:v[x.toNat]? = some (⟨u.State,u.Since,B0.Ar,u.Phase⟩:Ag):=by rw [hv,bG (by omega)]
  refine Ok.bind (P:=λ w=>w=(⟨u.State,u.Since,B0.Ar,u.Phase⟩:Ag)) ((c9 hi.1 (by rw [hv];simpa using by omega)).mono λ w hw=>by rw [hvg] at hw;cases hw;rfl) λ w hw=>?_
  refine (cV hi.1 (by rw [hv];simpa using by omega)).bind λ z hz=>c5 ?_
  rw [Abl hx,←hs,hz,hv,hw,List.set_set]
  have:s.getD x.toNat default=u:=by simp [List.getD,hu]
  rw [this];rfl
 ·rw [ay] at hs;exact hs
def Cr (b:Aa) (p:Ab):List Ag:=(Bg b p).foldl (λ s x=>match x.Ac with | []=>s | i::_=>Et (p.Ac.getD i.toNat default) x.Ac s) p.Ac
theorem Qk {b:Aa} {p:Ab} {x:Aj} (h:x∈Bg b p):∀ i,i∈x.Ac->0<=i/\i<b.Ac.length:=by
 unfold Bg at h
 obtain⟨f,_,rfl⟩:=an.1 (ao.1 h).1
 intro i hi
 obtain⟨k,hk,rfl⟩:=an.1 hi
 have:=aI.1 (ao.1 hk).1
 omega
theorem Qj (b:Aa) (p:Ab):(Bg b p).length<=b.Al.toNat:=by
 have:=bp I6 ((List.range b.Al.toNat).map (isl b p))
 simpa [Bg] using this
def Cz (p:Ab) (s:List Ag) (x:Aj):List Ag:=match x.Ac with
 | []=>s
 | i::_=>Et (p.Ac.getD i.toNat default) x.Ac s
theorem N6 (p:Ab) (s:List Ag) (x:Aj):(Cz p s x).length=s.length:=by
 unfold Cz;split
 ·rfl
 ·rw [Hu]
theorem Lm (p:Ab):∀ (l:List Aj) (s:List Ag),(l.foldl (Cz p) s).length=s.length
 | [],_=>rfl
 | x::l,s=>by show (l.foldl (Cz p) _).length=_;rw [Lm p l,N6]
theorem Ft (b:Aa) (p:Ab):(Cr b p).length=p.Ac.length:=Lm p _ _
theorem Pa {b:Aa} (h:Ap b) {p:Ab} (hp:Ao b p):Aa7 b p=some (⟨p.Ae,Cr b p,p.Am,p.Ai⟩,0):=by
 refine d5 ?_
 unfold Aa7
 rw [B4 h hp,C3 h hp,Kf h hp]
 simp only [ab]
 refine c4 (λ hc=>by simp at hc) (λ _=>?_)
 refine Ok.andThen (A:=λ s=>s=Cr b p) (B:=λ (_:Unit)=>False) ?_ (λ s hs=>Ok.pure (by rw [hs])) (λ _ h=>h.elim)
 refine c6 (I:=λ j s=>s=((Bg b p).take j).foldl (Cz p) p.Ac) rfl (λ j x s hx hs=>?_) λ s hs=>?_
 ·have hi:=Qk (ae hx)
  have hl:s.length=p.Ac.length:=by rw [hs,Lm]
  have hn:=hp.nso
  have hnext:((Bg b p).take (j+1)).foldl (Cz p) p.Ac=Cz p s x:=by rw [Bi hx,aN,←hs];rfl
  unfold Aa6 Avz
  cases hsrc:x.Ac with
  | nil=>
   refine c4 (λ hc=>by simp at hc) (λ _=>c5 ?_)
   rw [hnext];simp [Cz,hsrc]
  | cons i l=>
   have hi0:=hi i (by rw [hsrc];exact ag)
   refine c4 (λ _=>?_) (λ hc=>by simp at hc)
   have hg:getI (i::l) 0=some i:=rfl
   obtain⟨u,hu⟩:∃ u,p.Ac[i.toNat]? = some u:=⟨_,af (by omega)⟩
   have hg2:getI p.Ac i=some u:=by have:=A8 hu;rwa [az hi0.1] at this
   rw [hg]
   simp only [ab]
   rw [hg2]
   simp only [ab]
   rw [Um (by
    intro k hk
    have:=hi k (by rw [hsrc];exact hk)
    dsimp only
    omega)]
   refine c5 ?_
   rw [hnext]
   have:p.Ac.getD i.toNat default=u:=by simp [List.getD,hu]
   simp only [Cz,hsrc,this]
 ·rw [ay] at hs;exact hs

theorem A4e (b:Aa):F62 b ⟨7,0,0⟩=some true:=rfl
def brk (l:List As) (k n:Int):Bool:=l.any λ x=>k==x.Kind&&n==x.Number
theorem C9 {p:Ab} (h:p.Ai.length<=1000) (k n:Int):F76 p k n=some (brk p.Ai k n):=by
 unfold F76 Arp Arm
 rw [Lt (λ x:As=>(k==x.Kind)&&((n==x.Number)&&true)) (λ i y=>rfl) p.Ai (by omega)]
 simp only [ab,Si,brk,bA]
def Fl (b:Aa) (i:Int):Int:=Sj (λ x:Ah=>x.Kind==2&&x.B==i) b.Ad
theorem I0 {b:Aa} (h:Ap b) (i:Int):F56 b i=some (Fl b i):=by
 have hb:=h.brl
 unfold F56 yH
 refine d5 ?_
 refine Ok.bind (P:=λ y=>y=(Fl b i,i)) ?_ (λ y hy=>Ok.pure (by rw [hy]))
 have key:=Pp (f:=λ n (a:Ah) (z:Unit)=>(bif (a.Kind==2&&a.B==i) then some (.ret (cnt 0 n)) else some (.next ()):Option (Ctl Unit Int))) (p:=λ x:Ah=>x.Kind==2&&x.B==i) (λ _ _=>rfl) b.Ad 0 (by omega)
 have:∀ (xs:List Ah) (k:Nat),foldI (Pn i) xs k ()=match foldI (λ n (a:Ah) (z:Unit)=>(bif (a.Kind==2&&a.B==i) then some (.ret (cnt 0 n)) else some (.next ()):Option (Ctl Unit Int))) xs k () with
   | some (.ret r)=>some (.ret (r,i))
   | some (.next _)=>some (.next ())
   | some (.brk _)=>some (.brk ())
   | none=>none:=by
  intro xs
  induction xs with
  | nil=>intro k;rfl
  | cons x xs ih=>
   intro k
   simp only [foldI,Pn,yG]
   cases hq:(x.Kind==2&&x.B==i) with
   | true=>rfl
   | false=>simp only [cond_false];exact ih (k+1)
 rw [this,key]
 unfold Fl Sj
 cases b.Ad.findIdx? (λ x:Ah=>x.Kind==2&&x.B==i) with
 | none=>exact Ok.pure rfl
 | some j=>exact Ok.pure rfl
theorem Kl {b:Aa} (h:Ap b) {i:Int} (h0:0<=i) (h1:i<b.Ac.length):∃ (j:Nat) (x:Ah),Fl b i=(j:Int)/\b.Ad[j]? = some x/\x.Kind=2/\x.B=i/\j<24:=by
 have hone:=h.one i.toNat (by omega)
 have hb:=h.brl
 unfold Fl Sj
 cases hf:b.Ad.findIdx? (λ x:Ah=>x.Kind==2&&x.B==i) with
 | none=>
  exfalso
  rw [cS] at hf
  have:brs b.Ad 2 i.toNat=[]:=La λ x hx hk e=>by
   have:=hf x hx
   simp [hk] at this
   omega
  rw [this] at hone;simp at hone
 | some j=>
  rw [cT] at hf
  obtain⟨hj,hp,_⟩:=hf
  simp only [ac,dz] at hp
  exact⟨j,b.Ad[j],rfl,af hj,hp.1,hp.2,by omega⟩
def Bz (b:Aa) (l:List As) (i:Int):Bool:=
 let x:=b.Ad.getD i.toNat default
 (!brk l 2 i && !brk l 3 x.A)&&((x.Kind != 1) || !brk l 3 x.B)
theorem Rk {b:Aa} (h:Ap b) {p:Ab} (hl:p.Ai.length<=1000) {i:Int} (h0:0<=i) (h1:i<b.Ad.length):F57 b p i=some (Bz b p.Ai i):=by
 have hb:=h.brl
 refine d5 ?_
 unfold F57
 refine (c9 h0 (by omega)).bind λ x hx=>?_
 have hd:b.Ad.getD i.toNat default=x:=by simp [List.getD,hx]
 unfold Bz
 rw [hd]
 simp only [C9 hl,ab]
 cases h2:brk p.Ai 2 i with
 | true=>simp [Az,Cn];exact Ok.pure rfl
 | false=>
  cases h3:brk p.Ai 3 x.A with
  | true=>simp [Az,Cn];exact Ok.pure rfl
  | false=>
   cases hk:(x.Kind != 1) with
   | true=>simp [Az,Cn];exact Ok.pure rfl
   | false=>simp [Az,Cn];exact Ok.pure rfl
def Bf (b:Aa) (p:Ab) (i:Int):Bool:=(Bz b p.Ai (Fl b i) && !brk p.Ai 1 i)&&((p.Ac.getD i.toNat default).State != 3)
theorem T1 {b:Aa} (h:Ap b) {p:Ab} (hp:p.Ac.length=b.Ac.length) (hl:p.Ai.length<=1000) {i:Int} (h0:0<=i) (h1:i<b.Ac.length):F55 b p i=some (Bf b p i):=by
 obtain⟨j,x,e,hx,_,_,hj⟩:=Kl h h0 h1
 have hjl:=(aa.1 hx).1
 refine d5 ?_
 unfold F55
 rw [I0 h]
 simp only [ab]
 rw [Rk h hl (by omega) (by omega)]
 simp only [ab,C9 hl]
 obtain⟨s,hs⟩:∃ s,p.Ac[i.toNat]? = some s:=⟨_,af (by omega)⟩
 have hg:getI p.Ac i=some s:=by have:=A8 hs;rwa [az h0] at this
 have hd:p.Ac.getD i.toNat default=s:=by simp [List.getD,hs]
 unfold Bf
 rw [hd,hg]
 cases h2:Bz b p.Ai (Fl b i) with
 | false=>simp [Az,Cn];exact Ok.pure rfl
 | true=>
  cases h3:brk p.Ai 1 i with
  | true=>simp [Az,Cn];exact Ok.pure rfl
  | false=>simp [Az,Cn];exact Ok.pure rfl
def lit (b:Aa) (u:Int->Bool) (s:List Bool) (i:Nat):List Bool:=if u (i:Int) then s.set (b.Ad.getD (Fl b (i:Int)).toNat default).A.toNat true else s
def Ee (sd:Int->Bool) (s:List Bool) (z:Ah×Nat):List Bool:=
 if z.1.Kind=1/\sd (z.2:Int)=true then (s.set z.1.A.toNat (s.getD z.1.A.toNat false || s.getD z.1.B.toNat false)).set z.1.B.toNat (s.getD z.1.A.toNat false || s.getD z.1.B.toNat false) else s
def C5 (sd:Int->Bool) (l:List (Ah×Nat)) (s:List Bool):List Bool:=l.foldl (Ee sd) s
def Sa (b:Aa) (u:Int->Bool):List Bool:=(List.range b.Ac.length).foldl (lit b u) (List.replicate b.Al.toNat false)
def Eg (b:Aa) (u sd:Int->Bool):List Bool:=(List.range b.Al.toNat).foldl (λ s _=>C5 sd b.Ad.zipIdx s) (Sa b u)
theorem Sb (b:Aa) (u:Int->Bool) (s:List Bool) (i:Nat):(lit b u s i).length=s.length:=by unfold lit;split <;> simp
theorem Ja (b:Aa) (u:Int->Bool):(Sa b u).length=b.Al.toNat:=by
 have:∀ (xs:List Nat) (s:List Bool),(xs.foldl (lit b u) s).length=s.length:=by
  intro xs
  induction xs with
  | nil=>intro s;rfl
  | cons x xs ih=>intro s;rw [aU,ih,Sb]
 unfold Sa
 rw [this];simp
theorem Je (sd:Int->Bool) (s:List Bool) (z:Ah×Nat):(Ee sd s z).length=s.length:=by unfold Ee;split <;> simp
theorem Mh (sd:Int->Bool):∀ (l:List (Ah×Nat)) (s:List Bool),(C5 sd l s).length=s.length
 | [],_=>rfl
 | z::l,s=>by show (C5 sd l _).length=_;rw [Mh sd l,Je]
theorem Jf (sd:Int->Bool) (l:List (Ah×Nat)):∀ (xs:List Nat) (s:List Bool),(xs.foldl (λ s _=>C5 sd l s) s).length=s.length
 | [],_=>rfl
 | _::xs,s=>by rw [aU,Jf sd l xs,Mh]
theorem Ij (b:Aa) (u sd:Int->Bool):(Eg b u sd).length=b.Al.toNat:=by
 unfold Eg
 rw [Jf,Ja]
theorem Aph {b:Aa} (h:Ap b) {p:Ab} (hl:p.Ai.length<=1000) {s:List Bool} (hs:s.length=b.Al.toNat) :
  Ok (foldI (vY b p) b.Ad 0 s) (D7 (λ r=>r=C5 (Bz b p.Ai) b.Ad.zipIdx s) (λ (_:Unit)=>False)):=by
 have hb:=h.brl
 refine c6 (I:=λ j r=>r=C5 (Bz b p.Ai) (b.Ad.zipIdx.take j) s) (by simp [C5]) (λ j x r hx hr=>?_) λ r hr=>?_
 ·have hj:=(aa.1 hx).1
  have hcnt:cnt 0 j=(j:Int):=Co (by omega)
  have hrl:r.length=b.Al.toNat:=by rw [hr,Mh,hs]
  have hz:b.Ad.zipIdx[j]? = some (x,j):=by rw [List.getElem?_zipIdx,hx];simp
  have hnext:C5 (Bz b p.Ai) (b.Ad.zipIdx.take (j+1)) s=Ee (Bz b p.Ai) r (x,j):=by
   rw [Bi hz]
   unfold C5 at hr ⊢
   rw [aN,←hr];rfl
  rw [hnext]
  obtain⟨⟨a0,a1⟩,hk⟩:=h.br x (ae hx)
  unfold vY
  rw [hcnt]
  by_cases k1:x.Kind=1
  ·rw [dz.2 k1]
   have hB:x.A<x.B/\x.B<b.Al:=by omega
   refine Ok.bind (P:=λ y=>y=Bz b p.Ai (j:Int)) (cU (λ _=>by rw [Rk h hl (by omega) (by omega)];exact Ok.pure rfl) λ hn=>(hn ⟨rfl,trivial⟩).elim) λ y hy=>?_
   refine c4 (λ hq=>?_) (λ hq=>?_)
   ·simp only [aM] at hq
    rw [hq] at hy
    obtain⟨u,hu⟩:∃ u,r[x.A.toNat]? = some u:=⟨_,af (by omega)⟩
    obtain⟨v,hv⟩:∃ v,r[x.B.toNat]? = some v:=⟨_,af (by omega)⟩
    have hgu:getI r x.A=some u:=by have:=A8 hu;rwa [az a0] at this
    have hgv:getI r x.B=some v:=by have:=A8 hv;rwa [az (by omega)] at this
    have hdu:r.getD x.A.toNat false=u:=by simp [List.getD,hu]
    have hdv:r.getD x.B.toNat false=v:=by simp [List.getD,hv]
    rw [hgu,hgv]
    simp only [ab]
    refine Ok.bind (P:=λ w=>(u || w)=(u || v)) (cU (λ _=>Ok.pure rfl) λ hn=>?_) λ w hw=>?_
    ·cases u with
     | true=>rfl
     | false=>exact (hn ⟨rfl,trivial⟩).elim
    rw [hw]
    refine (cV a0 (by omega)).bind λ t ht=>?_
    subst ht
    refine (c9 (by omega) (by simp;omega)).bind λ _ _=>(cV (by omega) (by simp;omega)).bind λ t ht=>c5 ?_
    rw [ht]
    unfold Ee
    rw [if_pos ⟨k1,hy.symm⟩]
    simp only [hdu,hdv]
   ·simp only [aM] at hq
    refine c5 ?_
    unfold Ee
    rw [if_neg (by rw [←hy,hq];simp)]
  ·rw [dA.2 k1]
   refine Ok.bind (P:=λ _=>True) (cU (λ hg=>absurd hg.1 (by simp)) λ _=>trivial) λ y _=>?_
   refine c4 (λ hq=>by simp at hq) (λ _=>c5 ?_)
   unfold Ee
   rw [if_neg (λ hh=>k1 hh.1)]
 ·rw [hr,show b.Ad.length=b.Ad.zipIdx.length from by simp,ay]
theorem W_ {b:Aa} (h:Ap b) {p:Ab} (hp:Ao b p):F23 b p=some (Eg b (Bf b p) (Bz b p.Ai)):=by
 have hbu:=h.buses
 have hso:=h.sol
 have hns:=hp.nso
 have hbl:p.Ai.length<=1000:=by have:=hp.brk.len;omega
 refine d5 ?_
 unfold F23
 rw [B4 h hp]
 simp only [ab]
 refine c4 (λ hc=>by simp at hc) (λ _=>?_)
 refine (Ok.mkI (by omega) (by omega)).bind λ y hy=>?_
 refine Ok.andThen (A:=λ s=>s.2=Sa b (Bf b p)) (B:=λ (_:Unit)=>False) ?_ ?_ (λ _ h=>h.elim)
 ·refine c8 (λ s=>(0<=s.1/\s.1<=(b.Ac.length:Int))/\s.2=(List.range s.1.toNat).foldl (lit b (Bf b p)) (List.replicate b.Al.toNat false)) (λ s=>((b.Ac.length:Int)-s.1).toNat) _ _ ?_ ?_ ?_
  ·exact⟨by dsimp only;omega,by rw [hy];rfl⟩
  ·dsimp only;omega
  ·rintro⟨i,s⟩ ⟨⟨h1,h2⟩,h3⟩
   dsimp only at h1 h2 h3
   have hsl:s.length=b.Al.toNat:=by
    rw [h3]
    have:∀ (xs:List Nat) (s:List Bool),(xs.foldl (lit b (Bf b p)) s).length=s.length:=by
     intro xs
     induction xs with
     | nil=>intro s;rfl
     | cons x xs ih=>intro s;rw [aU,ih,Sb]
    rw [this];simp
   unfold Ak9 A1v
   dsimp only
   refine c4 (λ hq=>?_) (λ hq=>?_)
   ·simp only [dx] at hq
    have e1:w64 (i+1)=i+1:=A5 (by omega)
    have e2:(i+1).toNat=i.toNat+1:=by omega
    have e3:((i.toNat:Nat):Int)=i:=by omega
    have hnext:(List.range (i+1).toNat).foldl (lit b (Bf b p)) (List.replicate b.Al.toNat false)=lit b (Bf b p) s i.toNat:=by
     rw [e2,bt,aN,←h3];rfl
    rw [T1 h hns hbl h1 hq]
    simp only [ab,e1]
    refine c4 (λ hu=>?_) (λ hu=>?_)
    ·obtain⟨j,x,e,hx,_,_,hj⟩:=Kl h h1 hq
     have hjl:=(aa.1 hx).1
     obtain⟨⟨a0,a1⟩,_⟩:=h.br x (ae hx)
     rw [I0 h,e]
     simp only [ab]
     rw [A8 hx]
     simp only [ab]
     refine (c9 a0 (by omega)).bind λ _ _=>(cV a0 (by omega)).bind λ t ht=>c5 ⟨⟨by dsimp only;omega,?_⟩,by dsimp only;omega⟩
     dsimp only
     rw [hnext,ht]
     unfold lit
     have hd:b.Ad.getD j default=x:=by simp [List.getD,hx]
     rw [e3,if_pos hu,e,ah,hd]
    ·refine c5 ⟨⟨by dsimp only;omega,?_⟩,by dsimp only;omega⟩
     dsimp only
     rw [hnext]
     unfold lit
     rw [e3,if_neg (by rw [hu];simp)]
   ·simp only [dy] at hq
    refine cX ?_
    dsimp only
    rw [h3]
    have:i.toNat=b.Ac.length:=by omega
    rw [this];rfl
 ·rintro⟨i0,s⟩ hs
  dsimp only at hs
  subst hs
  dsimp only
  refine Ok.andThen (A:=λ s=>s.2=Eg b (Bf b p) (Bz b p.Ai)) (B:=λ (_:Unit)=>False) ?_ (λ s hs=>Ok.pure hs) (λ _ h=>h.elim)
  refine c8 (λ s=>(0<=s.1/\s.1<=b.Al)/\s.2=(List.range s.1.toNat).foldl (λ s _=>C5 (Bz b p.Ai) b.Ad.zipIdx s) (Sa b (Bf b p))) (λ s=>(b.Al-s.1).toNat) _ _ ?_ ?_ ?_
  ·exact⟨by dsimp only;omega,rfl⟩
  ·dsimp only;omega
  ·rintro⟨i,s⟩ ⟨⟨h1,h2⟩,h3⟩
   dsimp only at h1 h2 h3
   unfold Ak8
   dsimp only
   refine c4 (λ hq=>?_) (λ hq=>?_)
   ·simp only [dx] at hq
    have e1:w64 (i+1)=i+1:=A5 (by omega)
    have e2:(i+1).toNat=i.toNat+1:=by omega
    have hsl:s.length=b.Al.toNat:=by rw [h3,Jf,Ja]
    refine (Aph h hbl hsl).inner (λ r hr=>?_) (λ _ h=>h.elim)
    rw [e1]
    refine c5 ⟨⟨by dsimp only;omega,?_⟩,by dsimp only;omega⟩
    dsimp only
    rw [hr,e2,bt,aN,←h3];rfl
   ·simp only [dy] at hq
    refine cX ?_
    dsimp only
    rw [h3]
    have:i.toNat=b.Al.toNat:=by omega
    rw [this];rfl
def LeB (s t:List Bool):Prop:=s.length=t.length/\∀ i:Nat,s[i]? = some true->t[i]? = some true
theorem LeB.refl (s:List Bool):LeB s s:=⟨rfl,λ _ h=>h⟩
theorem LeB.trans {s t r:List Bool} (h:LeB s t) (k:LeB t r):LeB s r:=⟨h.1.trans k.1,λ i e=>k.2 i (h.2 i e)⟩
theorem LeB.set {s t:List Bool} (h:LeB s t) (n:Nat) {x y:Bool} (hx:x=true->y=true):LeB (s.set n x) (t.set n y):=by
 refine⟨by simp [h.1],λ i e=>?_⟩
 rw [am] at e ⊢
 split at e
 ·rename_i hn
  rw [if_pos hn]
  split at e
  ·rename_i hl
   rw [if_pos (by rw [←h.1];exact hl)]
   cases e;rw [hx rfl]
  ·cases e
 ·rename_i hn
  rw [if_neg hn];exact h.2 i e
theorem LeB.getD {s t:List Bool} (h:LeB s t) (n:Nat):s.getD n false=true->t.getD n false=true:=by
 intro e
 have:s[n]? = some true:=by
  unfold List.getD at e
  cases hs:s[n]? with
  | none=>rw [hs] at e;cases e
  | some v=>rw [hs] at e;simp at e;rw [e]
 simp [List.getD,h.2 n this]
theorem LeB.up (s:List Bool) (n:Nat) {y:Bool} (hy:s.getD n false=true->y=true):LeB s (s.set n y):=by
 refine⟨by simp,λ i e=>?_⟩
 rw [am]
 split
 ·rename_i hn
  subst hn
  have hl:=(aa.1 e).1
  rw [if_pos hl,hy (by simp [List.getD,e])]
 ·exact e
theorem Ay5 {b:Aa} {u v:Int->Bool} (huv:∀ i:Nat,i<b.Ac.length->u (i:Int)=true->v (i:Int)=true) {s t:List Bool} (h:LeB s t) {i:Nat} (hi:i<b.Ac.length):LeB (lit b u s i) (lit b v t i):=by
 unfold lit
 cases hu:u (i:Int) with
 | true=>rw [huv i hi hu];simpa using h.set _ (λ e=>e)
 | false=>
  simp only [bO,if_false]
  split
  ·exact h.trans (LeB.up _ _ λ _=>rfl)
  ·exact h
theorem Alv {sd se:Int->Bool} {z:Ah×Nat} (hs:z.1.Kind=1->sd (z.2:Int)=true->se (z.2:Int)=true) {s t:List Bool} (h:LeB s t):LeB (Ee sd s z) (Ee se t z):=by
 have hor:(s.getD z.1.A.toNat false || s.getD z.1.B.toNat false)=true->(t.getD z.1.A.toNat false || t.getD z.1.B.toNat false)=true:=by
  rw [aB,aB]
  exact λ e=>e.imp (h.getD _) (h.getD _)
 unfold Ee
 by_cases h1:z.1.Kind=1/\sd (z.2:Int)=true
 ·rw [if_pos h1,if_pos ⟨h1.1,hs h1.1 h1.2⟩]
  exact (h.set _ hor).set _ hor
 ·rw [if_neg h1]
  split
  ·refine h.trans ((LeB.up t _ ?_).trans ((LeB.up _ _ ?_)))
   ·intro e;rw [e];rfl
   ·intro e
    have hA:t.getD z.1.B.toNat false=true\/z.1.A.toNat=z.1.B.toNat/\(t.getD z.1.A.toNat false || t.getD z.1.B.toNat false)=true:=by
     by_cases e0:z.1.A.toNat=z.1.B.toNat
     ·right
      refine⟨e0,?_⟩
      unfold List.getD at e
      rw [am,if_pos e0] at e
      split at e
      ·simpa using e
      ·cases e
     ·left
      unfold List.getD at e
      rw [am,if_neg e0] at e
      exact e
    rcases hA with e1 | ⟨_,e1⟩
    ·rw [e1];simp
    ·exact e1
  ·exact h
theorem Auw {b:Aa} {u v sd se:Int->Bool} (huv:∀ i:Nat,i<b.Ac.length->u (i:Int)=true->v (i:Int)=true) (hse:∀ (i:Nat) x,b.Ad[i]? = some x->x.Kind=1->sd (i:Int)=true->se (i:Int)=true):LeB (Eg b u sd) (Eg b v se):=by
 have h1:∀ (n:Nat),n<=b.Ac.length->LeB ((List.range n).foldl (lit b u) (List.replicate b.Al.toNat false)) ((List.range n).foldl (lit b v) (List.replicate b.Al.toNat false)):=by
  intro n
  induction n with
  | zero=>intro _;exact LeB.refl _
  | succ n ih=>
   intro hn
   rw [bt,aN,aN]
   exact Ay5 huv (ih (by omega)) (by omega)
 have h2:∀ (l:List (Ah×Nat)) (s t:List Bool),(∀ z,z∈l->z.1.Kind=1->sd (z.2:Int)=true->se (z.2:Int)=true)->LeB s t->LeB (C5 sd l s) (C5 se l t):=by
  intro l
  induction l with
  | nil=>intro s t _ h;exact h
  | cons z l ih=>intro s t hz h;exact ih _ _ (λ y hy=>hz y (ai _ hy)) (Alv (hz z ag) h)
 have hz:∀ z,z∈b.Ad.zipIdx->z.1.Kind=1->sd (z.2:Int)=true->se (z.2:Int)=true:=by
  rintro⟨x,i⟩ hm
  rw [bH] at hm
  exact hse i x hm
 have h3:∀ (xs:List Nat) (s t:List Bool),LeB s t->LeB (xs.foldl (λ s _=>C5 sd b.Ad.zipIdx s) s) (xs.foldl (λ s _=>C5 se b.Ad.zipIdx s) t):=by
  intro xs
  induction xs with
  | nil=>intro s t h;exact h
  | cons x xs ih=>intro s t h;exact ih _ _ (h2 _ _ _ hz h)
 exact h3 _ _ _ (h1 _ (au _))
def ks (x:As):Int:=x.Kind*1000+x.Number
def Cp (x:As):Prop:=(1<=x.Kind/\x.Kind<=4)/\0<=x.Number/\x.Number<=100
theorem Cd.small {b:Aa} (h:Ap b) {x:As} (hx:Cd b x):Cp x:=by
 have h1:=h.buses
 have h2:=h.brl
 have h3:=h.sol
 have h4:=h.col
 unfold Cd at hx
 unfold Cp
 omega
theorem Aea {x y:As} (hx:Cp x) (hy:Cp y):Q4 x y↔ks x<ks y:=by
 unfold Q4 ks
 unfold Cp at hx hy
 omega
theorem A09 {x y:As} (hx:Cp x) (hy:Cp y) (h:ks x=ks y):x=y:=by
 unfold ks at h
 unfold Cp at hx hy
 cases x;cases y
 simp only [As.mk.injEq]
 dsimp only at *
 omega
theorem Acy {x y:As} (hx:Cp x) (hy:Cp y):(decide (Tq x y<0)=decide (ks x<ks y))/\((Tq x y==0)=(ks x==ks y)):=by
 unfold Cp at hx hy
 unfold Tq ks
 by_cases hk:x.Kind=y.Kind
 ·have:(x.Kind != y.Kind)=false:=by simp [hk]
  rw [this,cond_false,A5 (by omega)]
  constructor
  ·exact decide_eq_decide.2 (by omega)
  ·rw [aZ,dz,dz];omega
 ·have:(x.Kind != y.Kind)=true:=by simp [hk]
  rw [this,cond_true,A5 (by omega)]
  constructor
  ·exact decide_eq_decide.2 (by omega)
  ·rw [aZ,dz,dz];omega
def Hp (l:List As):Prop:=∀ (j k:Nat) x y,j<k->l[j]? = some x->l[k]? = some y->ks x<ks y
theorem H6 {b:Aa} (h:Ap b) {l:List As} (hl:Ev b l):Hp l:=by
 have hs:∀ x,x∈l->Cp x:=λ x hx=>(hl.mem x hx).small h
 intro j k
 induction k with
 | zero=>intro x y hj;omega
 | succ k ih=>
  intro x y hj hx hy
  have hk:=(aa.1 hy).1
  obtain⟨z,hz⟩:∃ z,l[k]? = some z:=⟨_,af (by omega)⟩
  have h1:=(Aea (hs z (ae hz)) (hs y (ae hy))).1 (hl.asc k z y hz hy)
  by_cases e:j=k
  ·subst e
   rw [hx] at hz;cases hz;exact h1
  ·have:=ih x z (by omega) hx hz
   omega
theorem A3b {n:Int} (h0:0<=n) (h1:n<=1000000):w64 (H7 .u64 (IntKind.wrap .u64 (w64 n)) 1)=n / 2:=by
 have e1:w64 n=n:=A5 (by omega)
 have e2:IntKind.wrap .u64 n=n:=by
  simp [IntKind.wrap,IntKind.signed,IntKind.bits]
  omega
 have e3:H7 .u64 n 1=n / 2:=by
  unfold H7
  have:(2:Int) ^ min 1 (IntKind.u64).bits=2:=by decide
  rw [this]
  exact Int.fdiv_eq_ediv_of_nonneg _ (by omega)
 rw [e1,e2,e3,A5 (by omega)]
structure At (l:List As) (x:As) (n:Nat):Prop where
 le:n<=l.length
 lo:∀ (j:Nat) y,j<n->l[j]? = some y->ks y<ks x
 hi:∀ (j:Nat) y,n<=j->l[j]? = some y->ks x<=ks y
theorem Oz {l:List As} (hs:Hp l) (hsm:∀ x,x∈l->Cp x) {x:As} (hx:Cp x) (hl:l.length<=1000) :
  Ok (V6 l x) λ y=>∃ n:Nat,y.1=(n:Int)/\At l x n/\(y.2=true↔l[n]? = some x):=by
 unfold V6
 refine Ok.andThen (A:=λ s=>∃ n:Nat,s.1=(n:Int)/\At l x n) (B:=λ (_:Unit)=>False) ?_ ?_ (λ _ h=>h.elim)
 ·refine c8 (λ s=>(0<=s.1/\s.1<=s.2/\s.2<=(l.length:Int))/\(∀ (j:Nat) y,(j:Int)<s.1->l[j]? = some y->ks y<ks x)/\∀ (j:Nat) y,s.2<=(j:Int)->l[j]? = some y->ks x<=ks y) (λ s=>(s.2-s.1).toNat) _ _ ?_ ?_ ?_
  ·refine⟨by dsimp only;omega,λ j y hj=>by dsimp only at hj;omega,λ j y hj hy=>?_⟩
   have:=(aa.1 hy).1
   dsimp only at hj;omega
  ·dsimp only;omega
  ·rintro⟨i,j⟩ ⟨⟨h1,h2,h3⟩,h4,h5⟩
   dsimp only at h1 h2 h3 h4 h5
   unfold V5
   dsimp only
   refine c4 (λ hq=>?_) (λ hq=>?_)
   ·simp only [dx] at hq
    rw [A3b (by omega) (by omega)]
    refine (c9 (by omega) (by omega)).bind λ y hy=>?_
    have hym:=hsm y (ae hy)
    rw [(Acy hym hx).1]
    refine c4 (λ hc=>?_) (λ hc=>?_)
    ·simp only [dx] at hc
     rw [A5 (by omega)]
     refine c5 ⟨⟨by dsimp only;omega,λ k z hk hz=>?_,h5⟩,by dsimp only;omega⟩
     dsimp only at hk
     by_cases e:k=((i+j) / 2).toNat
     ·subst e;rw [hy] at hz;cases hz;exact hc
     ·have:=hs k _ z y (by omega) hz hy
      omega
    ·simp only [dy] at hc
     refine c5 ⟨⟨by dsimp only;omega,h4,λ k z hk hz=>?_⟩,by dsimp only;omega⟩
     dsimp only at hk
     by_cases e:k=((i+j) / 2).toNat
     ·subst e;rw [hy] at hz;cases hz;omega
     ·have:=hs _ k y z (by omega) hy hz
      omega
   ·simp only [dy] at hq
    refine cX ⟨i.toNat,by dsimp only;omega,by omega,λ k y hk hy=>h4 k y (by omega) hy,λ k y hk hy=>h5 k y (by omega) hy⟩
 ·rintro⟨i,j⟩ ⟨n,hn,hat⟩
  dsimp only at hn
  subst hn
  dsimp only
  by_cases hlt:n<l.length
  ·obtain⟨y,hy⟩:∃ y,l[n]? = some y:=⟨_,af hlt⟩
   have hd:decide ((n:Int)<(l.length:Int))=true:=by simp;omega
   rw [hd,A8 hy]
   refine Ok.bind (P:=λ z=>z=y) (cU (λ _=>Ok.pure rfl) λ hn=>(hn ⟨rfl,trivial⟩).elim) λ z hz=>Ok.pure ⟨n,rfl,hat,?_⟩
   subst hz
   have hym:=hsm z (ae hy)
   show (true&&(Tq z x==0))=true↔_
   rw [aM,(Acy hym hx).2,dz,hy]
   constructor
   ·intro e;rw [A09 hym hx e]
   ·intro e;cases e;rfl
  ·have hd:decide ((n:Int)<(l.length:Int))=false:=by simp;omega
   rw [hd]
   refine Ok.bind (P:=λ _=>True) (cU (λ hg=>absurd hg.1 (by simp)) λ _=>trivial) λ z _=>Ok.pure ⟨n,rfl,hat,?_⟩
   rw [bV (by omega)]
   simp
theorem At.uniq {l:List As} {x:As} {n m:Nat} (h:At l x n) (k:At l x m):n=m:=by
 rcases bI n m with e | e | e
 ·obtain⟨y,hy⟩:∃ y,l[n]? = some y:=⟨_,af (by have:=k.le;omega)⟩
  have:=h.hi n y (au _) hy
  have:=k.lo n y e hy
  omega
 ·exact e
 ·obtain⟨y,hy⟩:∃ y,l[m]? = some y:=⟨_,af (by have:=h.le;omega)⟩
  have:=k.hi m y (au _) hy
  have:=h.lo m y e hy
  omega
def Eu (l:List As) (n:Nat) (x:As):List As:=l.take n++(x::l.drop n)
theorem Auq {l:List As} {n:Nat} (hn:n<=l.length) (hl:l.length<=1000) (x:As):Q8 l (n:Int) [x]=some (Eu l n x):=by
 refine d5 ?_
 unfold Q8
 refine (Ok.bndI (by omega) (by omega) (by omega)).bind λ _ _=>?_
 refine c4 (λ hc=>by simp at hc) (λ _=>c4 (λ hc=>?_) (λ _=>?_))
 ·simp only [dz] at hc
  have e:n=l.length:=by omega
  refine (cW (by simp;omega)).bind λ y hy=>Ok.pure ?_
  rw [hy,Eu,e];simp
 ·refine (Ok.insI (by simp;omega)).mono λ y hy=>?_
  rw [hy,ah];rfl
theorem Avl {l:List As} {n:Nat} (hn:n<=l.length) (x:As):V4 (Eu l n x) (n:Int) ((n:Int)+1)=some l:=by
 have hlen:(Eu l n x).length=l.length+1:=by simp [Eu];omega
 refine d5 ?_
 unfold V4
 have e1:((n:Int)+1).toNat=n+1:=by omega
 have hdrop:(Eu l n x).drop (n+1)=l.drop n:=by
  unfold Eu
  rw [List.drop_append,List.drop_of_length_le (by simp;omega)]
  have:n+1-(l.take n).length=1:=by simp;omega
  rw [this];simp
 have htake:(Eu l n x).take n=l.take n:=by
  unfold Eu
  rw [ce (by simp;omega),List.take_take,Nat.min_self]
 refine (Ok.bnd3I (by omega) (by omega) (by omega) (by omega)).bind λ _ _=>c4 (λ hc=>?_) (λ _=>?_)
 ·simp only [dz] at hc;omega
 refine (Ok.bndI (by omega) (by omega) (by omega)).bind λ _ _=>(Ok.bndI (by omega) (by omega) (by omega)).bind λ _ _=>?_
 simp only [ah,e1,hdrop,Nat.sub_zero]
 have hpl:((l.drop n).take ((Eu l n x).length-(n+1))).length=l.length-n:=by simp [hlen]
 have hpe:(l.drop n).take ((Eu l n x).length-(n+1))=l.drop n:=bS (by simp [hlen])
 rw [hpe]
 have hdl:(l.drop n).length=l.length-n:=by simp
 refine (Ok.appPI (by rw [hlen,hdl];omega)).bind λ y hy=>?_
 have hyl:y.length=l.length+1:=by rw [hy];simp [hlen];omega
 refine (Ok.bndI (by omega) (by rw [hlen,hdl];omega) (by rw [hlen,hyl];omega)).bind λ _ _=>Ok.pure ?_
 have e2:n+(l.drop n).length=l.length:=by rw [hdl];omega
 rw [e2]
 unfold Hf
 simp only [aE]
 rw [ce (by simp;omega),List.take_take,Nat.min_self,hy,htake,←aY,ce (by simp),ct,ay]
theorem Sg {l:List As} {n:Nat} (hn:n<=l.length) {x:As} {j:Nat} {y:As} (h:(Eu l n x)[j]? = some y):(j<n/\l[j]? = some y)\/(j=n/\y=x)\/(n<j/\l[j-1]? = some y):=by
 unfold Eu at h
 have ht:(l.take n).length=n:=by simp;omega
 rw [bZ] at h
 split at h
 ·rename_i h1
  rw [ht] at h1
  rw [ap,if_pos h1] at h
  exact .inl ⟨h1,h⟩
 ·rename_i h1
  rw [ht] at h1 h
  by_cases e:j=n
  ·subst e
   simp at h
   exact .inr (.inl ⟨rfl,h.symm⟩)
  ·obtain⟨k,hk⟩:∃ k,j-n=k+1:=⟨j-n-1,by omega⟩
   rw [hk,cI,ar] at h
   refine .inr (.inr ⟨by omega,?_⟩)
   rw [←h];congr 1;omega
theorem Azk {l:List As} {n:Nat} {x y:As} (h:y∈Eu l n x):y=x\/y∈l:=by
 unfold Eu at h
 rcases aq.1 h with h | h
 ·exact .inr (aV h)
 ·rcases aj.1 h with h | h
  ·exact .inl h
  ·exact .inr (cw h)
theorem Ane {b:Aa} (h:Ap b) {l:List As} (hl:Ev b l) {x:As} (hx:Cd b x) {n:Nat} (hat:At l x n) (hnot:l[n]? ≠ some x) (hlen:l.length<32):Ev b (Eu l n x):=by
 have hs:=H6 h hl
 have hsm:∀ y,y∈l->Cp y:=λ y hy=>(hl.mem y hy).small h
 have hxs:=hx.small h
 refine⟨by simp [Eu];omega,λ y hy=>?_,λ j y z hy hz=>?_⟩
 ·rcases Azk hy with rfl | hy
  ·exact hx
  ·exact hl.mem y hy
 ·rcases Sg hat.le hy with⟨a1,a2⟩ | ⟨a1,a2⟩ | ⟨a1,a2⟩ <;> rcases Sg hat.le hz with⟨b1,b2⟩ | ⟨b1,b2⟩ | ⟨b1,b2⟩
  ·exact hl.asc j y z a2 b2
  ·subst b2
   exact (Aea (hsm y (ae a2)) hxs).2 (hat.lo j y a1 a2)
  ·omega
  ·omega
  ·omega
  ·subst a2
   have e:j+1-1=n:=by omega
   rw [e] at b2
   have hzm:=hsm z (ae b2)
   refine (Aea hxs hzm).2 ?_
   have h1:=hat.hi n z (au _) b2
   rcases Int.lt_or_eq_of_le h1 with h1 | h1
   ·exact h1
   ·exact absurd (by rw [b2,A09 hxs hzm h1]) hnot
  ·omega
  ·omega
  ·have e:j+1-1=j-1+1:=by omega
   rw [e] at b2
   exact hl.asc (j-1) y z a2 b2
theorem At.ins {l:List As} {x:As} {n:Nat} (hat:At l x n):At (Eu l n x) x n:=by
 refine⟨by have:=hat.le;simp [Eu];omega,λ j y hj hy=>?_,λ j y hj hy=>?_⟩
 ·rcases Sg hat.le hy with⟨_,a2⟩ | ⟨a1,_⟩ | ⟨a1,_⟩
  ·exact hat.lo j y hj a2
  ·omega
  ·omega
 ·rcases Sg hat.le hy with⟨a1,_⟩ | ⟨_,a2⟩ | ⟨a1,a2⟩
  ·omega
  ·subst a2;exact bB _
  ·exact hat.hi (j-1) y (by omega) a2
theorem A29 {l:List As} {n:Nat} (hn:n<=l.length) (x:As):(Eu l n x)[n]? = some x:=by
 unfold Eu
 rw [aD (by simp;omega)]
 have:n-(l.take n).length=0:=by simp;omega
 rw [this];rfl
def Lo (ss:List Ag) (x:As) (st:Int):List Ag:=if x.Kind=1 then ss.set x.Number.toNat ⟨st,(ss.getD x.Number.toNat default).Since,(ss.getD x.Number.toNat default).Ar,(ss.getD x.Number.toNat default).Phase⟩ else ss
theorem Ve (ss:List Ag) (x:As) (st:Int):(Lo ss x st).length=ss.length:=by unfold Lo;split <;> simp
theorem Aig {ss:List Ag} (h:∀ x,x∈ss->C4 x) {x:As} (hx:x.Kind=1->0<=x.Number/\x.Number<ss.length) {st:Int} (hst:0<=st/\st<=3):∀ y,y∈Lo ss x st->C4 y:=by
 unfold Lo
 split
 ·rename_i hk
  have hn:=hx hk
  obtain⟨u,hu⟩:∃ u,ss[x.Number.toNat]? = some u:=⟨_,af (by omega)⟩
  have hd:ss.getD x.Number.toNat default=u:=by simp [List.getD,hu]
  intro y hy
  rcases cx hy with hy | hy
  ·exact h y hy
  ·subst hy
   rw [hd]
   have:=h u (ae hu)
   exact⟨hst,this.2⟩
 ·exact h
theorem A3f {b:Aa} (h:Ap b) {p:Ab} (hp:Ao b p) {x:As} (hx:Cd b x) (t:Int) {n:Nat} (hat:At p.Ai x n) (hnot:p.Ai[n]? ≠ some x) (hlen:p.Ai.length<32) :
  G7 ⟨b,p,t⟩ x true=some (0,⟨b,⟨p.Ae,Lo p.Ac x 3,p.Am,Eu p.Ai n x⟩,t⟩):=by
 have hs:=H6 h hp.brk
 have hsm:∀ y,y∈p.Ai->Cp y:=λ y hy=>(hp.brk.mem y hy).small h
 refine d5 ?_
 unfold G7
 refine (Oz hs hsm (hx.small h) (by omega)).bind λ y hy=>?_
 obtain⟨m,e1,hat2,hf⟩:=hy
 have e2:=hat.uniq hat2
 subst e2
 have hf2:y.2=false:=by
  cases hb:y.2 with
  | false=>rfl
  | true=>exact absurd (hf.1 hb) hnot
 refine c4 (λ hc=>by rw [hf2] at hc;simp at hc) (λ _=>c4 (λ hc=>?_) (λ _=>?_))
 ·simp [Sw] at hc;omega
 refine Ok.andThen (A:=λ z=>z=Eu p.Ai n x) (B:=λ (_:Unit)=>False) ?_ ?_ (λ _ h=>h.elim)
 ·unfold Pl
  rw [e1,Auq hat.le (by omega)]
  exact d9 rfl
 ·rintro z rfl
  unfold Lo
  refine c4 (λ hk=>?_) (λ hk=>?_)
  ·simp only [dz] at hk
   have hn:0<=x.Number/\x.Number<p.Ac.length:=by
    have:=hp.nso
    unfold Cd at hx
    omega
   rw [if_pos hk]
   refine (c9 hn.1 hn.2).bind λ u hu=>(cV hn.1 hn.2).bind λ v hv=>?_
   have hd:p.Ac.getD x.Number.toNat default=u:=by simp [List.getD,hu]
   have hvg:v[x.Number.toNat]? = some (⟨0,u.Since,u.Ar,u.Phase⟩:Ag):=by rw [hv,bG (by omega)]
   simp only [cond_true]
   refine Ok.bind (P:=λ w=>w=(⟨0,u.Since,u.Ar,u.Phase⟩:Ag)) ((c9 hn.1 (by rw [hv];simpa using hn.2)).mono λ w hw=>by rw [hvg] at hw;cases hw;rfl) λ w hw=>?_
   subst hw
   refine (cV hn.1 (by rw [hv];simpa using hn.2)).bind λ z hz=>Ok.pure ?_
   rw [hz,hv,List.set_set,hd]
  ·simp only [dA,ne_eq] at hk
   rw [if_neg hk]
   exact Ok.pure rfl
theorem A23 {b:Aa} (h:Ap b) {p:Ab} (hbl:Ev b p.Ai) {q:Ab} {x:As} (hx:Cd b x) (t:Int) {n:Nat} (hat:At p.Ai x n) (hnot:p.Ai[n]? ≠ some x) (hlen:p.Ai.length<32)
  (hq:q.Ai=Eu p.Ai n x) (hqs:q.Ac.length=b.Ac.length):G7 ⟨b,q,t⟩ x false=some (0,⟨b,⟨q.Ae,Lo q.Ac x 0,q.Am,p.Ai⟩,t⟩):=by
 have hbl2:Ev b q.Ai:=by rw [hq];exact Ane h hbl hx hat hnot hlen
 have hs:=H6 h hbl2
 have hsm:∀ y,y∈q.Ai->Cp y:=λ y hy=>(hbl2.mem y hy).small h
 refine d5 ?_
 unfold G7
 refine (Oz hs hsm (hx.small h) (by have:=hbl2.len;omega)).bind λ y hy=>?_
 obtain⟨m,e1,hat2,hf⟩:=hy
 rw [hq] at hat2 hf
 have e2:=hat.ins.uniq hat2
 subst e2
 have hf2:y.2=true:=hf.2 (A29 hat.le x)
 refine c4 (λ hc=>by rw [hf2] at hc;simp at hc) (λ _=>c4 (λ hc=>?_) (λ _=>?_))
 ·simp [Sw] at hc
 refine Ok.andThen (A:=λ z=>z=p.Ai) (B:=λ (_:Unit)=>False) ?_ ?_ (λ _ h=>h.elim)
 ·unfold Pl
  have hle:=hat.le
  rw [e1,A5 (by omega)]
  simp only [cond_false,hq]
  rw [Avl hat.le]
  exact d9 rfl
 ·rintro z rfl
  unfold Lo
  refine c4 (λ hk=>?_) (λ hk=>?_)
  ·simp only [dz] at hk
   have hn:0<=x.Number/\x.Number<q.Ac.length:=by
    unfold Cd at hx
    omega
   rw [if_pos hk]
   refine (c9 hn.1 hn.2).bind λ u hu=>(cV hn.1 hn.2).bind λ v hv=>?_
   have hd:q.Ac.getD x.Number.toNat default=u:=by simp [List.getD,hu]
   simp only [cond_false]
   exact Ok.pure (by rw [hv,hd])
  ·simp only [dA,ne_eq] at hk
   rw [if_neg hk]
   exact Ok.pure rfl
def A3d (p:Ab) (x:As) (n:Nat):Ab:=⟨p.Ae,Lo p.Ac x 3,p.Am,Eu p.Ai n x⟩
theorem Apl {b:Aa} (h:Ap b) {p:Ab} (hp:Ao b p) {x:As} (hx:Cd b x) {n:Nat} (hat:At p.Ai x n) (hnot:p.Ai[n]? ≠ some x) (hlen:p.Ai.length<32):Ao b (A3d p x n) where
 ncl:=hp.ncl
 nso:=by show (Lo p.Ac x 3).length=_;rw [Ve];exact hp.nso
 nli:=hp.nli
 run:=Aig hp.run (λ hk=>by have:=hp.nso;unfold Cd at hx;omega) (by omega)
 lim:=hp.lim
 one:=hp.one
 brk:=Ane h hp.brk hx hat hnot hlen
theorem H_ (b:Aa) (k n:Int):Hi b k n=true↔Cd b ⟨k,n⟩:=by
 unfold Hi Cd
 dsimp only
 by_cases h1:k=1
 ·subst h1;simp
 rw [dA.2 h1,cond_false]
 by_cases h2:k=2
 ·subst h2;simp
 rw [dA.2 h2,cond_false]
 by_cases h3:k=3
 ·subst h3;simp
 rw [dA.2 h3,cond_false]
 by_cases h4:k=4
 ·subst h4;simp
 rw [dA.2 h4,cond_false]
 simp only [ac,dx]
 omega
theorem A8d {b:Aa} (h:Ap b) {l:List As} (hl:Ev b l) {x:As} (hx:Cd b x):∃ n,At l x n:=by
 have hs:=H6 h hl
 obtain⟨y,_,n,_,hat,_⟩:=Oz hs (λ y hy=>(hl.mem y hy).small h) (hx.small h) (by have:=hl.len;omega)
 exact⟨n,hat⟩
theorem Aaf {b:Aa} (h:Ap b) {p:Ab} (hp:Ao b p):Z7 p=some p:=by
 have hl:=hp.lens h
 have h1:=hl.c
 have h2:=hl.s
 have h3:=hl.l
 have h4:=hl.k
 unfold Z7
 rw [Sz (by omega),Sz (by omega),Sz (by omega),Sz (by omega)]
 rfl
theorem Asb:F9=some true:=by kernel_rfl
theorem d6 {α:Type} {l:List (Bool×Bool)} {x:Option α} {d:α} {P:α->Prop} (hx:D_ l->Ok x λ _=>True) (hr:∀ y,P y):Ok (Az l x d) P:=
 cU (λ h=>(hx h).mono λ y _=>hr y) λ _=>hr d
theorem dh {α:Type} {x:Option α} {v:α} (h:x=some v):Ok x λ _=>True:=⟨v,h,trivial⟩
theorem A2d {x B0:Ag} (hx:C4 x) (hl:C4 B0):C4 (Yg B0 x):=⟨hx.1,hx.2.1,hl.2.2.1,hl.2.2.2⟩
theorem Jr {ss:List Ag} (h:∀ x,x∈ss->C4 x) {n:Nat} {y:Ag} (hy:C4 y):∀ x,x∈ss.set n y->C4 x:=λ x hx=>by
 rcases cx hx with hx | hx
 ·exact h x hx
 ·exact hx ▸ hy
theorem Y4 {ss:List Ag} (h:∀ x,x∈ss->C4 x) {n:Nat} (hn:n<ss.length):C4 (ss.getD n default):=by
 have:ss.getD n default=ss[n]:=by simp [List.getD,List.getElem?_eq_getElem hn]
 rw [this];exact h _ (cJ hn)
theorem Rn {B0:Ag} (hl:C4 B0):∀ (idx:List Int) (ss:List Ag),(∀ i,i∈idx->0<=i/\i<ss.length)->(∀ x,x∈ss->C4 x)->∀ x,x∈Et B0 idx ss->C4 x
 | [],_,_,h=>h
 | i::idx,ss,hi,h=>by
  have h0:=hi i ag
  refine Rn hl idx _ (λ j hj=>?_) (Jr h (A2d (Y4 h (by omega)) hl))
  have:=hi j (ai _ hj)
  simpa using this
theorem Aia {b:Aa} {p:Ab} (hp:Ao b p):∀ (l:List Aj) (s:List Ag),(∀ x,x∈l->∀ i,i∈x.Ac->0<=i/\i<b.Ac.length)->s.length=p.Ac.length->(∀ x,x∈s->C4 x)->∀ x,x∈l.foldl (Cz p) s->C4 x
 | [],_,_,_,h=>h
 | y::l,s,hi,hs,h=>by
  refine Aia hp l _ (λ x hx=>hi x (ai _ hx)) (by rw [N6,hs]) ?_
  have h0:=hi y ag
  have hn:=hp.nso
  unfold Cz
  split
  ·exact h
  ·rename_i i r e
   rw [e] at h0
   have h1:=h0 i ag
   rw [e]
   exact Rn (Y4 hp.run (by omega)) _ _ (λ j hj=>by have:=h0 j hj;omega) h
theorem My {b:Aa} {p:Ab} (hp:Ao b p):∀ x,x∈Cr b p->C4 x:=
 Aia hp _ _ (λ _ hx=>Qk hx) rfl hp.run
theorem H0 {b:Aa} {p:Ab} (hp:Ao b p) {ss:List Ag} (hl:ss.length=p.Ac.length) (hr:∀ x,x∈ss->C4 x):Ao b ⟨p.Ae,ss,p.Am,p.Ai⟩ where
 ncl:=hp.ncl
 nso:=hl.trans hp.nso
 nli:=hp.nli
 run:=hr
 lim:=hp.lim
 one:=hp.one
 brk:=hp.brk
theorem qI {b:Aa} {p:Ab} (hp:Ao b p) (j:Nat):Ao b ⟨p.Ae.set j false,p.Ac,p.Am,p.Ai⟩ where
 ncl:=by simpa using hp.ncl
 nso:=hp.nso
 nli:=hp.nli
 run:=hp.run
 lim:=hp.lim
 one i hi:=by
  refine aC (Aif (by simp) (λ k hk=>?_) i) (hp.one i hi)
  rw [am] at hk
  split at hk
  ·split at hk <;> cases hk
  ·exact hk
 brk:=hp.brk
theorem Auz {l:List Ah}:∀ {c:List Bool} {j:Nat} {x:Ah},l[j]? = some x->∀ i:Nat,(Ca l (c.set j true) i).length<=(Ca l c i).length+(if x.Kind=3/\x.B=(i:Int) then 1 else 0):=by
 induction l with
 | nil=>intro c j x h;simp at h
 | cons y l ih=>
  intro c j x h i
  cases c with
  | nil=>simp [Ca]
  | cons v c=>
   cases j with
   | zero=>
    simp only [List.getElem?_cons_zero,al] at h
    subst h
    simp only [List.set_cons_zero,Ca,bF,bn]
    by_cases hk:y.Kind=3/\y.B=(i:Int)
    ·rw [if_pos hk]
     simp only [hk.1,hk.2,beq_self_eq_true,aM,bA,if_true]
     split <;> simp
    ·rw [if_neg hk]
     have:(y.Kind==3&&y.B==(i:Int))=false:=by
      rw [cf];intro e
      simp only [ac,dz] at e
      exact hk e
     simp [this]
   | succ j=>
    simp only [cI] at h
    have:=ih (c:=c) h i
    simp only [List.set_cons_succ,Ca,bF,bn] at this ⊢
    split <;> simp at this ⊢ <;> omega
theorem Au0 {b:Aa} {p:Ab} {i:Nat} (h:B1 b p 3 (i:Int)=none):Ca b.Ad p.Ae i=[]:=by
 unfold B1 at h
 rw [Option.map_eq_none_iff,List.find?_eq_none] at h
 unfold Ca
 rw [List.filter_eq_nil_iff]
 exact h
theorem Vk {b:Aa} {p:Ab} (hp:Ao b p) {j:Nat} {x:Ah} (hx:b.Ad[j]? = some x) (hf:x.Kind=3->B1 b p 3 x.B=none):Ao b ⟨p.Ae.set j true,p.Ac,p.Am,p.Ai⟩ where
 ncl:=by simpa using hp.ncl
 nso:=hp.nso
 nli:=hp.nli
 run:=hp.run
 lim:=hp.lim
 one i hi:=by
  have h1:=Auz (c:=p.Ae) hx i
  have h2:=hp.one i hi
  dsimp only
  split at h1
  ·rename_i hk
   have h3:=hf hk.1
   rw [hk.2] at h3
   rw [Au0 h3] at h1
   simpa using h1
  ·omega
 brk:=hp.brk
theorem A2z {b:Aa} (h:Ap b) {p:Ab} (hp:Ao b p) (i:Int):Ok (P2 b p i) λ y=>y.2≠0\/Ao b y.1:=by
 have hbl:p.Ai.length<=1000:=by have:=hp.brk.len;omega
 have hn:=hp.ncl
 unfold P2
 rw [B4 h hp,C3 h hp]
 simp only [ab]
 refine c4 (λ hc=>by simp at hc) (λ _=>c4 (λ _=>Ok.pure (.inl (by simp))) (λ hr=>?_))
 simp only [Ai6,bk,dy] at hr
 refine (c9 (by omega) (by omega)).bind λ v _=>Ok.bind (P:=λ _=>True) (d6 (λ _=>dh (C9 hbl _ _)) λ _=>trivial) λ _ _=>?_
 refine c4 (λ _=>Ok.pure (.inl (by simp))) (λ _=>?_)
 exact (c9 (by omega) (by omega)).bind λ _ _=>(cV (by omega) (by omega)).bind λ z hz=>Ok.pure (.inr (by rw [hz];exact qI hp _))
theorem Aov {b:Aa} (h:Ap b) {p:Ab} (hp:Ao b p) (n:Int):Ok (Io b p n) λ y=>∀ i,i∈y.1.Ac->0<=i/\i<p.Ac.length:=by
 have hn:=hp.nso
 unfold Io
 rw [Kf h hp]
 simp only [ab]
 refine Ok.andThen (A:=λ _=>True) (B:=λ y=>∀ i,i∈y.1.Ac->0<=i/\i<p.Ac.length) ?_ (λ _ _=>Ok.pure (λ i hi=>by cases hi)) (λ v hv=>Ok.pure hv)
 refine c6 (I:=λ _ _=>True) trivial (λ j x s hx _=>?_) λ s _=>trivial
 have hmem:=ae hx
 have hbl:x.Al.length<=9223372036854775807:=by
  unfold Bg at hmem
  obtain⟨f,_,rfl⟩:=an.1 (ao.1 hmem).1
  have:=C1 (λ i=>(groups b p).getD i 0==(f:Int)) b.Al.toNat
  have:=h.buses
  simp only [isl,D6]
  omega
 unfold Nj
 rw [Eh _ _ hbl]
 simp only [ab]
 refine c4 (λ _=>Ok.ret λ i hi=>?_) (λ _=>c5 trivial)
 have:=Qk hmem i hi
 omega
theorem A5e {b:Aa} (h:Ap b) {p:Ab} (hp:Ao b p) (n:Int):Ok (Io b p n) λ y=>y.1.Al.length<=9223372036854775807:=by
 unfold Io
 rw [Kf h hp]
 simp only [ab]
 refine Ok.andThen (A:=λ _=>True) (B:=λ y=>y.1.Al.length<=9223372036854775807) ?_ (λ _ _=>Ok.pure (by simp)) (λ v hv=>Ok.pure hv)
 refine c6 (I:=λ _ _=>True) trivial (λ j x s hx _=>?_) λ s _=>trivial
 have hmem:=ae hx
 have hbl:x.Al.length<=9223372036854775807:=by
  unfold Bg at hmem
  obtain⟨f,_,rfl⟩:=an.1 (ao.1 hmem).1
  have:=C1 (λ i=>(groups b p).getD i 0==(f:Int)) b.Al.toNat
  have:=h.buses
  simp only [isl,D6]
  omega
 unfold Nj
 rw [Eh _ _ hbl]
 simp only [ab]
 exact c4 (λ _=>Ok.ret hbl) (λ _=>c5 trivial)
theorem O8 {b:Aa} (h:Ap b) {p:Ab} (hp:Ao b p) (n:Int):Ok (Mn b p n) λ y=>y.2=true->0<=y.1/\y.1<p.Ac.length:=by
 unfold Mn
 refine (Aov h hp n).bind λ y hy=>?_
 refine c4 (λ _=>Ok.pure (λ e=>by cases e)) (λ hc=>?_)
 simp only [dA,ne_eq] at hc
 exact (c9 (by omega) (by omega)).bind λ z hz=>Ok.pure λ _=>hy z (ae hz)
theorem d8 {α:Type} {l:List α} {i:Int} (h0:0<=i) (h1:i<l.length):Ok (getI l i) λ _=>True:=(c9 h0 h1).mono λ _ _=>trivial
theorem A2h {b:Aa} (h:Ap b) {p:Ab} (hp:Ao b p) {j:Nat} {x:Ah} (hx:b.Ad[j]? = some x):Ok (Jn b p x) λ _=>True:=by
 have hn:=hp.nso
 have hb:=h.br x (ae hx)
 unfold Jp at hb
 unfold Jn
 refine (O8 h hp _).bind λ y hy=>?_
 refine c4 (λ _=>Ok.pure trivial) (λ h2=>?_)
 simp only [cg] at h2
 have hy:=hy h2
 refine c4 (λ _=>?_) (λ _=>c4 (λ hk=>?_) (λ _=>Ok.pure trivial))
 ·refine (O8 h hp _).bind λ z hz=>?_
  refine Ok.bind (P:=λ _=>True) (d6 (λ _=>d8 hy.1 hy.2) λ _=>trivial) λ _ _=>?_
  refine Ok.bind (P:=λ _=>True) (d6 (λ hg=>?_) λ _=>trivial) λ _ _=>Ok.pure trivial
  have:=hz (by have:=hg.1;simpa using this)
  exact d8 this.1 this.2
 ·simp only [dz] at hk
  exact (d8 hy.1 hy.2).bind λ _ _=>(d8 (by omega) (by omega)).bind λ _ _=>Ok.pure trivial
theorem Aci {o:Option Int}:(Dt o).2=false->o=none:=by
 cases o with
 | none=>intro _;rfl
 | some a=>intro e;cases e
theorem Ayb {b:Aa} (h:Ap b) {p:Ab} (hp:Ao b p) {j:Int} (h0:0<=j) (h1:j<b.Ad.length):Ok (Z1 b p j) λ y=>y=true->∀ x,b.Ad[j.toNat]? = some x->x.Kind=3->B1 b p 3 x.B=none:=by
 have hbl:p.Ai.length<=1000:=by have:=hp.brk.len;omega
 have hn:=hp.nso
 have hc:=hp.ncl
 unfold Z1
 refine (c9 h0 h1).bind λ x hx=>(d8 h0 (by omega)).bind λ _ _=>?_
 have hb:=h.br x (ae hx)
 unfold Jp at hb
 refine Ok.bind (P:=λ _=>True) (d6 (λ _=>dh (C9 hbl _ _)) λ _=>trivial) λ _ _=>?_
 refine Ok.bind (P:=λ _=>True) (d6 (λ _=>dh (C9 hbl _ _)) λ _=>trivial) λ _ _=>?_
 refine c4 (λ _=>Ok.pure (λ e=>by cases e)) (λ _=>?_)
 refine c4 (λ hk=>?_) (λ hk1=>c4 (λ hk=>?_) (λ hk2=>?_))
 ·simp only [dz] at hk
  rw [C9 hbl]
  refine Ok.pure λ _ y hy hy3=>?_
  rw [hx] at hy;cases hy;omega
 ·simp only [dz] at hk
  rw [C9 hbl]
  simp only [ab]
  refine Ok.bind (P:=λ _=>True) (d6 (λ _=>d8 (by omega) (by omega)) λ _=>trivial) λ _ _=>Ok.pure λ _ y hy hy3=>?_
  rw [hx] at hy;cases hy;omega
 ·unfold F86
  rw [B4 h hp,qZ h hc,C9 hbl]
  simp only [ab,dF,cond_false]
  refine Ok.pure λ e y hy hy3=>?_
  rw [hx] at hy;cases hy
  simp only [ac,aJ] at e
  exact Aci e.2
theorem Auf {b:Aa} (h:Ap b) {p:Ab} (hp:Ao b p) (j:Int):Ok (Tr b p j) λ y=>y≠0\/((0<=j/\j<b.Ad.length)/\∀ x,b.Ad[j.toNat]? = some x->x.Kind=3->B1 b p 3 x.B=none):=by
 unfold Tr
 rw [B4 h hp]
 simp only [ab]
 refine c4 (λ hc=>by simp at hc) (λ _=>c4 (λ _=>Ok.pure (.inl (by simp))) (λ hr=>?_))
 simp only [Vm,bk,dy] at hr
 refine (Ayb h hp (by omega) (by omega)).bind λ y hy=>?_
 refine c4 (λ _=>Ok.pure (.inl (by simp))) (λ h2=>?_)
 simp only [cg] at h2
 have hy:=hy h2
 refine (c9 (by omega) (by omega)).bind λ x hx=>(A5e h hp x.A).bind λ z hz=>?_
 refine Ok.bind (P:=λ _=>True) (d6 (λ _=>dh (Eh _ _ hz)) λ _=>trivial) λ _ _=>?_
 refine Ok.bind (P:=λ _=>True) (d6 (λ _=>A2h h hp hx) λ _=>trivial) λ _ _=>?_
 exact c4 (λ _=>Ok.pure (.inl (by simp))) (λ _=>Ok.pure (.inr ⟨⟨by omega,by omega⟩,hy⟩))
theorem Az5 {b:Aa} (h:Ap b) {p:Ab} (hp:Ao b p) (i:Int):Ok (P3 b p i) λ y=>y.2≠0\/Ao b y.1:=by
 have hn:=hp.ncl
 unfold P3
 rw [C3 h hp]
 simp only [ab]
 refine (Auf h hp i).bind λ y hy=>c4 (λ hc=>Ok.pure (.inl (by simpa using hc))) (λ hc=>?_)
 simp only [dE] at hc
 rcases hy with hy | ⟨hr,hf⟩
 ·exact absurd hc hy
 ·refine (c9 hr.1 (by omega)).bind λ _ _=>(cV hr.1 (by omega)).bind λ z hz=>?_
  obtain⟨x,hx⟩:∃ x,b.Ad[i.toNat]? = some x:=⟨_,af (by omega)⟩
  have hq:=Vk hp hx (hf x hx)
  rw [←hz] at hq
  rw [Pa h hq]
  exact Ok.pure (.inr (H0 hq (Ft _ _) (My hq)))
theorem Ayz {b:Aa} (h:Ap b) {p:Ab} (hp:Ao b p) (i n:Int):Ok (Z8 b p i n) λ y=>y.2≠0\/Ao b y.1:=by
 have hn:=hp.nso
 unfold Z8
 rw [B4 h hp,C3 h hp]
 simp only [ab]
 refine c4 (λ hc=>by simp at hc) (λ _=>c4 (λ _=>Ok.pure (.inl (by simp))) (λ hr=>?_))
 simp only [Ai5,bk,dy] at hr
 refine (O8 h hp n).bind λ y hy=>?_
 refine Ok.bind (P:=λ _=>True) (d6 (λ _=>d8 (by omega) (by omega)) λ _=>trivial) λ u _=>?_
 refine c4 (λ _=>Ok.pure (.inl (by simp))) (λ hc=>?_)
 simp only [bk,cg] at hc
 have hy:=hy hc.1
 unfold Alg
 rw [B4 h hp,N8 h hp]
 simp only [ab,dF,cond_false]
 have hrun:∀ w,p.Ac[y.1.toNat]? = some w->C4 w:=λ w hw=>hp.run w (ae hw)
 refine c4 (λ _=>?_) (λ _=>?_)
 ·refine (Aov h hp _).bind λ z hz=>(c9 hy.1 hy.2).bind λ w hw=>?_
  rw [Um hz]
  exact Ok.pure (.inr (H0 hp (Hu _ _ _) (Rn (hrun w hw) _ _ hz hp.run)))
 ·refine (c9 hy.1 hy.2).bind λ w hw=>?_
  have hz:∀ k,k∈[i]->0<=k/\k<p.Ac.length:=λ k hk=>by
   simp only [aP] at hk
   subst hk;omega
  rw [Um hz]
  exact Ok.pure (.inr (H0 hp (Hu _ _ _) (Rn (hrun w hw) _ _ hz hp.run)))
theorem U5 {b:Aa} (h:Ap b) {p:Ab} (hc:p.Ae.length=b.Ad.length) (t:Int) {i:Int} (h0:0<=i) (h1:i<b.Ac.length):Ok (Jc ⟨b,p,t⟩ i) λ _=>True:=by
 obtain⟨j,x,e,hx,_⟩:=Kl h h0 h1
 have hj:=(aa.1 hx).1
 unfold Jc
 rw [I0 h,e]
 simp only [ab]
 exact (d8 (by omega) (by omega)).bind λ _ _=>Ok.pure trivial
def Xz (b:Aa) (y:Int×A0):Prop:=y.1≠0\/Ao b y.2.Aq
theorem Ax9 {b:Aa} (h:Ap b) {p:Ab} (hp:Ao b p) {t:Int} (ht:0<=t/\t<=2147483648) {i:Int} (h0:0<=i) (h1:i<b.Ac.length):Ok (Jd ⟨b,p,t⟩ i) (Xz b):=by
 have hn:=hp.nso
 have hbl:p.Ai.length<=1000:=by have:=hp.brk.len;omega
 unfold Jd
 refine (d8 h0 (by dsimp only;omega)).bind λ u _=>Ok.bind (P:=λ _=>True) (d6 (λ _=>dh (C9 hbl _ _)) λ _=>trivial) λ _ _=>?_
 refine c4 (λ _=>Ok.pure (.inl (by simp))) (λ _=>(d8 h0 h1).bind λ s _=>?_)
 refine Ok.bind (P:=λ _=>True) (d6 (λ _=>U5 h hp.ncl t h0 h1) λ _=>trivial) λ _ _=>?_
 refine c4 (λ _=>?_) (λ _=>?_)
 ·exact (cV h0 (by dsimp only;omega)).bind λ z hz=>Ok.pure (.inr (by
   rw [hz]
   exact H0 hp (by simp) (Jr hp.run ⟨by dsimp only;omega,ht,by dsimp only;omega,by dsimp only;omega⟩)))
 ·exact (cV h0 (by dsimp only;omega)).bind λ z hz=>Ok.pure (.inr (by
   rw [hz]
   exact H0 hp (by simp) (Jr hp.run ⟨by dsimp only;omega,ht,by dsimp only;omega,by dsimp only;omega⟩)))
theorem A2i {b:Aa} (h:Ap b) {p:Ab} (hp:Ao b p) {t:Int} {i:Int} (h0:0<=i) (h1:i<b.Ac.length):Ok (Oi ⟨b,p,t⟩ i) (Xz b):=by
 have hn:=hp.nso
 unfold Oi
 refine (c9 h0 (by dsimp only;omega)).bind λ u hu=>?_
 have hr:=hp.run u (ae hu)
 refine Ok.bind (P:=λ _=>True) (d6 (λ _=>U5 h hp.ncl t h0 h1) λ _=>trivial) λ _ _=>?_
 refine c4 (λ _=>Ok.pure (.inl (by simp))) (λ _=>(cV h0 (by dsimp only;omega)).bind λ z hz=>Ok.pure (.inr ?_))
 rw [hz]
 exact H0 hp (by simp) (Jr hp.run ⟨by dsimp only;omega,hr.2⟩)
theorem Ay6 {b:Aa} {p:Ab} (hp:Ao b p) {t:Int} {i v:Int} (h0:0<=i) (h1:i<b.Af.length):Ok (Oh ⟨b,p,t⟩ i v) (Xz b):=by
 have hn:=hp.nli
 unfold Oh
 refine Ok.bind (P:=λ y=>0<=v->b.Af[i.toNat]? = some y) (cU (λ _=>(c9 h0 h1).mono λ y hy _=>hy) λ hg hv=>(hg ⟨by simp;omega,trivial⟩).elim) λ c hc=>?_
 refine c4 (λ _=>Ok.pure (.inl (by simp))) (λ hr=>?_)
 simp only [Ai4,bk,dy] at hr
 have hc:=hc (by omega)
 refine (d8 h0 (by dsimp only;omega)).bind λ _ _=>(cV h0 (by dsimp only;omega)).bind λ z hz=>Ok.pure (.inr ?_)
 subst hz
 exact {
  ncl:=hp.ncl
  nso:=hp.nso
  nli:=by simpa using hp.nli
  run:=hp.run
  lim:=λ k m y hk hy=>by
   dsimp only at hk
   rw [am] at hk
   split at hk
   ·rename_i e
    split at hk
    ·cases hk
     rw [←e,hc] at hy;cases hy;omega
    ·cases hk
   ·exact hp.lim k m y hk hy
  one:=hp.one
  brk:=hp.brk}
theorem A21 (x:Int):0<=Fe x/\Fe x<=3599:=by
 have:=Mr (x:=x) (n:=3600) (by omega)
 unfold Fe
 by_cases h:Int.tmod x 3600<0
 ·rw [dC h,cond_true,A5 (by omega)];omega
 ·rw [dD h,cond_false];omega
theorem A2b {b:Aa} (h:Ap b) {p:Ab} (hp:Ao b p):Ok (Z4 b p) λ y=>Ao b y.1/\y.1.Ae=p.Ae/\y.2=0:=by
 have hs:=h.sol
 have hn:=hp.nso
 unfold Z4
 rw [B4 h hp,C3 h hp]
 simp only [ab]
 refine c4 (λ hc=>by simp at hc) (λ _=>?_)
 refine Ok.andThen (A:=λ s=>s.length=p.Ac.length/\∀ x,x∈s->C4 x) (B:=λ (_:Unit)=>False) ?_ (λ s hs=>Ok.pure ⟨H0 hp hs.1 hs.2,rfl,rfl⟩) (λ _ h=>h.elim)
 refine c6 (I:=λ _ s=>s.length=p.Ac.length/\∀ x,x∈s->C4 x) ⟨rfl,hp.run⟩ (λ j x s hx hs=>?_) λ s hs=>hs
 have hj:=(aa.1 hx).1
 have hcnt:cnt 0 j=(j:Int):=Co (by omega)
 unfold Xv
 rw [hcnt]
 refine c4 (λ _=>?_) (λ _=>c5 hs)
 refine (c9 (by omega) (by omega)).bind λ u hu=>(cV (by omega) (by omega)).bind λ z hz=>c5 ?_
 have hr:=hs.2 u (ae hu)
 rw [hz]
 exact⟨by simpa using hs.1,Jr hs.2 ⟨hr.1,hr.2.1,hr.2.2.1,A21 _⟩⟩
theorem Amf {b:Aa} (h:Ap b) {p:Ab} (hp:Ao b p) (t:Int):Ok (Ko ⟨b,p,t⟩) λ y=>Ao b y.Aq:=by
 have hso:=h.sol
 unfold Ko
 refine (A2b h hp).bind λ ⟨q,e⟩ hq=>?_
 dsimp only at hq ⊢
 obtain⟨hq,_,_⟩:=hq
 have hn:=hq.nso
 refine Ok.andThen (A:=λ s=>s.2.length=q.Ac.length/\∀ x,x∈s.2->C4 x) (B:=λ (_:Unit)=>False) ?_ (λ s hs=>Ok.pure (H0 hq hs.1 hs.2)) (λ _ h=>h.elim)
 refine c8 (λ s=>(0<=s.1/\s.1<=(q.Ac.length:Int))/\s.2.length=q.Ac.length/\∀ x,x∈s.2->C4 x) (λ s=>((q.Ac.length:Int)-s.1).toNat) _ _ ?_ ?_ ?_
 ·exact⟨by dsimp only;omega,rfl,hq.run⟩
 ·dsimp only;omega
 ·rintro⟨i,s⟩ ⟨⟨h1,h2⟩,h3,h4⟩
  dsimp only at h1 h2 h3 h4
  unfold Pm Zd
  dsimp only
  refine c4 (λ hc=>?_) (λ _=>cX ⟨h3,h4⟩)
  simp only [dx] at hc
  have e1:w64 (i+1)=i+1:=A5 (by omega)
  refine (c9 h1 (by omega)).bind λ u hu=>?_
  have hr:=h4 u (ae hu)
  refine Ok.bind (P:=λ _=>True) (d6 (λ _=>U5 h hq.ncl t h1 (by omega)) λ _=>trivial) λ _ _=>?_
  refine Ok.bind (P:=λ _=>True) (d6 (λ _=>d8 h1 (by omega)) λ _=>trivial) λ _ _=>?_
  rw [e1]
  refine c4 (λ _=>?_) (λ _=>c5 ⟨⟨by dsimp only;omega,h3,h4⟩,by dsimp only;omega⟩)
  refine (cV h1 (by omega)).bind λ z hz=>c5 ⟨⟨by dsimp only;omega,?_,?_⟩,by dsimp only;omega⟩
  ·dsimp only;rw [hz];simpa using h3
  ·dsimp only;rw [hz];exact Jr h4 ⟨by dsimp only;omega,hr.2⟩
theorem bet {x lo hi:Int} (h:lo<=x/\x<=hi):F46 x lo hi=true:=(J4 x lo hi).2 h
def ofL (b:Aa) (q:Ah->Bool):List Int:=(b.Ad.zipIdx.filter λ z=>q z.1).map λ z=>(z.2:Int)
theorem zD {b:Aa} (h:Ap b) (k i:Int):F49 b k i=some (ofL b λ x=>Kk k i x):=by
 have hb:=h.brl
 refine d5 ?_
 unfold F49
 refine Ok.andThen (A:=λ s=>s=ofL b λ x=>Kk k i x) (B:=λ (_:Unit)=>False) ?_ (λ s hs=>Ok.pure hs) (λ _ h=>h.elim)
 refine c6 (I:=λ j s=>s=((b.Ad.zipIdx.take j).filter λ z=>Kk k i z.1).map λ z=>(z.2:Int)) rfl (λ j x s hx hs=>?_) λ s hs=>?_
 ·have hj:=(aa.1 hx).1
  have hcnt:cnt 0 j=(j:Int):=Co (by omega)
  have hz:b.Ad.zipIdx[j]? = some (x,j):=by rw [List.getElem?_zipIdx,hx];simp
  have hsl:s.length<=j:=by
   rw [hs,ax]
   exact aC (bp _ _) (by simp;omega)
  unfold Ak2
  rw [hcnt,Bi hz,bm,bo,←hs]
  refine c4 (λ hq=>?_) (λ hq=>c5 (by simp [hq]))
  exact (cW (by simp;omega)).bind λ y hy=>c5 (by rw [hy];simp [hq])
 ·rw [hs,show b.Ad.length=b.Ad.zipIdx.length from by simp,ay];rfl
theorem Afa (q:Ah->Bool):∀ (l:List Ah) (k:Nat),((l.zipIdx k).filter λ z=>q z.1).length=(l.filter q).length
 | [],_=>rfl
 | x::l,k=>by
  simp only [List.zipIdx_cons,bn]
  split <;> simp [Afa q l (k+1)]
theorem A20 (b:Aa) (q:Ah->Bool):(ofL b q).length=(b.Ad.filter q).length:=by
 unfold ofL
 rw [ax,Afa]
theorem Ayj (k:Int) (hk:k≠1) (i:Int) (x:Ah):Kk k i x=(x.Kind==k&&x.B==i):=by
 unfold Kk
 have:(k==1)=false:=dA.2 hk
 rw [this];simp
theorem zC {b:Aa} {k:Int} (hk:k≠1) (i:Nat):(ofL b λ x=>Kk k (i:Int) x).length=(brs b.Ad k i).length:=by
 rw [A20]
 unfold brs
 congr 1
 exact cy λ x _=>Ayj k hk i x
theorem Ahc {b:Aa} (h:Ap b):F95 b=some true:=by
 have hs:=h.sol
 have hc:=h.col
 have hb:=h.buses
 have hbl:=h.brl
 refine d5 ?_
 unfold F95
 rw [Dz b.Ad 0 λ j x hj=>?_]
 ·rw [show ∀ (f:Unit->Option Bool),andThen (some (Ctl.next ()):Option (Ctl Unit Bool)) some f=f () from λ _=>rfl]
  refine Ok.andThen (A:=λ _=>True) (B:=λ (_:Bool)=>False) ?_ (λ _ _=>?_) (λ _ h=>h.elim)
  ·refine c8 (λ s=>0<=s/\s<=(b.Ac.length:Int)) (λ s=>((b.Ac.length:Int)-s).toNat) _ (0:Int) (by omega) (by omega) ?_
   rintro i ⟨h1,h2⟩
   unfold Aki Avt
   refine c4 (λ hq=>?_) (λ _=>cX trivial)
   simp only [dx] at hq
   obtain⟨n,rfl⟩:∃ n:Nat,i=(n:Int):=⟨i.toNat,by omega⟩
   rw [zD h]
   simp only [ab]
   have hone:=h.one n (by omega)
   rw [zC (by decide),hone,A5 (by omega)]
   refine c4 (λ hc=>by simp at hc) (λ _=>c5 ⟨by omega,by omega⟩)
  ·refine Ok.andThen (A:=λ _=>True) (B:=λ (_:Bool)=>False) ?_ (λ _ _=>Ok.pure rfl) (λ _ h=>h.elim)
   refine c8 (λ s=>0<=s/\s<=(b.Af.length:Int)) (λ s=>((b.Af.length:Int)-s).toNat) _ (0:Int) (by omega) (by omega) ?_
   rintro i ⟨h1,h2⟩
   unfold Akh Avs
   refine c4 (λ hq=>?_) (λ _=>cX trivial)
   simp only [dx] at hq
   obtain⟨n,rfl⟩:∃ n:Nat,i=(n:Int):=⟨i.toNat,by omega⟩
   rw [zD h]
   simp only [ab]
   have hany:=h.any n (by omega)
   have hpos:0<(brs b.Ad 3 n).length:=List.length_pos_iff.2 hany
   rw [zC (by decide),A5 (by omega)]
   refine c4 (λ hc=>?_) (λ _=>c5 ⟨by omega,by omega⟩)
   simp only [dx] at hc;omega
 ·have hjl := (aa.1 hj).1
  obtain⟨⟨a0,a1⟩,hk⟩:=h.br x (ae hj)
  rw [aE]
  have hcnt:cnt 0 j=(j:Int):=Co (by omega)
  have e1:w64 (b.Al-1)=b.Al-1:=A5 (by omega)
  have e2:w64 (x.A+1)=x.A+1:=A5 (by omega)
  have e3:w64 ((b.Ac.length:Int)-1)=(b.Ac.length:Int)-1:=A5 (by omega)
  have e4:w64 ((b.Af.length:Int)-1)=(b.Af.length:Int)-1:=A5 (by omega)
  unfold Akj A1h A1g A1f
  rw [e1,e2,e3,e4,hcnt,bet (x:=x.A) (by omega)]
  simp only [bi,cond_false]
  rcases hk with⟨hk,h1,h2⟩ | ⟨hk,h1,h2⟩ | ⟨hk,h1,h2⟩
  ·rw [hk,bet (x:=x.B) (lo:=x.A+1) (by omega)];rfl
  ·rw [hk,bet (x:=x.B) (lo:=0) (hi:=(b.Ac.length:Int)-1) (by omega)];rfl
  ·rw [hk, bet (x := x.B) (lo := 0) (hi := (b.Af.length : Int) - 1) (by omega)]
   have hcut:cutI b.Ad 0 (j:Int)=some (b.Ad.take j):=by
    refine d5 ((Ok.cutI (by omega) (by omega) (by omega)).mono λ y hy=>?_)
    rw [hy];simp
   show ((cutI b.Ad 0 (j:Int)).bind λ y9=>andThen (foldI (vH x) y9 0 ()) (λ v=>some (Ctl.ret v)) λ z1=>some (Ctl.next ()))=some (Ctl.next ())
   rw [hcut]
   simp only [ab]
   rw [Dz _ 0 λ m y hy=>?_]
   ·rfl
   ·have hml:m<j:=by
     have:=(aa.1 hy).1
     simp only [aK] at this;omega
    have hyb:b.Ad[m]? = some y:=by
     rw [ap,if_pos hml] at hy;exact hy
    unfold vH
    have hne:Ap0 x y=false:=by
     unfold Ap0
     rw [cf]
     intro e
     simp only [bA,ac,dz] at e
     obtain⟨e1,e2,e3⟩:=e
     have hn:=h.nodup x.B.toNat
     have hsplit:b.Ad=b.Ad.take j++(x::b.Ad.drop (j+1)):=by
      conv=>lhs;rw [←ct j b.Ad]
      rw [cK hjl]
      have:b.Ad[j]=x:=by
       rw [af hjl] at hj;cases hj;rfl
      rw [this]
     rw [hsplit,Hh,bo] at hn
     have hBn:x.B=(x.B.toNat:Int):=by omega
     have hmem1:y.A∈(brs (b.Ad.take j) 3 x.B.toNat).map (·.A):=by
      refine an.2 ⟨y,?_,rfl⟩
      unfold brs
      refine ao.2 ⟨ae hy,?_⟩
      rw [e1,hk,e3,←hBn];simp
     have hmem2:x.A∈(brs (x::b.Ad.drop (j+1)) 3 x.B.toNat).map (·.A):=by
      refine an.2 ⟨x,?_,rfl⟩
      unfold brs
      refine ao.2 ⟨ag,?_⟩
      rw [hk,←hBn];simp
     exact (List.nodup_append.1 hn).2.2 _ hmem1 _ hmem2 e2
    rw [hne];rfl
theorem Alx {b:Aa} (h:Ap b):F96 b=some true:=by
 unfold F96
 rw [Dz b.Ac 0 λ j x hj=>?_]
 ·rfl
 ·obtain⟨h1,h2,h3⟩:=h.so x (ae hj)
  unfold Akg A1e
  rw [bet h1,bet h2,bet h3];rfl
theorem Ad0 {b:Aa} (h:Ap b):F97 b=some true:=by
 have hcl:=h.col
 unfold F97
 rw [Dz b.Af 0 λ j x hj=>?_]
 ·rfl
 ·obtain⟨h1,h2,h3,h4,h5,h6,h7⟩:=h.co j x hj
  have hjl:=(aa.1 hj).1
  rw [aE]
  have hcnt:cnt 0 j=(j:Int):=Co (by omega)
  unfold Akf A1d
  rw [bet h1,bet h2,bet h3,bet h4]
  have hd:decide ((x.Needs.length:Int)>4)=false:=by simp;omega
  rw [hd]
  simp only [bi,Bool.or_false,cond_false]
  rw [Dz x.Needs 0 λ m n hm=>?_]
  ·rfl
  ·have hml:=(aa.1 hm).1
   rw [aE]
   have hcm:cnt 0 m=(m:Int):=Co (by omega)
   have hn:=h6 n (ae hm)
   unfold Ake A1c
   rw [hcnt,hcm,A5 (n:=(j:Int)-1) (by omega),bet (x:=n) (by omega)]
   cases m with
   | zero=>rfl
   | succ m=>
    obtain⟨a,ha⟩:∃ a,x.Needs[m]? = some a:=⟨_,af (by omega)⟩
    have hlt:=h7 m a n ha hm
    have e:w64 (((m+1:Nat):Int)-1)=(m:Int):=by rw [A5 (by omega)];omega
    have hp:decide (((m+1:Nat):Int)>0)=true:=dC (by omega)
    have hq:decide (a>=n)=false:=by simp;omega
    rw [e,A8 ha,hp]
    simp [Az,Cn,hq]
theorem Yv {b:Aa} (h:Ap b):F45 b=some 0:=by
 have h1:=h.buses
 have h2:=h.brl
 have h3:=h.sol
 have h4:=h.col
 have h5:=h.phase
 have h6:=h.freq
 unfold F45
 rw [Ahc h,Alx h,Ad0 h]
 have e:Ap2 b=false:=by
  rw [cf];intro e
  simp [Ap2] at e;omega
 have e2:Ap1 b true true true=false:=by
  rw [cf];intro e
  simp [Ap1] at e;omega
 rw [e]
 simp only [cond_false,ab]
 have g1:(Az [(!true,false)] (some true) default:Option Bool)=some true:=rfl
 have g2:(Az [(!true || !true,false)] (some true) default:Option Bool)=some true:=rfl
 rw [g1,ab,g2,ab,e2];rfl
theorem Abc (i:Nat) (C:List Bool):∀ (l:List Ah) (c:List Bool) (k:Nat),C.drop k=c->l.length=c.length ->
  (((l.zipIdx k).filter λ z=>z.1.Kind==3&&z.1.B==(i:Int)).filter λ z=>C.getD z.2 false).length=(Ca l c i).length
 | [],_,_,_,_=>by simp [Ca]
 | x::l,[],_,_,h=>by simp at h
 | x::l,v::c,k,hd,h=>by
  have hv:C[k]? = some v:=by
   have:=congrArg (·[0]?) hd
   simpa [List.getElem?_drop] using this
  have hd':C.drop (k+1)=c:=by rw [←bT,hd];rfl
  have ih:=Abc i C l c (k+1) hd' (by simpa using h)
  have hg:C.getD k false=v:=by simp [List.getD,hv]
  simp only [List.zipIdx_cons,bn,Ca,bF] at ih ⊢
  cases hq:(x.Kind==3&&x.B==(i:Int)) with
  | false=>simpa only [Bool.false_and,bO,if_false] using ih
  | true=>
   simp only [if_true,bn,hg]
   cases v with
   | false=>simpa only [Bool.and_false,bO,if_false] using ih
   | true=>simpa only [Bool.and_self,if_true,aS,Nat.add_right_cancel_iff] using ih
theorem Hc {b:Aa} (h:Ap b) {p:Ab} (hp:Ao b p):F11 b p=some 0:=by
 have h3:=h.sol
 have h4:=h.col
 have hbl:=h.brl
 have hncl:=hp.ncl
 have hnso:=hp.nso
 have hnli:=hp.nli
 refine d5 ?_
 unfold F11
 rw [Yv h]
 simp only [ab]
 refine c4 (λ hc=>by simp at hc) (λ _=>c4 (λ hc=>?_) (λ _=>?_))
 ·simp [A12,hncl,hnso,hnli] at hc
 rw [Dz p.Ac 0 λ j x hj=>?_]
 ·rw [show ∀ (f : Unit -> Option Int), andThen (some (Ctl.next ()) : Option (Ctl Unit Int)) some f = f () from λ _ => rfl]
  rw [Dz p.Am 0 λ j x hj=>?_]
  ·rw [show ∀ (f : Unit -> Option Int), andThen (some (Ctl.next ()) : Option (Ctl Unit Int)) some f = f () from λ _ => rfl]
   have hlen:=hp.brk.len
   refine c4 (λ hc=>?_) (λ _=>?_)
   ·simp only [dx] at hc;omega
   rw [Dz p.Ai 0 λ j x hj=>?_]
   ·rw [show ∀ (f:Unit->Option Int),andThen (some (Ctl.next ()):Option (Ctl Unit Int)) some f=f () from λ _=>rfl]
    refine Ok.andThen (A:=λ _=>True) (B:=λ (_:Int)=>False) ?_ (λ _ _=>Ok.pure rfl) (λ _ h=>h.elim)
    refine c8 (λ s=>0<=s/\s<=(b.Af.length:Int)) (λ s=>((b.Af.length:Int)-s).toNat) _ (0:Int) (by omega) (by omega) ?_
    rintro i ⟨g1,g2⟩
    unfold All A1z
    refine c4 (λ hq=>?_) (λ _=>cX trivial)
    simp only [dx] at hq
    obtain⟨n,rfl⟩:∃ n:Nat,i=(n:Int):=⟨i.toNat,by omega⟩
    rw [zD h]
    simp only [ab]
    have hone:=hp.one n (by omega)
    have hz:ofL b (λ x=>Kk 3 (n:Int) x)=((b.Ad.zipIdx.filter λ z=>z.1.Kind==3&&z.1.B==(n:Int)).map λ z=>(z.2:Int)):=by
     unfold ofL
     congr 1
     exact cy λ z _=>Ayj 3 (by decide) n z.1
    have hzf:=Abc n p.Ae b.Ad p.Ae 0 rfl (by omega)
    rw [hz]
    have hin:∀ z,z∈(b.Ad.zipIdx.filter λ z=>z.1.Kind==3&&z.1.B==(n:Int))->z.2<p.Ae.length:=by
     rintro⟨x,j⟩ hm
     have:=(ao.1 hm).1
     rw [bH] at this
     have:=(aa.1 this).1
     dsimp only;omega
    have hsz:(b.Ad.zipIdx.filter λ z=>z.1.Kind==3&&z.1.B==(n:Int)).length<=24:=aC (bp _ _) (by simpa using hbl)
    generalize hm:(b.Ad.zipIdx.filter λ z=>z.1.Kind==3&&z.1.B==(n:Int))=m at hin hsz hzf
    refine (c6 (xs:=m.map λ z=>(z.2:Int)) (I:=λ j s=>s=(((m.take j).filter λ z=>p.Ae.getD z.2 false).length:Int)) (A:=λ s=>s=((m.filter λ z=>p.Ae.getD z.2 false).length:Int)) (B:=λ (_:Unit)=>False) rfl (λ j x s hx hs=>?_) λ s hs=>?_).inner (λ s hs=>?_) (λ _ h=>h.elim)
    ·rw [aA,cG] at hx
     obtain⟨z,hz,rfl⟩:=hx
     have hzl:=hin z (ae hz)
     obtain⟨v,hv⟩:∃ v,p.Ae[z.2]? = some v:=⟨_,af hzl⟩
     have hg:p.Ae.getD z.2 false=v:=by simp [List.getD,hv]
     have hle:((m.take j).filter λ z=>p.Ae.getD z.2 false).length<=24:=aC (bp _ _) (by simp;omega)
     unfold Alk
     rw [A8 hv,Bi hz,bm]
     simp only [ab]
     refine c4 (λ hq=>c5 ?_) (λ hq=>c5 ?_)
     ·rw [hs,A5 (by omega),bn,hg,if_pos hq]
      simp
     ·rw [hs,bn,hg,if_neg (ff hq)]
      simp
    ·rw [ax,ay] at hs;exact hs
    ·rw [hs,hzf,A5 (by omega)]
     refine c4 (λ hc=>?_) (λ _=>c5 ⟨by omega,by omega⟩)
     simp only [dx] at hc;omega
   ·have hjl:=(aa.1 hj).1
    rw [aE]
    have hcnt:cnt 0 j=(j:Int):=Co (by omega)
    unfold Alm A10
    rw [(uA h x).2 (hp.brk.mem x (ae hj)),hcnt]
    cases j with
    | zero=>rfl
    | succ j=>
     obtain⟨a,ha⟩:∃ a,p.Ai[j]? = some a:=⟨_,af (by omega)⟩
     have hlt:=hp.brk.asc j a x ha hj
     have e:w64 (((j+1:Nat):Int)-1)=(j:Int):=by rw [A5 (by omega)];omega
     have hpz:decide (((j+1:Nat):Int)>0)=true:=dC (by omega)
     have hb:F48 a x=true:=by
      unfold F48
      unfold Q4 at hlt
      simp only [aB,ac,dx,dz]
      exact hlt
     rw [e,A8 ha,hpz]
     simp [Az,Cn,hb]
  ·have hjl:=(aa.1 hj).1
   rw [aE]
   have hcnt:cnt 0 j=(j:Int):=Co (by omega)
   obtain⟨c,hc⟩:∃ c,b.Af[j]? = some c:=⟨_,af (by omega)⟩
   unfold Aln
   rw [hcnt,A8 hc]
   simp only [ab]
   rw [bet (hp.lim j x c hj hc)];rfl
 ·have hr:=hp.run x (ae hj)
  unfold Alo A11
  rw [bet hr.1,bet hr.2.1,bet hr.2.2.1,bet hr.2.2.2];rfl
theorem Avb {l:List As} {n:Nat} {x:As} (h:l[n]? = some x):Eu (l.take n++l.drop (n+1)) n x=l:=by
 have hn:=(aa.1 h).1
 have ht:(l.take n).length=n:=by simp;omega
 unfold Eu
 rw [ce (by omega),List.take_take,Nat.min_self,List.drop_append_of_le_length (by omega),List.drop_of_length_le (by omega),cL]
 conv=>rhs;rw [←ct n l]
 rw [cK hn]
 have:l[n]=x:=by rw [af hn] at h;cases h;rfl
 rw [this]
theorem L_ {l:List As} {n j:Nat} (hn:n<l.length) {y:As} (h:(l.take n++l.drop (n+1))[j]? = some y):(j<n/\l[j]? = some y)\/(n<=j/\l[j+1]? = some y):=by
 have ht:(l.take n).length=n:=by simp;omega
 rw [bZ] at h
 split at h
 ·rename_i h1
  rw [ht] at h1
  rw [ap,if_pos h1] at h
  exact .inl ⟨h1,h⟩
 ·rename_i h1
  rw [ht] at h1 h
  rw [ar] at h
  refine .inr ⟨by omega,?_⟩
  rw [←h];congr 1;omega
theorem Azu {b:Aa} (h:Ap b) {l:List As} (hl:Ev b l) {n:Nat} (hn:n<l.length):Ev b (l.take n++l.drop (n+1)):=by
 have hs:=H6 h hl
 have hsm:∀ y,y∈l->Cp y:=λ y hy=>(hl.mem y hy).small h
 have hlen:=hl.len
 refine⟨by simp;omega,λ y hy=>?_,λ j y z hy hz=>?_⟩
 ·rcases aq.1 hy with hy | hy
  ·exact hl.mem y (aV hy)
  ·exact hl.mem y (cw hy)
 ·rcases L_ hn hy with⟨a1,a2⟩ | ⟨a1,a2⟩ <;> rcases L_ hn hz with⟨b1,b2⟩ | ⟨b1,b2⟩
  ·exact hl.asc j y z a2 b2
  ·exact (Aea (hsm y (ae a2)) (hsm z (ae b2))).2 (hs j (j+1+1) y z (by omega) a2 b2)
  ·omega
  ·exact hl.asc (j+1) y z a2 b2
theorem Azv {b:Aa} (h:Ap b) {l:List As} (hl:Ev b l) {n:Nat} {x:As} (hx:l[n]? = some x):At (l.take n++l.drop (n+1)) x n/\(l.take n++l.drop (n+1))[n]? ≠ some x:=by
 have hs:=H6 h hl
 have hn:=(aa.1 hx).1
 refine⟨⟨by simp;omega,λ j y hj hy=>?_,λ j y hj hy=>?_⟩,λ e=>?_⟩
 ·rcases L_ hn hy with⟨_,a2⟩ | ⟨a1,_⟩
  ·exact hs j n y x hj a2 hx
  ·omega
 ·rcases L_ hn hy with⟨a1,_⟩ | ⟨_,a2⟩
  ·omega
  ·have:=hs n (j+1) x y (by omega) hx a2;omega
 ·rcases L_ hn e with⟨a1,_⟩ | ⟨_,a2⟩
  ·omega
  ·have:=hs n (n+1) x x (by omega) hx a2;omega
theorem A3e {b:Aa} (h:Ap b) {p:Ab} (hp:Ao b p) (t:Int) {x:As} (hx:Cd b x) (v:Bool):Ok (G7 ⟨b,p,t⟩ x v) (Xz b):=by
 obtain⟨n,hat⟩:=A8d h hp.brk hx
 have hlen:=hp.brk.len
 have hsearch:=Oz (H6 h hp.brk) (λ y hy=>(hp.brk.mem y hy).small h) (hx.small h) (by omega)
 have hbad:∀ (hv:(p.Ai[n]? = some x)↔v=true),Ok (G7 ⟨b,p,t⟩ x v) (Xz b):=by
  intro hv
  unfold G7
  refine hsearch.bind λ y hy=>?_
  obtain⟨m,e1,hat2,hf⟩:=hy
  have e2:=hat.uniq hat2
  subst e2
  have:y.2=v:=by
   rw [aZ];exact hf.trans hv
  rw [this]
  exact c4 (λ _=>Ok.pure (.inl (by simp))) (λ hc=>by simp at hc)
 by_cases hin:p.Ai[n]? = some x
 ·cases v with
  | true=>exact hbad ⟨λ _=>rfl,λ _=>hin⟩
  | false=>
   have hn:=(aa.1 hin).1
   have he:=Azv h hp.brk hin
   have hq:Ao b ⟨p.Ae,p.Ac,p.Am,p.Ai.take n++p.Ai.drop (n+1)⟩:={ncl:=hp.ncl,nso:=hp.nso,nli:=hp.nli,run:=hp.run,lim:=hp.lim,one:=hp.one,brk:=Azu h hp.brk hn}
   have:=A23 h (p:=⟨p.Ae,p.Ac,p.Am,p.Ai.take n++p.Ai.drop (n+1)⟩) hq.brk (q:=p) hx t he.1 he.2 (by simp;omega) (Avb hin).symm hp.nso
   rw [this]
   refine Ok.pure (.inr ?_)
   exact H0 hq (Ve _ _ _) (Aig hp.run (λ hk=>by have:=hp.nso;unfold Cd at hx;omega) (by omega))
 ·cases v with
  | false=>exact hbad ⟨λ e=>absurd e hin,λ e=>by cases e⟩
  | true=>
   by_cases hl:p.Ai.length<32
   ·rw [A3f h hp hx t hat hin hl]
    exact Ok.pure (.inr (Apl h hp hx hat hin hl))
   ·unfold G7
    refine hsearch.bind λ y _=>c4 (λ _=>Ok.pure (.inl (by simp))) (λ _=>c4 (λ _=>Ok.pure (.inl (by simp))) (λ hc=>?_))
    simp [Sw] at hc;omega
def A5m:Ab:=⟨[],[],[],[]⟩
theorem Aza {b:Aa} (a:Ak):Ok (F62 b a) λ y=>y=true->((a.Kind=1\/a.Kind=2)->Cd b ⟨2,a.Unit⟩)/\((a.Kind=3\/a.Kind=4)->Cd b ⟨1,a.Unit⟩)/\(a.Kind=5->Cd b ⟨4,a.Unit⟩)/\((a.Kind=8\/a.Kind=9)->Cd b ⟨a.Value,a.Unit⟩):=by
 unfold F62
 refine Ok.andThen (A:=λ z=>z=true↔(a.Kind=1\/a.Kind=2)) (B:=λ (_:Unit)=>False) ?_ (λ z hz=>?_) (λ _ h=>h.elim)
 ·unfold Aky
  refine c4 (λ hk=>d9 ?_) (λ hk=>d9 ?_)
  ·simp only [dz] at hk ⊢;omega
  ·simp only [dA,ne_eq] at hk
   simp only [dz];omega
 refine c4 (λ hq=>Ok.pure λ hk=>?_) (λ hq=>?_)
 ·have:=hz.1 hq
  have hk:=(H_ b _ _).1 hk
  exact⟨λ _=>hk,λ e=>by omega,λ e=>by omega,λ e=>by omega⟩
 have hn12:¬(a.Kind=1\/a.Kind=2):=λ e=>by rw [hz.2 e] at hq;cases hq
 refine Ok.andThen (A:=λ z=>z=true↔(a.Kind=3\/a.Kind=4)) (B:=λ (_:Unit)=>False) ?_ (λ z hz=>?_) (λ _ h=>h.elim)
 ·unfold Akx
  refine c4 (λ hk=>d9 ?_) (λ hk=>d9 ?_)
  ·simp only [dz] at hk ⊢;omega
  ·simp only [dA,ne_eq] at hk
   simp only [dz];omega
 refine c4 (λ hq=>Ok.pure λ hk=>?_) (λ hq=>?_)
 ·have:=hz.1 hq
  have hk:=(H_ b _ _).1 hk
  exact⟨λ e=>by omega,λ _=>hk,λ e=>by omega,λ e=>by omega⟩
 have hn34:¬(a.Kind=3\/a.Kind=4):=λ e=>by rw [hz.2 e] at hq;cases hq
 refine c4 (λ hq=>Ok.pure λ hk=>?_) (λ hq5=>c4 (λ hq=>Ok.pure λ _=>?_) (λ hq6=>c4 (λ hq=>Ok.pure λ hk=>?_) (λ hq8=>c4 (λ hq=>Ok.pure λ hk=>?_) (λ hq9=>Ok.pure λ _=>?_))))
 ·simp only [dz] at hq
  have hk:=(H_ b _ _).1 hk
  exact⟨λ e=>by omega,λ e=>by omega,λ _=>hk,λ e=>by omega⟩
 ·simp only [dz] at hq
  exact⟨λ e=>by omega,λ e=>by omega,λ e=>by omega,λ e=>by omega⟩
 ·have hk:=(H_ b _ _).1 hk
  simp only [dz] at hq
  exact⟨λ e=>by omega,λ e=>by omega,λ e=>by omega,λ _=>hk⟩
 ·have hk:=(H_ b _ _).1 hk
  simp only [dz] at hq
  exact⟨λ e=>by omega,λ e=>by omega,λ e=>by omega,λ _=>hk⟩
 ·simp only [dA,ne_eq] at hq5 hq8 hq9
  exact⟨λ e=>by omega,λ e=>by omega,λ e=>by omega,λ e=>by omega⟩
theorem A8a {b:Aa} (h:Ap b) {p:Ab} (hp:Ao b p) {t:Int} (ht:0<=t/\t<=2147483648) {a:Ak} (hk:1<=a.Kind/\a.Kind<=9)
  (hw:((a.Kind=1\/a.Kind=2)->Cd b ⟨2,a.Unit⟩)/\((a.Kind=3\/a.Kind=4)->Cd b ⟨1,a.Unit⟩)/\(a.Kind=5->Cd b ⟨4,a.Unit⟩)/\((a.Kind=8\/a.Kind=9)->Cd b ⟨a.Value,a.Unit⟩)):Ok (Kn ⟨b,p,t⟩ a) (Xz b):=by
 obtain⟨w1,w2,w3,w4⟩:=hw
 unfold Cd at w2 w3
 dsimp only at w2 w3
 unfold Kn
 refine c4 (λ _=>(Az5 h hp _).bind λ y hy=>Ok.pure hy) (λ q1=>?_)
 refine c4 (λ _=>(A2z h hp _).bind λ y hy=>Ok.pure hy) (λ q2=>?_)
 refine c4 (λ _=>(Ayz h hp _ _).bind λ y hy=>Ok.pure hy) (λ q6=>?_)
 refine c4 (λ q=>?_) (λ q3=>?_)
 ·simp only [dz] at q
  exact (Ax9 h hp ht (by omega) (by omega)).bind λ y hy=>Ok.pure hy
 refine c4 (λ q=>?_) (λ q4=>?_)
 ·simp only [dz] at q
  exact (A2i h hp (by omega) (by omega)).bind λ y hy=>Ok.pure hy
 refine c4 (λ q=>?_) (λ q5=>?_)
 ·simp only [dz] at q
  exact (Ay6 hp (by omega) (by omega)).bind λ y hy=>Ok.pure hy
 refine c4 (λ _=>(Amf h hp t).bind λ y hy=>Ok.pure (.inr hy)) (λ q7=>?_)
 simp only [dA,ne_eq] at q1 q2 q3 q4 q5 q6 q7
 exact (A3e h hp t (w4 (by omega)) _).bind λ y hy=>Ok.pure hy
theorem A60 {b:Aa} (h:Ap b) {p:Ab} (hp:Ao b p) (t:Int) (a:Ak):Ok (F27 b p t a) λ y=>(y.2≠0/\y.1=A5m)\/(y.2=0/\Ao b y.1):=by
 unfold F27
 rw [B4 h hp,C3 h hp]
 simp only [ab]
 refine c4 (λ hc=>by simp at hc) (λ _=>c4 (λ _=>Ok.pure (.inl ⟨by simp,rfl⟩)) (λ hr=>?_))
 simp only [Aej,bk,dy] at hr
 refine (Aza a).bind λ y hy=>c4 (λ _=>Ok.pure (.inl ⟨by simp,rfl⟩)) (λ hk=>?_)
 simp only [cg] at hk
 refine (A8a h hp (by omega) (by omega) (hy hk)).bind λ z hz=>c4 (λ hc=>Ok.pure (.inl ⟨by simpa using hc,rfl⟩)) (λ hc=>?_)
 simp only [dE] at hc
 rcases hz with hz | hz
 ·exact absurd hc hz
 ·exact Ok.pure (.inr ⟨rfl,hz⟩)

abbrev Dg:=List (Ah×Bool)
def Tie (L:Dg) (i j:Nat):Prop:=∃ z,z∈L/\z.1.Kind=1/\z.2=true/\((z.1.A.toNat=i/\z.1.B.toNat=j)\/(z.1.A.toNat=j/\z.1.B.toNat=i))
theorem Tie.symm {L:Dg} {i j:Nat} (h:Tie L i j):Tie L j i:=by
 obtain⟨z,h1,h2,h3,h4⟩:=h
 exact⟨z,h1,h2,h3,h4.symm⟩
inductive De (L:Dg) (i:Nat):Nat->Nat->Prop
 | refl:De L i 0 i
 | stay {r j:Nat}:De L i r j->De L i (r+1) j
 | step {r j k:Nat}:De L i r j->Tie L j k->De L i (r+1) k
def Bm (L:Dg) (i j:Nat):Prop:=∃ r,De L i r j
theorem Bm.refl (L:Dg) (i:Nat):Bm L i i:=⟨0,.refl⟩
theorem Bm.tie {L:Dg} {i j k:Nat} (h:Bm L i j) (t:Tie L j k):Bm L i k:=by
 obtain⟨r,h⟩:=h;exact⟨r+1,h.step t⟩
theorem Bm.trans {L:Dg} {i j k:Nat} (h:Bm L i j) (h2:Bm L j k):Bm L i k:=by
 obtain⟨r,h2⟩:=h2
 induction h2 with
 | refl=>exact h
 | stay _ ih=>exact ih
 | step _ t ih=>exact ih.tie t
theorem Bm.symm {L:Dg} {i j:Nat} (h:Bm L i j):Bm L j i:=by
 obtain⟨r,h⟩:=h
 induction h with
 | refl=>exact .refl L i
 | stay _ ih=>exact ih
 | step _ t ih=>exact (Bm.tie (.refl L _) t.symm).trans ih
theorem De.le {L:Dg} {i j r s:Nat} (h:De L i r j) (hs:r<=s):De L i s j:=by
 induction s with
 | zero=>
  have:r=0:=by omega
  subst this;exact h
 | succ s ih=>
  by_cases e:r=s+1
  ·subst e;exact h
  ·exact (ih (by omega)).stay
open Classical in
noncomputable def cn (p:Nat->Prop):Nat->Nat
 | 0=>0
 | n+1=>cn p n+if p n then 1 else 0
theorem A1a (p:Nat->Prop):∀ n,cn p n<=n
 | 0=>au _
 | n+1=>by have:=A1a p n;unfold cn;split <;> omega
theorem Aag {p q:Nat->Prop}:∀ n,(∀ k,k<n->p k->q k)->cn p n<=cn q n
 | 0,_=>au _
 | n+1,h=>by
  have:=Aag n λ k hk=>h k (by omega)
  have h1:=h n (by omega)
  unfold cn
  by_cases hp:p n
  ·rw [if_pos hp,if_pos (h1 hp)];omega
  ·rw [if_neg hp];split <;> omega
theorem Apu {p q:Nat->Prop}:∀ n,(∀ k,k<n->p k->q k)->cn p n=cn q n->∀ k,k<n->q k->p k
 | 0,_,_,k,hk,_=>by omega
 | n+1,h,e,k,hk,hq=>by
  have hm:=Aag n λ k hk=>h k (by omega)
  have h1:=h n (by omega)
  unfold cn at e
  by_cases hp:p n
  ·rw [if_pos hp,if_pos (h1 hp)] at e
   by_cases ek:k=n
   ·subst ek;exact hp
   ·exact Apu n (λ k hk=>h k (by omega)) (by omega) k (by omega) hq
  ·rw [if_neg hp] at e
   by_cases hqn:q n
   ·rw [if_pos hqn] at e;omega
   ·rw [if_neg hqn] at e
    by_cases ek:k=n
    ·subst ek;exact absurd hq hqn
    ·exact Apu n (λ k hk=>h k (by omega)) (by omega) k (by omega) hq
def uZ (L:Dg) (n:Nat):Prop:=∀ i j,Tie L i j->i<n/\j<n
theorem Ss {L:Dg} {n i j:Nat} (hL:uZ L n) (_:i<n) (h:Bm L i j):De L i n j:=by
 have hst:∃ r,r<=n/\∀ k,k<n->De L i (r+1) k->De L i r k:=by
  by_cases hex:∃ r,r<=n/\∀ k,k<n->De L i (r+1) k->De L i r k
  ·exact hex
  exfalso
  have hgrow:∀ r,r<=n->cn (De L i r) n<cn (De L i (r+1)) n:=by
   intro r hr
   have hm:=Aag (p:=De L i r) (q:=De L i (r+1)) n λ k _ h=>h.stay
   rcases Nat.lt_or_eq_of_le hm with h | h
   ·exact h
   ·exact absurd ⟨r,hr,Apu n (λ k _ h=>h.stay) h⟩ hex
  have hge:∀ r,r<=n+1->r<=cn (De L i r) n:=by
   intro r
   induction r with
   | zero=>intro _;omega
   | succ r ih=>intro hr;have:=ih (by omega);have:=hgrow r (by omega);omega
  have h1:=hge (n+1) (au _)
  have h2:=A1a (De L i (n+1)) n
  omega
 obtain⟨r,hr,hs⟩:=hst
 obtain⟨s,h⟩:=h
 have key:∀ s k,De L i s k->De L i r k:=by
  intro s k h
  induction h with
  | refl=>exact De.refl.le (by omega)
  | stay _ ih=>exact ih
  | step h0 t ih=>exact hs _ (hL _ _ t).2 (ih.step t)
 exact (key s j h).le hr
def Bb (b:Aa) (p:Ab):Dg:=b.Ad.zip p.Ae
theorem P5 {b:Aa} (h:Ap b) (p:Ab):uZ (Bb b p) b.Al.toNat:=by
 rintro i j ⟨z,hz,hk,_,he⟩
 have:=h.br z.1 (b9 hz).1
 unfold Jp at this
 omega
theorem Azp {s:List Int} {i:Nat} (h:i<s.length):s[i]? = some (s.getD i 0):=by
 rw [af h];simp [List.getD,List.getElem?_eq_getElem h]
theorem U7 {s:List Int} {z:Ah×Bool} {i:Nat} (hi:i<s.length):(D9 s z).getD i 0=if (z.1.Kind=1/\z.2=true)/\(i=z.1.A.toNat\/i=z.1.B.toNat) then min (s.getD z.1.A.toNat 0) (s.getD z.1.B.toNat 0) else s.getD i 0:=by
 unfold D9
 by_cases hk:z.1.Kind=1/\z.2=true
 ·rw [if_pos hk]
  by_cases hB:i=z.1.B.toNat
  ·rw [if_pos ⟨hk,.inr hB⟩]
   simp [List.getD,←hB,hi]
  ·by_cases hA:i=z.1.A.toNat
   ·rw [if_pos ⟨hk,.inl hA⟩]
    have h1:¬z.1.B.toNat=i:=λ e=>hB e.symm
    simp only [List.getD,aQ h1]
    rw [←hA,bG hi];rfl
   ·rw [if_neg (λ e=>e.2.elim hA hB)]
    have h1:¬z.1.B.toNat=i:=λ e=>hB e.symm
    have h2:¬z.1.A.toNat=i:=λ e=>hA e.symm
    simp only [List.getD,aQ h1,aQ h2]
 ·rw [if_neg hk,if_neg (λ e=>hk e.1)]
def Lab (L:Dg) (s:List Int):Prop:=∀ i,i<s.length->Bm L (s.getD i 0).toNat i
theorem Aut {L:Dg} {s:List Int} (h:Lab L s) {z:Ah×Bool} (hz:z∈L) (hr:z.1.Kind=1->z.1.A.toNat<s.length/\z.1.B.toNat<s.length):Lab L (D9 s z):=by
 intro i hi
 rw [E5] at hi
 rw [U7 hi]
 split
 ·rename_i hc
  obtain⟨⟨hk,hv⟩,hab⟩:=hc
  obtain⟨ha,hb⟩:=hr hk
  have tAB:Tie L z.1.A.toNat z.1.B.toNat:=⟨z,hz,hk,hv,.inl ⟨rfl,rfl⟩⟩
  have c1:=h _ ha
  have c2:=h _ hb
  rcases Int.le_total (s.getD z.1.A.toNat 0) (s.getD z.1.B.toNat 0) with e | e
  ·rw [Int.min_eq_left e]
   rcases hab with rfl | rfl
   ·exact c1
   ·exact c1.tie tAB
  ·rw [Int.min_eq_right e]
   rcases hab with rfl | rfl
   ·exact c2.tie tAB.symm
   ·exact c2
 ·exact h i hi
theorem Sk {L:Dg} {n:Nat}:∀ (l:Dg) (s:List Int),s.length=n->(∀ z,z∈l->z∈L/\(z.1.Kind=1->z.1.A.toNat<n/\z.1.B.toNat<n))->Lab L s->Lab L (Cq l s)
 | [],_,_,_,h=>h
 | z::l,s,hs,hz,h=>Sk l (D9 s z) (by rw [E5];exact hs) (λ y hy=>hz y (ai _ hy)) (Aut h (hz z ag).1 (by rw [hs];exact (hz z ag).2))
theorem U8 {s:List Int} (z:Ah×Bool) {i:Nat} (hi:i<s.length):(D9 s z).getD i 0<=s.getD i 0:=by
 rw [U7 hi]
 split
 ·rename_i hc
  rcases hc.2 with rfl | rfl
  ·exact Int.min_le_left _ _
  ·exact cM _ _
 ·exact bB _
theorem Sl:∀ (l:Dg) (s:List Int) {i:Nat},i<s.length->(Cq l s).getD i 0<=s.getD i 0
 | [],_,_,_=>bB _
 | z::l,s,i,hi=>cz (Sl l (D9 s z) (by rw [E5];exact hi)) (U8 z hi)
theorem qV:∀ (l:Dg) (s:List Int) {z:Ah×Bool},z∈l->z.1.Kind=1->z.2=true->z.1.A.toNat<s.length->z.1.B.toNat<s.length->∀ i,i=z.1.A.toNat\/i=z.1.B.toNat->(Cq l s).getD i 0<=min (s.getD z.1.A.toNat 0) (s.getD z.1.B.toNat 0)
 | [],_,_,h,_,_,_,_,_,_=>by cases h
 | y::l,s,z,hz,hk,hv,ha,hb,i,hi=>by
  show (Cq l (D9 s y)).getD i 0<=_
  have hil:i<s.length:=by rcases hi with rfl | rfl <;> assumption
  by_cases e:z=y
  ·subst e
   refine cz (Sl l _ (by rw [E5];exact hil)) ?_
   rw [U7 hil,if_pos ⟨⟨hk,hv⟩,hi⟩]
   exact bB _
  ·have hz':z∈l:=by
    rcases aj.1 hz with h | h
    ·exact absurd h e
    ·exact h
   refine cz (qV l (D9 s y) hz' hk hv (by rw [E5];exact ha) (by rw [E5];exact hb) i hi) ?_
   have h1:=U8 y ha
   have h2:=U8 y hb
   omega
theorem Lw {n i:Nat} (h:i<n):(Cv n).getD i 0=(i:Int):=by
 simp [Cv,List.getD,List.getElem?_range h]
theorem Apg {L:Dg} {n:Nat} (hL:uZ L n):∀ r i j,i<n->j<n->De L j r i->((List.range r).foldl (λ s _=>Cq L s) (Cv n)).getD i 0<=(j:Int):=by
 intro r
 have hlen:∀ r,((List.range r).foldl (λ s _=>Cq L s) (Cv n)).length=n:=by
  intro r
  induction r with
  | zero=>simp [Cv]
  | succ r ih=>rw [bt,aN];simp only [aU,List.foldl_nil,Gc];exact ih
 induction r with
 | zero=>
  intro i j hi hj h
  cases h
  show (Cv n).getD i 0<=_
  rw [Lw hi]
  exact bB _
 | succ r ih=>
  intro i j hi hj h
  have hrl:=hlen r
  rw [bt,aN]
  simp only [aU,List.foldl_nil]
  generalize (List.range r).foldl (λ s _=>Cq L s) (Cv n)=s at *
  cases h with
  | stay h=>exact cz (Sl L s (by omega)) (ih i j hi hj h)
  | step h t=>
   rename_i k
   have hk:=hL _ _ t
   have h1:=ih k j hk.1 hj h
   obtain⟨z,hz,hz1,hz2,he⟩:=t
   have hA:z.1.A.toNat<s.length:=by omega
   have hB:z.1.B.toNat<s.length:=by omega
   have h2:=qV L s hz hz1 hz2 hA hB i (by omega)
   rcases he with⟨e1,e2⟩ | ⟨e1,e2⟩
   ·rw [e1] at h2;omega
   ·rw [e2] at h2;omega
theorem Ef {b:Aa} (h:Ap b) (p:Ab) {i j:Nat} (hi:i<b.Al.toNat) (hj:j<b.Al.toNat):(groups b p).getD i 0=(groups b p).getD j 0↔Bm (Bb b p) i j:=by
 have hL:=P5 h p
 have hlen:=Ho b p
 have hlab:Lab (Bb b p) (groups b p):=by
  have hz:∀ z,z∈Bb b p->z∈Bb b p/\(z.1.Kind=1->z.1.A.toNat<b.Al.toNat/\z.1.B.toNat<b.Al.toNat):=by
   intro z hz
   refine⟨hz,λ hk=>?_⟩
   have:=h.br z.1 (b9 hz).1
   unfold Jp at this
   omega
  have key:∀ (xs:List Nat) (s:List Int),s.length=b.Al.toNat->Lab (Bb b p) s->Lab (Bb b p) (xs.foldl (λ s _=>Cq (b.Ad.zip p.Ae) s) s):=by
   intro xs
   induction xs with
   | nil=>intro s _ h;exact h
   | cons x xs ih=>intro s hl h;exact ih _ (by rw [Gc];exact hl) (Sk _ s hl hz h)
  refine key _ _ (by simp [Cv]) ?_
  intro k hk
  have hk':k<b.Al.toNat:=by simpa [Cv] using hk
  rw [Lw hk']
  exact .refl _ k
 have hlow:∀ i j,i<b.Al.toNat->j<b.Al.toNat->Bm (Bb b p) j i->(groups b p).getD i 0<=(j:Int):=λ i j hi hj hc=>Apg hL _ i j hi hj (Ss hL hj hc)
 have hlo:=O_ h p
 have hrange:∀ i,i<b.Al.toNat->0<=(groups b p).getD i 0/\((groups b p).getD i 0).toNat<b.Al.toNat:=by
  intro i hi
  have:=hlo i _ (Azp (by omega))
  omega
 constructor
 ·intro e
  have c1:=hlab i (by omega)
  have c2:=hlab j (by omega)
  rw [e] at c1
  exact c1.symm.trans c2
 ·intro hc
  have r1:=hrange i hi
  have r2:=hrange j hj
  have c1:=hlab i (by omega)
  have c2:=hlab j (by omega)
  have l1:=hlow j _ hj r1.2 (c1.trans hc)
  have l2:=hlow i _ hi r2.2 (c2.trans hc.symm)
  omega
def Gt (s:List Bool) (z:Ah×Bool):List Bool:=
 if (z.1.Kind=1/\z.2=true)/\(s.getD z.1.A.toNat false || s.getD z.1.B.toNat false)=true then (s.set z.1.A.toNat true).set z.1.B.toNat true else s
theorem Fu (s:List Bool) (z:Ah×Bool):(Gt s z).length=s.length:=by unfold Gt;split <;> simp
def Hj (L:Dg) (s:List Bool):List Bool:=L.foldl Gt s
theorem Mg:∀ (l:Dg) (s:List Bool),(Hj l s).length=s.length
 | [],_=>rfl
 | z::l,s=>by show (Hj l (Gt s z)).length=_;rw [Mg l,Fu]
theorem Ayf {s:List Bool} {m i:Nat} (hi:i<s.length):(s.set m true).getD i false=(decide (m=i) || s.getD i false):=by
 by_cases e:m=i
 ·subst e;simp [List.getD,hi]
 ·simp [List.getD,List.getElem?_set_ne e,e]
theorem Lu {s:List Bool} {z:Ah×Bool} {i:Nat} (hi:i<s.length):(Gt s z).getD i false=true↔s.getD i false=true\/(((z.1.Kind=1/\z.2=true)/\(s.getD z.1.A.toNat false || s.getD z.1.B.toNat false)=true)/\(i=z.1.A.toNat\/i=z.1.B.toNat)):=by
 unfold Gt
 split
 ·rename_i hc
  rw [Ayf (by simpa using hi),Ayf hi,aB,aB,decide_eq_true_iff,decide_eq_true_iff]
  constructor
  ·rintro (e | e | e)
   ·exact .inr ⟨hc,.inr e.symm⟩
   ·exact .inr ⟨hc,.inl e.symm⟩
   ·exact .inl e
  ·rintro (e | ⟨_,e | e⟩)
   ·exact .inr (.inr e)
   ·exact .inr (.inl e.symm)
   ·exact .inl e.symm
 ·rename_i hc
  exact⟨.inl,λ e=>e.elim id λ e=>absurd e.1 hc⟩
def Got (L:Dg) (n:Nat) (s:List Bool):Prop:=∀ i,i<s.length->s.getD i false=true->Bm L n i
theorem At4 {L:Dg} {n:Nat} {s:List Bool} (h:Got L n s) {z:Ah×Bool} (hz:z∈L) (hr:z.1.Kind=1->z.1.A.toNat<s.length/\z.1.B.toNat<s.length):Got L n (Gt s z):=by
 intro i hi e
 rw [Fu] at hi
 rcases (Lu hi).1 e with e | ⟨⟨⟨hk,hv⟩,ho⟩,hab⟩
 ·exact h i hi e
 ·obtain⟨ha,hb⟩:=hr hk
  have t:Tie L z.1.A.toNat z.1.B.toNat:=⟨z,hz,hk,hv,.inl ⟨rfl,rfl⟩⟩
  simp only [aB] at ho
  rcases ho with ho | ho
  ·have c:=h _ ha ho
   rcases hab with rfl | rfl
   ·exact c
   ·exact c.tie t
  ·have c:=h _ hb ho
   rcases hab with rfl | rfl
   ·exact c.tie t.symm
   ·exact c
theorem qE {L:Dg} {n m:Nat}:∀ (l:Dg) (s:List Bool),s.length=m->(∀ z,z∈l->z∈L/\(z.1.Kind=1->z.1.A.toNat<m/\z.1.B.toNat<m))->Got L n s->Got L n (Hj l s)
 | [],_,_,_,h=>h
 | z::l,s,hs,hz,h=>qE l (Gt s z) (by rw [Fu];exact hs) (λ y hy=>hz y (ai _ hy)) (At4 h (hz z ag).1 (by rw [hs];exact (hz z ag).2))
theorem Rv:∀ (l:Dg) (s:List Bool) {i:Nat},i<s.length->s.getD i false=true->(Hj l s).getD i false=true
 | [],_,_,_,h=>h
 | z::l,s,_,hi,h=>Rv l (Gt s z) (by rw [Fu];exact hi) ((Lu hi).2 (.inl h))
theorem qD:∀ (l:Dg) (s:List Bool) {z:Ah×Bool},z∈l->z.1.Kind=1->z.2=true->z.1.A.toNat<s.length->z.1.B.toNat<s.length->(s.getD z.1.A.toNat false || s.getD z.1.B.toNat false)=true->∀ i,i=z.1.A.toNat\/i=z.1.B.toNat->(Hj l s).getD i false=true
 | [],_,_,h,_,_,_,_,_,_,_=>by cases h
 | y::l,s,z,hz,hk,hv,ha,hb,ho,i,hi=>by
  show (Hj l (Gt s y)).getD i false=true
  have hil:i<s.length:=by rcases hi with rfl | rfl <;> assumption
  by_cases e:z=y
  ·subst e
   exact Rv l _ (by rw [Fu];exact hil) ((Lu hil).2 (.inr ⟨⟨⟨hk,hv⟩,ho⟩,hi⟩))
  ·have hz':z∈l:=by
    rcases aj.1 hz with h | h
    ·exact absurd h e
    ·exact h
   refine qD l (Gt s y) hz' hk hv (by rw [Fu];exact ha) (by rw [Fu];exact hb) ?_ i hi
   simp only [aB] at ho ⊢
   exact ho.imp (λ e=>(Lu ha).2 (.inl e)) (λ e=>(Lu hb).2 (.inl e))
def Lv (L:Dg) (r:Nat) (s:List Bool):List Bool:=(List.range r).foldl (λ s _=>Hj L s) s
theorem Lh (L:Dg) (r:Nat) (s:List Bool):Lv L (r+1) s=Hj L (Lv L r s):=by
 unfold Lv;rw [bt,aN];rfl
theorem Ip (L:Dg) (s:List Bool):∀ r,(Lv L r s).length=s.length
 | 0=>rfl
 | r+1=>by rw [Lh,Mg,Ip L s r]
theorem Aon {L:Dg} {n m:Nat} (hL:uZ L m) {s:List Bool} (hs:s.length=m) (hn:s.getD n false=true):∀ r i,i<m->De L n r i->(Lv L r s).getD i false=true:=by
 intro r
 induction r with
 | zero=>intro i _ h;cases h;exact hn
 | succ r ih=>
  intro i hi h
  rw [Lh]
  have hl:=Ip L s r
  cases h with
  | stay h=>exact Rv L _ (by omega) (ih i hi h)
  | step h t=>
   rename_i k
   have hk:=hL _ _ t
   have h1:=ih k hk.1 h
   obtain⟨z,hz,hz1,hz2,he⟩:=t
   refine qD L _ hz hz1 hz2 (by omega) (by omega) ?_ i (by omega)
   rcases he with⟨e1,_⟩ | ⟨_,e2⟩
   ·rw [e1,h1];rfl
   ·rw [e2,h1];simp
def J6 (b:Aa) (p:Ab) (n:Nat):List Int:=((List.range b.Al.toNat).filter λ i=>(groups b p).getD i 0==(groups b p).getD n 0).map λ (i:Nat)=>(i:Int)
theorem Ayi {b:Aa} (h:Ap b) {p:Ab} (hp:Ao b p) {n:Nat} (hn:n<b.Al.toNat):F98 b p (n:Int)=some (J6 b p n):=by
 have hbu:=h.buses
 have hbl:=h.brl
 have hncl:=hp.ncl
 have hL:=P5 h p
 refine d5 ?_
 unfold F98
 refine (Ok.mkI (by omega) (by omega)).bind λ y hy=>?_
 have hyl:y.length=b.Al.toNat:=by rw [hy];simp
 refine (d8 (by omega) (by omega)).bind λ _ _=>(cV (by omega) (by omega)).bind λ z hz=>?_
 rw [ah] at hz
 have hzl:z.length=b.Al.toNat:=by rw [hz];simpa using hyl
 have hzn:z.getD n false=true:=by rw [hz];simp [List.getD,hyl,hn]
 have hzg:Got (Bb b p) n z:=by
  intro i hi e
  have hiy:i<y.length:=by omega
  rw [hz,Ayf hiy] at e
  simp only [aB,dx] at e
  rcases e with e | e
  ·subst e;exact .refl _ _
  ·rw [hy] at e;simp [List.getD,show i<b.Al.toNat by omega] at e
 clear hz
 refine Ok.andThen (A:=λ s=>s=Lv (Bb b p) b.Al.toNat z) (B:=λ (_:Unit)=>False) ?_ (λ s hs=>?_) (λ _ h=>h.elim)
 ·refine c6 (I:=λ j s=>s=Lv (Bb b p) j z) rfl (λ j x s hx hs=>?_) λ s hs=>by rw [hs,hzl]
  unfold Akd
  have hsl:s.length=b.Al.toNat:=by rw [hs,Ip,hzl]
  refine (c6 (I:=λ k r=>r=Hj ((Bb b p).take k) s) (A:=λ r=>r=Hj (Bb b p) s) (B:=λ (_:Unit)=>False) rfl (λ k u r hu hr=>?_) λ r hr=>?_).inner (λ r hr=>c5 (by rw [hr,hs,Lh])) (λ _ h=>h.elim)
  ·have hk:=(aa.1 hu).1
   have hcnt:cnt 0 k=(k:Int):=Co (by omega)
   have hrl:r.length=b.Al.toNat:=by rw [hr,Mg,hsl]
   obtain⟨⟨a0,a1⟩,hkind⟩:=h.br u (ae hu)
   obtain⟨v,hv⟩:∃ v,p.Ae[k]? = some v:=⟨_,af (by omega)⟩
   have hzk:(Bb b p)[k]? = some (u,v):=by unfold Bb;rw [List.getElem?_zip_eq_some];exact⟨hu,hv⟩
   have hnext:Hj ((Bb b p).take (k+1)) s=Gt r (u,v):=by
    rw [Bi hzk,Hj,aN,hr];rfl
   rw [hnext]
   have hB:u.Kind=1->0<=u.B/\u.B<b.Al:=λ e=>by omega
   unfold Akc
   rw [hcnt,A8 hv]
   by_cases k1:u.Kind=1
   ·have h2:=hB k1
    obtain⟨ga,hga⟩:∃ ga,r[u.A.toNat]? = some ga:=⟨_,af (by omega)⟩
    obtain⟨gb,hgb⟩:∃ gb,r[u.B.toNat]? = some gb:=⟨_,af (by omega)⟩
    have hda:r.getD u.A.toNat false=ga:=by simp [List.getD,hga]
    have hdb:r.getD u.B.toNat false=gb:=by simp [List.getD,hgb]
    have ea:getI r u.A=some ga:=by have:=A8 hga;rwa [az a0] at this
    have eb:getI r u.B=some gb:=by have:=A8 hgb;rwa [az h2.1] at this
    rw [dz.2 k1]
    refine Ok.bind (P:=λ w=>w=v) (cU (λ _=>Ok.pure rfl) λ hn=>(hn ⟨rfl,trivial⟩).elim) λ w hw=>?_
    subst hw
    cases w with
    | false=>
     refine Ok.bind (P:=λ _=>True) (d6 (λ _=>d8 a0 (by omega)) λ _=>trivial) λ _ _=>?_
     refine Ok.bind (P:=λ _=>True) (d6 (λ _=>d8 h2.1 (by omega)) λ _=>trivial) λ _ _=>?_
     refine c4 (λ hq=>by simp [uQ] at hq) (λ _=>c5 ?_)
     unfold Gt
     rw [if_neg (by simp)]
    | true=>
     rw [ea,eb]
     refine Ok.bind (P:=λ w=>w=ga) (cU (λ _=>Ok.pure rfl) λ hn=>(hn ⟨rfl,trivial⟩).elim) λ w hw=>?_
     subst hw
     refine Ok.bind (P:=λ x=>(w || x)=(w || gb)) (cU (λ _=>Ok.pure rfl) λ hn=>?_) λ x hx=>?_
     ·cases w with
      | true=>rfl
      | false=>exact (hn ⟨rfl,rfl,trivial⟩).elim
     have hc8:uQ u true w x=(w || gb):=by
      unfold uQ
      rw [hx,dz.2 k1];rfl
     rw [hc8]
     refine c4 (λ hq=>?_) (λ hq=>c5 ?_)
     ·refine Ok.bind (P:=λ _=>True) (dh rfl) λ _ _=>(cV a0 (by omega)).bind λ r1 e1=>?_
      refine (d8 h2.1 (by rw [e1];simp;omega)).bind λ _ _=>(cV h2.1 (by rw [e1];simp;omega)).bind λ r2 e2=>c5 ?_
      rw [e2,e1]
      unfold Gt
      rw [if_pos ⟨⟨k1,rfl⟩,by rw [hda,hdb];exact hq⟩]
     ·unfold Gt
      rw [if_neg (λ e=>by have:=e.2;rw [hda,hdb,hq] at this;cases this)]
   ·have k0:(u.Kind==1)=false:=dA.2 k1
    rw [k0]
    refine Ok.bind (P:=λ _=>True) (cU (λ hg=>absurd hg.1 (by simp)) λ _=>trivial) λ y7 _=>?_
    refine Ok.bind (P:=λ _=>True) (cU (λ hg=>absurd hg.1 (by simp)) λ _=>trivial) λ y9 _=>?_
    refine Ok.bind (P:=λ _=>True) (cU (λ hg=>absurd hg.1 (by simp)) λ _=>trivial) λ y11 _=>?_
    refine c4 (λ hq=>by simp [uQ,k0] at hq) (λ _=>c5 ?_)
    unfold Gt
    rw [if_neg (λ e=>k1 e.1.1)]
  ·have:b.Ad.length=(Bb b p).length:=by unfold Bb;rw [List.length_zip];omega
   rw [hr,this,ay]
 ·have hsl:s.length=b.Al.toNat:=by rw [hs,Ip,hzl]
  have hval:∀ i,i<b.Al.toNat->s.getD i false=((groups b p).getD i 0==(groups b p).getD n 0):=by
   intro i hi
   rw [aZ,dz,Ef h p hi hn]
   have hg:∀ r,Got (Bb b p) n (Lv (Bb b p) r z):=by
    intro r
    induction r with
    | zero=>exact hzg
    | succ r ih=>
     rw [Lh]
     refine qE (m:=b.Al.toNat) _ _ (by rw [Ip,hzl]) (λ y hy=>⟨hy,λ hk=>?_⟩) ih
     have:=h.br y.1 (b9 hy).1
     unfold Jp at this
     omega
   constructor
   ·intro e
    rw [hs] at e
    exact (hg _ i (by rw [Ip,hzl];exact hi) e).symm
   ·intro c
    rw [hs]
    exact Aon hL hzl hzn _ i hi (Ss hL hn c.symm)
  refine Ok.andThen (A:=λ y=>y=J6 b p n) (B:=λ (_:Unit)=>False) ?_ (λ y hy=>Ok.pure hy) (λ _ h=>h.elim)
  refine c6 (I:=λ j y=>y=((List.range j).filter λ i=>(groups b p).getD i 0==(groups b p).getD n 0).map λ (i:Nat)=>(i:Int)) rfl (λ j x y hx hy=>?_) λ y hy=>?_
  ·have hj:=(aa.1 hx).1
   have hcnt:cnt 0 j=(j:Int):=Co (by omega)
   have hv:=hval j (by omega)
   have hxd:s.getD j false=x:=by simp [List.getD,hx]
   rw [hxd] at hv
   have hyl2:y.length<=j:=by rw [hy];exact C1 _ j
   rw [Em,←hy]
   unfold Akb
   refine c4 (λ hq=>?_) (λ hq=>c5 ?_)
   ·refine (cW (by simp;omega)).bind λ w hw=>c5 ?_
    rw [hw,hcnt,if_pos (by rw [←hv];exact hq)]
   ·rw [if_neg (by rw [←hv,hq];simp),aH]
  ·rw [hy,hsl];rfl
def ofZ (b:Aa) (k i:Int):List (Ah×Nat):=b.Ad.zipIdx.filter λ z=>z.1.Kind==k&&z.1.B==i
theorem Aox {b:Aa} {k:Int} (hk:k≠1) (i:Int):(ofL b λ x=>Kk k i x)=(ofZ b k i).map λ z=>(z.2:Int):=by
 unfold ofL ofZ
 congr 1
 exact cy λ z _=>Ayj k hk i z.1
theorem Qc {b:Aa} {k i:Int} {z:Ah×Nat} (h:z∈ofZ b k i):b.Ad[z.2]? = some z.1:=by
 have:=(ao.1 h).1
 rwa [bH] at this
theorem Ae8 (q:Ah->Bool) (C:List Bool):∀ (l:List Ah) (c:List Bool) (k:Nat),C.drop k=c->l.length=c.length ->
  (((l.zipIdx k).filter λ z=>q z.1).find? λ z=>C.getD z.2 false).map (·.1)=((l.zip c).find? λ z=>q z.1&&z.2).map (·.1)
 | [],_,_,_,_=>by simp
 | x::l,[],_,_,h=>by simp at h
 | x::l,v::c,k,hd,h=>by
  have hv:C[k]? = some v:=by
   have:=congrArg (·[0]?) hd
   simpa [List.getElem?_drop] using this
  have hd':C.drop (k+1)=c:=by rw [←bT,hd];rfl
  have ih:=Ae8 q C l c (k+1) hd' (by simpa using h)
  have hg:C.getD k false=v:=by simp [List.getD,hv]
  simp only [List.zipIdx_cons,bn,bF,cu]
  cases hq:q x with
  | false=>simpa only [Bool.false_and,bO,if_false] using ih
  | true=>
   simp only [if_true,cu,hg,aM]
   cases v with
   | false=>exact ih
   | true=>rfl
theorem U4 {b:Aa} {p:Ab} (hc:p.Ae.length=b.Ad.length) (k i:Int):B1 b p k i=((ofZ b k i).find? λ z=>p.Ae.getD z.2 false).map (·.1.A):=by
 have:=Ae8 (λ x=>x.Kind==k&&x.B==i) p.Ae b.Ad p.Ae 0 rfl (by omega)
 unfold B1 ofZ
 have h2:=congrArg (Option.map (·.A)) this
 simp only [Option.map_map] at h2
 exact h2.symm
theorem uK {b:Aa} {p:Ab} (hc:p.Ae.length=b.Ad.length) {k i:Int} {z:Ah×Nat} (h:z∈ofZ b k i):p.Ae[z.2]? = some (p.Ae.getD z.2 false):=by
 have:=(aa.1 (Qc h)).1
 rw [af (by omega)]
 simp [List.getD,List.getElem?_eq_getElem (show z.2<p.Ae.length by omega)]
theorem G5 {b:Aa} (h:Ap b) {p:Ab} (hp:Ao b p) (i:Int):F52 b p i=some (Dt (Ce b p i)):=by
 have hn:=hp.nso
 have hc:=hp.ncl
 refine d5 ?_
 unfold F52
 rw [Hc h hp]
 simp only [ab]
 by_cases hi:0<=i/\i<b.Ac.length
 ·obtain⟨x,hx⟩:∃ x,p.Ac[i.toNat]? = some x:=⟨_,af (by omega)⟩
  have hg:getI p.Ac i=some x:=by have:=A8 hx;rwa [az hi.1] at this
  have hd:p.Ac.getD i.toNat default=x:=by simp [List.getD,hx]
  have hcond:((((0:Int) != 0) || (decide (i<0))) || (decide (i>=(b.Ac.length:Int))))=false:=by
   rw [cf];intro e;simp at e;omega
  rw [hcond,hg]
  refine Ok.bind (P:=λ y=>y=x) (cU (λ _=>Ok.pure rfl) λ hn=>(hn ⟨rfl,trivial⟩).elim) λ y hy=>?_
  subst hy
  refine c4 (λ hq=>Ok.pure ?_) (λ hq=>?_)
  ·simp only [Aei,hcond,aT,dG,ne_eq] at hq
   unfold Ce
   rw [if_neg (λ e=>by rw [hd] at e;exact hq e.2.2)];rfl
  ·simp only [Aei,hcond,aT,dE] at hq
   have hcon:Ce b p i=B1 b p 2 i:=by
    unfold Ce
    rw [if_pos ⟨hi.1,by omega,by rw [hd];exact hq⟩]
   rw [zD h,Aox (by decide),hcon,U4 hc]
   simp only [ab]
   obtain⟨n,rfl⟩:∃ n:Nat,i=(n:Int):=⟨i.toNat,by omega⟩
   have hlen:=zC (b:=b) (k:=2) (by decide) n
   rw [Aox (by decide),h.one n (by omega),ax] at hlen
   obtain⟨z,hz⟩:=List.length_eq_one_iff.1 hlen
   have hzm:z∈ofZ b 2 (n:Int):=by rw [hz];exact ag
   have hcz:=uK hc hzm
   have hbz:=Qc hzm
   rw [hz]
   show Ok ((getI [(z.2:Int)] 0).bind _) _
   rw [show getI [(z.2:Int)] 0=some (z.2:Int) from rfl]
   simp only [ab,A8 hcz,cu,List.find?_nil]
   cases hv:p.Ae.getD z.2 false with
   | false=>exact Ok.pure rfl
   | true=>
    simp only [bi,cond_false,A8 hbz,ab]
    exact Ok.pure rfl
 ·refine Ok.bind (P:=λ _=>True) (cU (λ hg=>?_) λ _=>trivial) λ y _=>?_
  ·have:=hg.1
   simp at this;omega
  refine c4 (λ hq=>Ok.pure ?_) (λ hq=>?_)
  ·unfold Ce
   rw [if_neg (λ e=>hi (by omega))];rfl
  ·simp [Aei] at hq;omega
theorem Azs {b:Aa} (h:Ap b) {p:Ab} (hp:Ao b p) {i:Int} (h0:0<=i) (h1:i<b.Af.length):F13 b p i=some (Dt (B1 b p 3 i)):=by
 have hc:=hp.ncl
 refine d5 ?_
 unfold F13
 rw [Hc h hp]
 simp only [ab]
 refine c4 (λ hq=>?_) (λ _=>?_)
 ·simp [A1y] at hq;omega
 rw [zD h,Aox (by decide),U4 hc]
 simp only [ab]
 have key:∀ (m:List (Ah×Nat)) (k:Nat),(∀ z,z∈m->b.Ad[z.2]? = some z.1/\p.Ae[z.2]? = some (p.Ae.getD z.2 false)) ->
   foldI (yE b p) (m.map λ z=>(z.2:Int)) k ()=match m.find? λ z=>p.Ae.getD z.2 false with
    | some z=>some (.ret (z.1.A,true))
    | none=>some (.next ()):=by
  intro m
  induction m with
  | nil=>intro k _;rfl
  | cons z m ih=>
   intro k hm
   obtain⟨e1,e2⟩:=hm z ag
   simp only [bM,foldI,yE,A8 e1,A8 e2,ab,cu]
   cases p.Ae.getD z.2 false with
   | true=>rfl
   | false=>exact ih (k+1) λ y hy=>hm y (ai _ hy)
 rw [key _ 0 λ z hz=>⟨Qc hz,uK hc hz⟩]
 cases (ofZ b 3 i).find? λ z=>p.Ae.getD z.2 false with
 | none=>exact Ok.pure rfl
 | some z=>exact Ok.pure rfl
theorem Qn (l:List Int) (x:Int):F53 l x=some (l.any (· == x)):=by
 unfold F53
 have:∀ (l:List Int) (k:Nat),foldI (vP x) l k ()=bif l.any (· == x) then some (.ret true) else some (.next ()):=by
  intro l
  induction l with
  | nil=>intro k;rfl
  | cons y l ih=>
   intro k
   simp only [foldI,vP,List.any_cons]
   cases hy:(y==x) with
   | true=>rfl
   | false=>simp only [cond_false,aT];exact ih (k+1)
 rw [this]
 cases l.any (· == x) <;> rfl
theorem Agm {b:Aa} {p:Ab} {n:Nat} {a:Int} (h0:0<=a) (h1:a<b.Al):(J6 b p n).any (· == a)=((groups b p).getD a.toNat 0==(groups b p).getD n 0):=by
 rw [aZ,ch]
 constructor
 ·rintro⟨x,hx,e⟩
  rw [dz] at e;subst e
  obtain⟨i,hi,rfl⟩:=an.1 hx
  rw [ah]
  exact (ao.1 hi).2
 ·intro e
  refine⟨a,an.2 ⟨a.toNat,ao.2 ⟨aI.2 (by omega),e⟩,by omega⟩,by simp⟩
theorem E6 {b:Aa} (h:Ap b) (p:Ab) {n:Nat} (hn:n<b.Al.toNat):0<=(groups b p).getD n 0/\((groups b p).getD n 0).toNat<=n/\(((groups b p).getD n 0).toNat:Int)=(groups b p).getD n 0:=by
 have:=O_ h p n _ (Azp (by rw [Ho];exact hn))
 omega
theorem Qd {b:Aa} (h:Ap b) {p:Ab} (hp:Ao b p) {n:Nat} (hn:n<b.Al.toNat):F50 b p (n:Int)=some (isl b p ((groups b p).getD n 0).toNat,true):=by
 have hso:=h.sol
 have hco:=h.col
 have hg:=E6 h p hn
 refine d5 ?_
 unfold F50
 rw [Hc h hp]
 simp only [ab]
 refine c4 (λ hc=>?_) (λ _=>?_)
 ·simp [A1t] at hc;omega
 rw [Ayi h hp hn]
 simp only [ab]
 refine Ok.andThen (A:=λ s=>s.2=Ez b p b.Ac.length ((groups b p).getD n 0).toNat) (B:=λ (_:Unit)=>False) ?_ (λ s hs=>?_) (λ _ h=>h.elim)
 ·refine c8 (λ s=>(0<=s.1/\s.1<=(b.Ac.length:Int))/\s.2=Ez b p s.1.toNat ((groups b p).getD n 0).toNat) (λ s=>((b.Ac.length:Int)-s.1).toNat) _ _ ?_ ?_ ?_
  ·exact⟨by dsimp only;omega,rfl⟩
  ·dsimp only;omega
  ·rintro⟨i,s⟩ ⟨⟨g1,g2⟩,g3⟩
   dsimp only at g1 g2 g3
   unfold Ak1 A1s
   dsimp only
   have hsl:s.length<=i.toNat:=by rw [g3];exact C1 _ _
   refine c4 (λ hq=>?_) (λ hq=>cX ?_)
   ·simp only [dx] at hq
    have e1:w64 (i+1)=i+1:=A5 (by omega)
    have e2:(i+1).toNat=i.toNat+1:=by omega
    have e3:((i.toNat:Nat):Int)=i:=by omega
    rw [e1,G5 h hp]
    simp only [ab,Qn]
    have hnext:Ez b p (i.toNat+1) ((groups b p).getD n 0).toNat=s++if (Dw b p (Ce b p i)==some (((groups b p).getD n 0).toNat:Int))=true then [i] else []:=by
     unfold Ez at g3 ⊢
     rw [Em,←g3,e3]
    have hskip:(Dw b p (Ce b p i)==some (((groups b p).getD n 0).toNat:Int))=false->Ok (some (.next (i+1,s)):Option (Ctl (Int×List Int) Unit)) (Ge (λ s'=>((0<=s'.1/\s'.1<=(b.Ac.length:Int))/\s'.2=Ez b p s'.1.toNat ((groups b p).getD n 0).toNat)/\((b.Ac.length:Int)-s'.1).toNat<((b.Ac.length:Int)-i).toNat) (λ s=>s.2=Ez b p b.Ac.length ((groups b p).getD n 0).toNat) (λ _=>False)):=by
     intro hf
     refine c5 ⟨⟨by dsimp only;omega,?_⟩,by dsimp only;omega⟩
     dsimp only
     rw [e2,hnext,hf];simp
    cases hco:Ce b p i with
    | none=>
     refine Ok.bind (P:=λ _=>True) (cU (λ hg=>absurd hg.1 (by simp [Dt])) λ _=>trivial) λ y _=>?_
     refine c4 (λ hq=>by simp [Dt] at hq) (λ _=>hskip (by rw [hco];rfl))
    | some a=>
     have ha:=Fb h hco
     refine Ok.bind (P:=λ y=>y=(J6 b p n).any (· == a)) (cU (λ _=>Ok.pure rfl) λ hn=>(hn ⟨rfl,trivial⟩).elim) λ y hy=>?_
     rw [Agm ha.1 ha.2] at hy
     have hgr:(Dw b p (Ce b p i)==some (((groups b p).getD n 0).toNat:Int))=((groups b p).getD a.toNat 0==(groups b p).getD n 0):=by
      rw [hco,hg.2.2];rfl
     refine c4 (λ hq=>?_) (λ hq=>?_)
     ·simp only [Dt,aM] at hq
      refine (cW (by simp;omega)).bind λ w hw=>c5 ⟨⟨by dsimp only;omega,?_⟩,by dsimp only;omega⟩
      dsimp only
      rw [e2,hnext,hgr,←hy,hq,hw];rfl
     ·simp only [Dt,aM] at hq
      exact hskip (by rw [hgr,←hy,hq])
   ·simp only [dy] at hq
    dsimp only
    rw [g3]
    have:i.toNat=b.Ac.length:=by omega
    rw [this]
 ·refine Ok.andThen (A:=λ s=>s.2=Gj b p b.Af.length ((groups b p).getD n 0).toNat) (B:=λ (_:Unit)=>False) ?_ (λ t ht=>Ok.pure ?_) (λ _ h=>h.elim)
  ·refine c8 (λ s=>(0<=s.1/\s.1<=(b.Af.length:Int))/\s.2=Gj b p s.1.toNat ((groups b p).getD n 0).toNat) (λ s=>((b.Af.length:Int)-s.1).toNat) _ _ ?_ ?_ ?_
   ·exact⟨by dsimp only;omega,rfl⟩
   ·dsimp only;omega
   ·rintro⟨i,s⟩ ⟨⟨g1,g2⟩,g3⟩
    dsimp only at g1 g2 g3
    unfold Ak0 A1r
    dsimp only
    have hsl:s.length<=i.toNat:=by rw [g3];exact C1 _ _
    refine c4 (λ hq=>?_) (λ hq=>cX ?_)
    ·simp only [dx] at hq
     have e1:w64 (i+1)=i+1:=A5 (by omega)
     have e2:(i+1).toNat=i.toNat+1:=by omega
     have e3:((i.toNat:Nat):Int)=i:=by omega
     rw [e1,Azs h hp g1 hq]
     simp only [ab,Qn]
     have hnext:Gj b p (i.toNat+1) ((groups b p).getD n 0).toNat=s++if (Dw b p (B1 b p 3 i)==some (((groups b p).getD n 0).toNat:Int))=true then [i] else []:=by
      unfold Gj at g3 ⊢
      rw [Em,←g3,e3]
     have hskip:(Dw b p (B1 b p 3 i)==some (((groups b p).getD n 0).toNat:Int))=false->Ok (some (.next (i+1,s)):Option (Ctl (Int×List Int) Unit)) (Ge (λ s'=>((0<=s'.1/\s'.1<=(b.Af.length:Int))/\s'.2=Gj b p s'.1.toNat ((groups b p).getD n 0).toNat)/\((b.Af.length:Int)-s'.1).toNat<((b.Af.length:Int)-i).toNat) (λ s=>s.2=Gj b p b.Af.length ((groups b p).getD n 0).toNat) (λ _=>False)):=by
      intro hf
      refine c5 ⟨⟨by dsimp only;omega,?_⟩,by dsimp only;omega⟩
      dsimp only
      rw [e2,hnext,hf];simp
     cases hco:B1 b p 3 i with
     | none=>
      refine Ok.bind (P:=λ _=>True) (cU (λ hg=>absurd hg.1 (by simp [Dt])) λ _=>trivial) λ y _=>?_
      refine c4 (λ hq=>by simp [Dt] at hq) (λ _=>hskip (by rw [hco];rfl))
     | some a=>
      have ha:=K8 h hco
      refine Ok.bind (P:=λ y=>y=(J6 b p n).any (· == a)) (cU (λ _=>Ok.pure rfl) λ hn=>(hn ⟨rfl,trivial⟩).elim) λ y hy=>?_
      rw [Agm ha.1 ha.2] at hy
      have hgr:(Dw b p (B1 b p 3 i)==some (((groups b p).getD n 0).toNat:Int))=((groups b p).getD a.toNat 0==(groups b p).getD n 0):=by
       rw [hco,hg.2.2];rfl
      refine c4 (λ hq=>?_) (λ hq=>?_)
      ·simp only [Dt,aM] at hq
       refine (cW (by simp;omega)).bind λ w hw=>c5 ⟨⟨by dsimp only;omega,?_⟩,by dsimp only;omega⟩
       dsimp only
       rw [e2,hnext,hgr,←hy,hq,hw];rfl
      ·simp only [Dt,aM] at hq
       exact hskip (by rw [hgr,←hy,hq])
    ·simp only [dy] at hq
     dsimp only
     rw [g3]
     have:i.toNat=b.Af.length:=by omega
     rw [this]
  ·rw [hs,ht]
   unfold isl D6 J6
   rw [hg.2.2]
def Ih (b:Aa) (p:Ab) (f:Nat):Bool:=(groups b p).getD f 0==(f:Int)
theorem Iv {b:Aa} (h:Ap b) (p:Ab) {n:Nat} (hn:n<b.Al.toNat):Ih b p ((groups b p).getD n 0).toNat=true:=by
 have hg:=E6 h p hn
 unfold Ih
 rw [dz,hg.2.2]
 have hm:((groups b p).getD n 0).toNat<b.Al.toNat:=by omega
 have hL:=P5 h p
 have hself:Bm (Bb b p) ((groups b p).getD n 0).toNat n:=by
  have hlab:∀ (xs:List Nat) (s:List Int),s.length=b.Al.toNat->Lab (Bb b p) s->Lab (Bb b p) (xs.foldl (λ s _=>Cq (b.Ad.zip p.Ae) s) s):=by
   intro xs
   induction xs with
   | nil=>intro s _ h;exact h
   | cons x xs ih=>
    intro s hl h2
    refine ih _ (by rw [Gc];exact hl) (Sk _ s hl (λ z hz=>⟨hz,λ hk=>?_⟩) h2)
    have:=h.br z.1 (b9 hz).1
    unfold Jp at this
    omega
  refine hlab (List.range b.Al.toNat) (Cv b.Al.toNat) (by simp [Cv]) ?_ n ?_
  ·intro k hk
   rw [Lw (by simpa [Cv] using hk)]
   exact .refl _ k
  ·have:=Ho b p
   unfold groups at this
   rw [this];exact hn
 exact (Ef h p hm hn).2 hself
theorem Azq {b:Aa} (h:Ap b) (p:Ab) {f:Nat} (hf:f<b.Al.toNat):I6 (isl b p f)=Ih b p f:=by
 rw [aZ]
 unfold I6 isl D6
 simp only [aJ,dA,ne_eq,ax]
 constructor
 ·intro e
  have hne:(List.range b.Al.toNat).filter (λ i=>(groups b p).getD i 0==(f:Int))≠[]:=λ e2=>e (by rw [e2];rfl)
  obtain⟨i,hi⟩:=List.exists_mem_of_ne_nil _ hne
  obtain⟨h1,h2⟩:=ao.1 hi
  rw [dz] at h2
  have:=Iv h p (aI.1 h1)
  rw [h2,ah] at this
  exact this
 ·intro e e2
  have hm:f∈(List.range b.Al.toNat).filter (λ i=>(groups b p).getD i 0==(f:Int)):=ao.2 ⟨aI.2 hf,e⟩
  have:=List.length_pos_iff.2 (List.ne_nil_of_mem hm)
  omega
def Lk (b:Aa) (p:Ab) (n:Nat):List Nat:=(List.range n).filter (Ih b p)
theorem Gb {b:Aa} (h:Ap b) (p:Ab):Bg b p=(Lk b p b.Al.toNat).map (isl b p):=by
 unfold Bg Lk
 rw [List.filter_map]
 congr 1
 exact cy λ f hf=>Azq h p (aI.1 hf)
theorem Asd {b:Aa} (h:Ap b) (p:Ab) {n:Nat} (hn:n<b.Al.toNat):∃ m:Nat,(J6 b p n)[0]? = some (m:Int)/\(m=n↔Ih b p n=true):=by
 have hg:=E6 h p hn
 have hm:((groups b p).getD n 0).toNat<b.Al.toNat:=by omega
 have hgg:=Iv h p hn
 unfold Ih at hgg
 rw [dz,hg.2.2] at hgg
 have hfind:(List.range b.Al.toNat).find? (λ i=>(groups b p).getD i 0==(groups b p).getD n 0)=some ((groups b p).getD n 0).toNat:=by
  rw [List.find?_range_eq_some]
  refine⟨by rw [dz];exact hgg,aI.2 hm,λ j hj=>?_⟩
  simp only [aJ,dA,ne_eq]
  intro e
  have:=E6 h p (n:=j) (by omega)
  omega
 refine⟨((groups b p).getD n 0).toNat,?_,?_⟩
 ·unfold J6
  rw [aA,←List.head?_eq_getElem?,List.head?_filter,hfind];rfl
 ·unfold Ih
  rw [dz];omega
theorem N3 {b:Aa} (h:Ap b) {p:Ab} (hp:Ao b p):F21 b p=some (Bg b p):=by
 have hbu:=h.buses
 rw [Gb h]
 refine d5 ?_
 unfold F21
 rw [Hc h hp]
 simp only [ab]
 refine c4 (λ hc=>by simp at hc) (λ _=>?_)
 refine Ok.andThen (A:=λ s=>s.2=(Lk b p b.Al.toNat).map (isl b p)) (B:=λ (_:Unit)=>False) ?_ (λ s hs=>Ok.pure hs) (λ _ h=>h.elim)
 refine c8 (λ s=>(0<=s.1/\s.1<=b.Al)/\s.2=(Lk b p s.1.toNat).map (isl b p)) (λ s=>(b.Al-s.1).toNat) _ _ ?_ ?_ ?_
 ·exact⟨by dsimp only;omega,rfl⟩
 ·dsimp only;omega
 ·rintro⟨i,s⟩ ⟨⟨g1,g2⟩,g3⟩
  dsimp only at g1 g2 g3
  unfold Alb
  dsimp only
  refine c4 (λ hq=>?_) (λ hq=>cX ?_)
  ·simp only [dx] at hq
   obtain⟨n,rfl⟩:∃ n:Nat,i=(n:Int):=⟨i.toNat,by omega⟩
   have hn:n<b.Al.toNat:=by omega
   have e1:w64 ((n:Int)+1)=(n:Int)+1:=A5 (by omega)
   have e2:((n:Int)+1).toNat=n+1:=by omega
   have hg:=E6 h p hn
   obtain⟨m,hm,hmn⟩:=Asd h p hn
   have hbuses:(isl b p ((groups b p).getD n 0).toNat).Al=J6 b p n:=by
    unfold isl D6 J6
    rw [hg.2.2]
   rw [ah] at g3
   have hsl:s.length<=n:=by
    rw [g3,ax]
    exact aC (bp _ _) (by simp)
   have hnext:Lk b p (n+1)=Lk b p n++if Ih b p n=true then [n] else []:=by
    unfold Lk
    rw [bt,bm]
    congr 1
    cases hq:Ih b p n <;> simp [hq]
   rw [e1,Qd h hp hn]
   simp only [ab,hbuses]
   have hg0:getI (J6 b p n) 0=some (m:Int):=A8 (j:=0) hm
   rw [hg0]
   simp only [ab]
   refine c4 (λ hq=>?_) (λ hq=>c5 ⟨⟨by dsimp only;omega,?_⟩,by dsimp only;omega⟩)
   ·simp only [dz] at hq
    have hle:=hmn.1 (by omega)
    refine (cW (by simp;omega)).bind λ w hw=>c5 ⟨⟨by dsimp only;omega,?_⟩,by dsimp only;omega⟩
    dsimp only
    have hgn:((groups b p).getD n 0).toNat=n:=by
     unfold Ih at hle
     rw [dz] at hle;omega
    rw [e2,hnext,if_pos hle,hw,g3,bo,hgn];rfl
   ·simp only [dA,ne_eq] at hq
    have hle:¬Ih b p n=true:=λ e=>hq (by rw [hmn.2 e])
    dsimp only
    rw [e2,hnext,if_neg hle,aH,g3]
  ·simp only [dy] at hq
   dsimp only
   have:i.toNat=b.Al.toNat:=by omega
   rw [g3,this]
theorem Al3 {b:Aa} (h:Ap b) {p:Ab} (hp:Ao b p):Aa8 b p=some (⟨p.Ae,Cr b p,p.Am,p.Ai⟩,0):=by
 have hn:=hp.nso
 refine d5 ?_
 unfold Aa8
 rw [Hc h hp]
 simp only [ab]
 refine c4 (λ hc=>by simp at hc) (λ _=>?_)
 refine Ok.bind (P:=λ y=>y=⟨p.Ae,Cr b p,p.Am,p.Ai⟩) ?_ λ y hy=>Ok.pure (by rw [hy])
 unfold Aro
 rw [Aaf h hp,N3 h hp]
 simp only [ab]
 refine Ok.andThen (A:=λ s=>s=Cr b p) (B:=λ (_:Unit)=>False) ?_ (λ s hs=>Ok.pure (by rw [hs])) (λ _ h=>h.elim)
 refine c6 (I:=λ j s=>s=((Bg b p).take j).foldl (Cz p) p.Ac) rfl (λ j x s hx hs=>?_) λ s hs=>?_
 ·have hi:=Qk (ae hx)
  have hl:s.length=p.Ac.length:=by rw [hs,Lm]
  have hnext:((Bg b p).take (j+1)).foldl (Cz p) p.Ac=Cz p s x:=by rw [Bi hx,aN,←hs];rfl
  rw [hnext]
  unfold Aa1
  cases hsrc:x.Ac with
  | nil=>exact c5 (by unfold Cz;rw [hsrc])
  | cons m l=>
   have hm:=hi m (by rw [hsrc];exact ag)
   obtain⟨u,hu⟩:∃ u,p.Ac[m.toNat]? = some u:=⟨_,af (by omega)⟩
   have hgu:getI p.Ac m=some u:=by have:=A8 hu;rwa [az hm.1] at this
   have hd:p.Ac.getD m.toNat default=u:=by simp [List.getD,hu]
   have hf:Cz p s x=Et u (m::l) s:=by unfold Cz;rw [hsrc];simp only [hd]
   rw [hf]
   have hin:∀ k,k∈m::l->0<=k/\k<p.Ac.length:=λ k hk=>by
    have:=hi k (by rw [hsrc];exact hk)
    omega
   refine (c6 (I:=λ k r=>r=Et u ((m::l).take k) s) (A:=λ r=>r=Et u (m::l) s) (B:=λ (_:Unit)=>False) rfl (λ k n r hk hr=>?_) λ r hr=>by rw [hr,ay]).inner (λ r hr=>c5 hr) (λ _ h=>h.elim)
   have hnk:=hin n (ae hk)
   have hrl:r.length=p.Ac.length:=by rw [hr,Hu,hl]
   unfold Aa0
   rw [hsrc,show getI (m::l) 0=some m from rfl]
   simp only [ab,hgu]
   refine (c9 hnk.1 (by omega)).bind λ v hv=>(cV hnk.1 (by omega)).bind λ r1 e1=>?_
   have hvg:r1[n.toNat]? = some (⟨v.State,v.Since,u.Ar,v.Phase⟩:Ag):=by rw [e1,bG (by omega)]
   refine Ok.bind (P:=λ w=>w=(⟨v.State,v.Since,u.Ar,v.Phase⟩:Ag)) ((c9 hnk.1 (by rw [e1];simp;omega)).mono λ w hw=>by rw [hvg] at hw;cases hw;rfl) λ w hw=>?_
   refine (cV hnk.1 (by rw [e1];simp;omega)).bind λ r2 e2=>c5 ?_
   have hdv:r.getD n.toNat default=v:=by simp [List.getD,hv]
   rw [Abl hk,←hr,hdv,e2,e1,hw,List.set_set];rfl
 ·rw [ay] at hs;exact hs
theorem Ayc {ss:List Ag} {n:Nat} (h:n<ss.length):ss.set n (ss.getD n default)=ss:=by
 apply bP
 intro i
 rw [am]
 split
 ·rename_i e;subst e
  simp [List.getD,List.getElem?_eq_getElem h]
 ·rfl
theorem Abm {B0:Ag}:∀ (idx:List Int) (ss:List Ag),(∀ i,i∈idx->i.toNat<ss.length/\Yg B0 (ss.getD i.toNat default)=ss.getD i.toNat default)->Et B0 idx ss=ss
 | [],_,_=>rfl
 | i::idx,ss,h=>by
  obtain⟨h1,h2⟩:=h i ag
  show Et B0 idx (ss.set i.toNat (Yg B0 (ss.getD i.toNat default)))=ss
  rw [h2,Ayc h1]
  exact Abm idx ss λ j hj=>h j (ai _ hj)
theorem Jl {ss:List Ag} {m n:Nat} {y:Ag}:(ss.set m y).getD n default=if m=n/\m<ss.length then y else ss.getD n default:=by
 unfold List.getD
 rw [am]
 by_cases e:m=n
 ·subst e
  by_cases hl:m<ss.length
  ·simp [hl]
  ·simp [hl]
 ·simp [e]
theorem Mt (B0:Ag):∀ (idx:List Int) (ss:List Ag) (n:Nat),((Et B0 idx ss).getD n default).State=(ss.getD n default).State
 | [],_,_=>rfl
 | i::idx,ss,n=>by
  show ((Et B0 idx _).getD n default).State=_
  rw [Mt B0 idx,Jl]
  split
  ·rename_i e;rw [←e.1];rfl
  ·rfl
theorem Yr {B0:Ag}:∀ (idx:List Int) (ss:List Ag) {n:Nat},(∀ i,i∈idx->i.toNat≠n)->(Et B0 idx ss).getD n default=ss.getD n default
 | [],_,_,_=>rfl
 | i::idx,ss,n,h=>by
  show (Et B0 idx _).getD n default=_
  rw [Yr idx _ (λ j hj=>h j (ai _ hj)),Jl,if_neg (λ e=>h i ag e.1)]
theorem Amo {B0:Ag}:∀ (idx:List Int) (ss:List Ag) {n:Nat},n<ss.length->(∃ i,i∈idx/\i.toNat=n)->((Et B0 idx ss).getD n default).Ar=B0.Ar/\((Et B0 idx ss).getD n default).Phase=B0.Phase
 | [],_,_,_,h=>by obtain⟨_,h,_⟩:=h;cases h
 | i::idx,ss,n,hn,h=>by
  by_cases hr:∃ j,j∈idx/\j.toNat=n
  ·exact Amo idx _ (by simpa using hn) hr
  ·have hi:i.toNat=n:=by
    obtain⟨j,hj,e⟩:=h
    rcases aj.1 hj with rfl | hj
    ·exact e
    ·exact absurd ⟨j,hj,e⟩ hr
   have:(Et B0 (i::idx) ss).getD n default=Yg B0 (ss.getD i.toNat default):=by
    show (Et B0 idx _).getD n default=_
    rw [Yr idx _ (λ j hj e=>hr ⟨j,hj,e⟩),Jl,if_pos ⟨hi,by omega⟩]
   rw [this];exact⟨rfl,rfl⟩
def Di (b:Aa) (p:Ab):Prop:=∀ x,x∈Bg b p->∀ i j,i∈x.Ac->j∈x.Ac ->
 (p.Ac.getD i.toNat default).Ar=(p.Ac.getD j.toNat default).Ar/\(p.Ac.getD i.toNat default).Phase=(p.Ac.getD j.toNat default).Phase
theorem Ah9 {b:Aa} {p:Ab} (hn:p.Ac.length=b.Ac.length) (h:Di b p):Cr b p=p.Ac:=by
 have key:∀ l:List Aj,(∀ x,x∈l->x∈Bg b p)->l.foldl (Cz p) p.Ac=p.Ac:=by
  intro l
  induction l with
  | nil=>intro _;rfl
  | cons x l ih=>
   intro hl
   have hx:=hl x ag
   have hst:Cz p p.Ac x=p.Ac:=by
    unfold Cz
    split
    ·rfl
    ·rename_i i r e
     refine Abm _ _ λ j hj=>?_
     have hj2:=Qk hx j hj
     have ha:=h x hx i j (by rw [e];exact ag) hj
     refine⟨by omega,?_⟩
     unfold Yg
     rw [ha.1,ha.2]
   rw [aU,hst]
   exact ih λ y hy=>hl y (ai _ hy)
 exact key _ λ _ hx=>hx
theorem Al2 (p:Ab) (s:List Ag) (x:Aj) (n:Nat):((Cz p s x).getD n default).State=(s.getD n default).State:=by
 unfold Cz
 split
 ·rfl
 ·exact Mt _ _ _ _
theorem Mj (b:Aa) (p:Ab) (n:Nat):((Cr b p).getD n default).State=(p.Ac.getD n default).State:=by
 have key:∀ (l:List Aj) (s:List Ag),((l.foldl (Cz p) s).getD n default).State=(s.getD n default).State:=by
  intro l
  induction l with
  | nil=>intro s;rfl
  | cons x l ih=>intro s;rw [aU,ih,Al2]
 exact key _ _
theorem Ad2 {b:Aa} {p q:Ab} (hc:q.Ae=p.Ae) (hl:q.Ac.length=p.Ac.length) (hs:∀ n:Nat,(q.Ac.getD n default).State=(p.Ac.getD n default).State):Bg b q=Bg b p:=by
 have hled:∀ k i,B1 b q k i=B1 b p k i:=λ k i=>by unfold B1;rw [hc]
 have hgr:groups b q=groups b p:=by unfold groups;rw [hc]
 have hcon:∀ i,Ce b q i=Ce b p i:=λ i=>by unfold Ce;rw [hled,hl,hs]
 have hgo:∀ o,Dw b q o=Dw b p o:=λ o=>by unfold Dw;rw [hgr]
 have hisl:isl b q=isl b p:=by
  funext f
  unfold isl D6 Ez Gj
  simp only [hgr,hled,hcon,hgo]
 unfold Bg
 rw [hisl]
theorem Gw {b:Aa} {p:Ab} {f:Nat} {i:Int}:i∈(isl b p f).Ac↔∃ k:Nat,i=(k:Int)/\k<b.Ac.length/\Dw b p (Ce b p (k:Int))=some (f:Int):=by
 constructor
 ·intro h
  obtain⟨k,hk,e⟩:=an.1 h
  obtain⟨h1,h2⟩:=ao.1 hk
  exact⟨k,e.symm,aI.1 h1,by rwa [dz] at h2⟩
 ·rintro⟨k,e,h1,h2⟩
  exact an.2 ⟨k,ao.2 ⟨aI.2 h1,by rw [dz];exact h2⟩,e.symm⟩
theorem Aya {b:Aa} {p:Ab} {f g:Nat} (hfg:f≠g) {i j:Int} (hi:i∈(isl b p f).Ac) (hj:j∈(isl b p g).Ac):i.toNat≠j.toNat:=by
 obtain⟨k,rfl,_,e1⟩:=Gw.1 hi
 obtain⟨m,rfl,_,e2⟩:=Gw.1 hj
 rw [ah,ah]
 intro e;subst e
 rw [e1] at e2
 have:=bg e2
 exact hfg (by omega)
def Aeb (b:Aa) (p:Ab) (f:Nat):Ag:=p.Ac.getD ((isl b p f).Ac.headD 0).toNat default
theorem Aib {b:Aa} {p:Ab} {n:Nat}:∀ (fs:List Nat) (s:List Ag),(∀ f,f∈fs->∀ i,i∈(isl b p f).Ac->i.toNat≠n)->((fs.map (isl b p)).foldl (Cz p) s).getD n default=s.getD n default
 | [],_,_=>rfl
 | f::fs,s,h=>by
  rw [bM,aU,Aib fs _ (λ g hg=>h g (ai _ hg))]
  have hf:=h f ag
  unfold Cz
  split
  ·rfl
  ·exact Yr _ _ hf
theorem zX {b:Aa} {p:Ab} (hn:p.Ac.length=b.Ac.length):∀ (fs:List Nat) (s:List Ag),s.length=p.Ac.length->fs.Nodup->∀ f,f∈fs->∀ i,i∈(isl b p f).Ac ->
  (((fs.map (isl b p)).foldl (Cz p) s).getD i.toNat default).Ar=(Aeb b p f).Ar/\(((fs.map (isl b p)).foldl (Cz p) s).getD i.toNat default).Phase=(Aeb b p f).Phase
 | [],_,_,_,_,h,_,_=>by cases h
 | g::fs,s,hs,hnd,f,hf,i,hi=>by
  obtain⟨h1,h2⟩:=List.nodup_cons.1 hnd
  rw [bM,aU]
  by_cases e:f=g
  ·subst e
   rw [Aib fs _ (λ k hk j hj=>Aya (λ e=>h1 (by rw [←e];exact hk)) hj hi)]
   obtain⟨k,rfl,hk,_⟩:=Gw.1 hi
   unfold Cz
   split
   ·rename_i e;rw [e] at hi;cases hi
   ·rename_i m r e
    have:Aeb b p f=p.Ac.getD m.toNat default:=by unfold Aeb;rw [e];rfl
    rw [this]
    exact Amo _ _ (by rw [ah];omega) ⟨_,hi,rfl⟩
  ·rcases aj.1 hf with h | hf
   ·exact absurd h e
   ·exact zX hn fs _ (by rw [N6];exact hs) h2 f hf i hi
theorem Qq {b:Aa} (h:Ap b) {p:Ab} (hn:p.Ac.length=b.Ac.length):Di b ⟨p.Ae,Cr b p,p.Am,p.Ai⟩:=by
 have hisl:Bg b ⟨p.Ae,Cr b p,p.Am,p.Ai⟩=Bg b p:=Ad2 rfl (Ft b p) (Mj b p)
 intro x hx i j hi hj
 rw [hisl,Gb h] at hx
 obtain⟨f,hf,rfl⟩:=an.1 hx
 have hnd:(Lk b p b.Al.toNat).Nodup:=(List.nodup_range).sublist cN
 have hfl:Cr b p=((Lk b p b.Al.toNat).map (isl b p)).foldl (Cz p) p.Ac:=by
  rw [←Gb h];rfl
 have e1:=zX hn _ p.Ac rfl hnd f hf i hi
 have e2:=zX hn _ p.Ac rfl hnd f hf j hj
 dsimp only
 rw [hfl]
 exact⟨e1.1.trans e2.1.symm,e1.2.trans e2.2.symm⟩
def A2 (b:Aa) (p:Ab) (n:Nat):Bool:=decide (((isl b p ((groups b p).getD n 0).toNat).Ac.length:Int)>0)
theorem Ach {b:Aa} (h:Ap b) {p:Ab} (hp:Ao b p) {n:Nat} (hn:n<b.Al.toNat):F14 b p (n:Int)=some (A2 b p n):=by
 unfold F14
 rw [Qd h hp hn]
 simp [A2]
theorem Vn {b:Aa} {p:Ab} {n f:Nat} (hn:n<b.Al.toNat):(isl b p f).Al.any ((n:Int) == ·)=((groups b p).getD n 0==(f:Int)):=by
 rw [aZ,ch]
 constructor
 ·rintro⟨x,hx,e⟩
  rw [dz] at e;subst e
  obtain⟨i,hi,e⟩:=an.1 hx
  have:i=n:=by omega
  subst this
  exact (ao.1 hi).2
 ·intro e
  exact⟨n,an.2 ⟨n,ao.2 ⟨aI.2 hn,e⟩,rfl⟩,by simp⟩
theorem of_eq {b:Aa} (h:Ap b) {p:Ab} (hp:Ao b p) {n:Nat} (hn:n<b.Al.toNat):Io b p (n:Int)=some (isl b p ((groups b p).getD n 0).toNat,true):=by
 have hg:=E6 h p hn
 have hbu:=h.buses
 unfold Io
 rw [Kf h hp,Gb h]
 simp only [ab]
 have key:∀ (fs:List Nat) (k:Nat),foldI (Nj (n:Int)) (fs.map (isl b p)) k ()=if ((groups b p).getD n 0).toNat∈fs then some (.ret (isl b p ((groups b p).getD n 0).toNat,true)) else some (.next ()):=by
  intro fs
  induction fs with
  | nil=>intro k;rfl
  | cons f fs ih=>
   intro k
   have hbl:(isl b p f).Al.length<=9223372036854775807:=by
    have:=C1 (λ i=>(groups b p).getD i 0==(f:Int)) b.Al.toNat
    simp only [isl,D6]
    omega
   simp only [bM,foldI,Nj,Eh _ _ hbl,ab,Vn hn]
   by_cases e:(groups b p).getD n 0=(f:Int)
   ·have e2:((groups b p).getD n 0).toNat=f:=by omega
    rw [dz.2 e,e2,if_pos ag];rfl
   ·have e2:((groups b p).getD n 0).toNat≠f:=by omega
    rw [dA.2 e]
    simp only [cond_false]
    rw [ih]
    by_cases hm:((groups b p).getD n 0).toNat∈fs
    ·rw [if_pos hm,if_pos (ai _ hm)]
    ·rw [if_neg hm,if_neg (λ hh=>(aj.1 hh).elim e2 hm)]
 have hm:((groups b p).getD n 0).toNat∈Lk b p b.Al.toNat:=ao.2 ⟨aI.2 (by omega),Iv h p hn⟩
 rw [key,if_pos hm]
 rfl
theorem W6 {b:Aa} (h:Ap b) {p:Ab} (hp:Ao b p) {n:Nat} (hn:n<b.Al.toNat):F58 b p (n:Int)=some (A2 b p n):=by
 unfold F58
 rw [of_eq h hp hn]
 simp [A2]
theorem Amc {p:Ab} (k n:Int):F15 p k n=some (brk p.Ai k n):=by
 unfold F15 brk
 have:∀ (l:List As) (i:Nat),foldI (yC k n) l i ()=bif l.any (λ x=>k==x.Kind&&n==x.Number) then some (.ret true) else some (.next ()):=by
  intro l
  induction l with
  | nil=>intro i;rfl
  | cons x l ih=>
   intro i
   simp only [foldI,yC,A1x,List.any_cons]
   have e:(x.Kind==k&&x.Number==n)=(k==x.Kind&&n==x.Number):=by
    rw [aZ];simp only [ac,dz];omega
   rw [e]
   cases (k==x.Kind&&n==x.Number) with
   | true=>rfl
   | false=>simp only [cond_false,aT];exact ih (i+1)
 rw [this]
 cases p.Ai.any λ x=>k==x.Kind&&n==x.Number <;> rfl
theorem Gr {b:Aa} {i:Nat} (h:i<b.Af.length):b.Af[i]? = some (b.Af.getD i default):=by
 rw [af h];simp [List.getD,List.getElem?_eq_getElem h]
theorem Anc {p:Ab} {i:Nat} (h:i<p.Am.length):p.Am[i]? = some (p.Am.getD i 0):=by
 rw [af h];simp [List.getD,List.getElem?_eq_getElem h]

theorem G9 {b:Aa} {p:Ab} (hp:Ao b p) {j:Nat} (hj:j<b.Ad.length):p.Ae[j]? = some (p.Ae.getD j false):=by
 have:=hp.ncl
 rw [af (by omega)];simp [List.getD,List.getElem?_eq_getElem (show j<p.Ae.length by omega)]
theorem Cc {b:Aa} {j:Nat} {x:Ah} (hx:b.Ad[j]? = some x):b.Ad.getD j default=x:=by simp [List.getD,hx]
def Bx (p:Ab) (x:Ah):Bool:=
 brk p.Ai 3 x.A || (if x.Kind=1 then brk p.Ai 3 x.B else if x.Kind=2 then brk p.Ai 1 x.B || ((p.Ac.getD x.B.toNat default).State != 2) else brk p.Ai 4 x.B)
theorem A3o {b:Aa} {p:Ab} (hp:Ao b p) (k n:Int) (acts:List Ak):Me k n ⟨b,p,acts⟩=some (brk p.Ai k n,⟨b,p,acts⟩):=by
 have:=hp.brk.len
 unfold Me
 rw [C9 (by dsimp only;omega)];rfl
theorem Avn {b:Aa} (h:Ap b) {p:Ab} (hp:Ao b p) (acts:List Ak) {x:Ah} (hx:x∈b.Ad):We ⟨b,p,acts⟩ x=some (Bx p x,⟨b,p,acts⟩):=by
 have hbr:=(h.br x hx).2
 have hns:=hp.nso
 unfold We Bx
 simp only [A3o hp,ab]
 cases brk p.Ai 3 x.A with
 | true=>rfl
 | false=>
  simp only [cond_false,aT]
  rcases hbr with⟨hk,_⟩ | ⟨hk,h0,h1⟩ | ⟨hk,_⟩
  ·rw [hk];rfl
  ·rw [hk]
   have e:p.Ac[x.B.toNat]? = some (p.Ac.getD x.B.toNat default):=by
    rw [af (by omega)];simp [List.getD,List.getElem?_eq_getElem (show x.B.toNat<p.Ac.length by omega)]
   have e2:getI p.Ac x.B=some (p.Ac.getD x.B.toNat default):=by
    unfold getI;rw [dC h0];exact e
   rw [e2]
   cases brk p.Ai 1 x.B <;> rfl
  ·rw [hk];rfl
def B5 (b:Aa) (C:List Bool) (q:Ah->Bool) (n:Nat):List Int:=((List.range n).filter λ i=>C.getD i false&&q (b.Ad.getD i default)).map λ (i:Nat)=>(i:Int)
theorem Hd {b:Aa} {C:List Bool} {q:Ah->Bool} {n:Nat} {i:Int}:i∈B5 b C q n↔∃ k:Nat,i=(k:Int)/\k<n/\C.getD k false=true/\q (b.Ad.getD k default)=true:=by
 unfold B5
 simp only [an,ao,aI,ac]
 constructor
 ·rintro⟨k,⟨h1,h2,h3⟩,rfl⟩;exact⟨k,rfl,h1,h2,h3⟩
 ·rintro⟨k,rfl,h1,h2,h3⟩;exact⟨k,⟨h1,h2,h3⟩,rfl⟩
theorem He (b:Aa) (C:List Bool) (q:Ah->Bool) (n:Nat):(B5 b C q n).length<=n:=C1 _ n
def Bk (C:List Bool) (l:List Int):List Bool:=l.foldl (λ c i=>c.set i.toNat false) C
def Dx (l:List Int):List Ak:=l.map λ i=>⟨2,i,0⟩
theorem Js:∀ (l:List Int) (C:List Bool),(Bk C l).length=C.length
 | [],_=>rfl
 | i::l,C=>by
  show (Bk (C.set i.toNat false) l).length=_
  rw [Js l];simp
theorem J8 (C:List Bool) (l:List Int) (i:Int):Bk C (l++[i])=(Bk C l).set i.toNat false:=by
 unfold Bk;rw [aN];rfl
theorem Ly:∀ (l:List Int) (C:List Bool) (k:Nat),(Bk C l).getD k false=(C.getD k false && !l.any λ i=>i.toNat==k)
 | [],_,_=>by simp [Bk]
 | i::l,C,k=>by
  show (Bk (C.set i.toNat false) l).getD k false=_
  rw [Ly l]
  simp only [List.any_cons]
  by_cases e:i.toNat=k
  ·subst e
   have:(C.set i.toNat false).getD i.toNat false=false:=by
    simp only [List.getD,am]
    by_cases hl:i.toNat<C.length
    ·simp [hl]
    ·simp [hl]
   rw [this];simp
  ·have:(C.set i.toNat false).getD k false=C.getD k false:=by
    simp only [List.getD,am,if_neg e]
   rw [this]
   have e2:(i.toNat==k)=false:=by simpa using e
   rw [e2,aT]
theorem Yx {b:Aa}:∀ (l:List Int) {p:Ab},Ao b p->Ao b ⟨Bk p.Ae l,p.Ac,p.Am,p.Ai⟩
 | [],_,hp=>hp
 | i::l,p,hp=>Yx l (p:=⟨p.Ae.set i.toNat false,p.Ac,p.Am,p.Ai⟩) (qI hp i.toNat)
theorem Ayt {b:Aa} {p:Ab} {acts:List Ak} (ha:acts.length<=1000000) {i:Int} (h0:0<=i) (h1:i<p.Ae.length):Oe ⟨b,p,acts⟩ i=some ⟨b,⟨p.Ae.set i.toNat false,p.Ac,p.Am,p.Ai⟩,acts++[⟨2,i,0⟩]⟩:=by
 refine d5 ?_
 unfold Oe
 refine (c9 h0 h1).bind λ _ _=>(cV h0 h1).bind λ y hy=>(cW (by simp;omega)).bind λ z hz=>Ok.pure ?_
 rw [hy,hz]
theorem Yw {b:Aa} {p:Ab} {acts:List Ak} {l:List Int} (ha:acts.length+l.length<=1000000) (hl:∀ i,i∈l->0<=i/\i<p.Ae.length) :
  Ok (foldI Pk l 0 (b.Al,b.Ad,b.Ac,b.Af,b.Phase,b.Ar,p.Ae,p.Ac,p.Am,p.Ai,acts)) (D7 (λ s=>s=(b.Al,b.Ad,b.Ac,b.Af,b.Phase,b.Ar,Bk p.Ae l,p.Ac,p.Am,p.Ai,acts++Dx l)) λ (_:Unit)=>False):=by
 refine c6 (I:=λ j s=>s=(b.Al,b.Ad,b.Ac,b.Af,b.Phase,b.Ar,Bk p.Ae (l.take j),p.Ac,p.Am,p.Ai,acts++Dx (l.take j))) (by simp [Bk,Dx]) (λ j i s hi hs=>?_) λ s hs=>?_
 ·have hj:=(aa.1 hi).1
  have hin:=hl i (ae hi)
  subst hs
  unfold Pk
  have e:=Ayt (b:=b) (p:=⟨Bk p.Ae (l.take j),p.Ac,p.Am,p.Ai⟩) (acts:=acts++Dx (l.take j)) (by simp [Dx];omega) hin.1 (by rw [Js];exact hin.2)
  refine Ok.bind (P:=λ y=>y=_) (c7 e rfl) λ y hy=>c5 ?_
  subst hy
  rw [Bi hi,J8]
  simp [Dx]
 ·rw [ay] at hs;exact hs
def acA (b:Aa) (C:List Bool) (q:Ah->Bool):List Ak:=Dx (B5 b C q b.Ad.length)
def acC (b:Aa) (C:List Bool) (q:Ah->Bool):List Bool:=Bk C (B5 b C q b.Ad.length)
theorem Xj (b:Aa) (C:List Bool) (q:Ah->Bool):(acA b C q).length<=b.Ad.length:=by
 unfold acA Dx
 rw [ax];exact He b C q _
theorem Q1 {b:Aa} {p:Ab} (hp:Ao b p) (q:Ah->Bool):Ao b ⟨acC b p.Ae q,p.Ac,p.Am,p.Ai⟩:=Yx _ hp
theorem I1 (b:Aa) (C:List Bool) (q:Ah->Bool) {k:Nat} (hk:k<b.Ad.length):(acC b C q).getD k false=(C.getD k false && !q (b.Ad.getD k default)):=by
 unfold acC
 rw [Ly]
 cases hc:C.getD k false with
 | false=>rfl
 | true=>
  rw [aM,aM]
  congr 1
  rw [aZ,ch]
  constructor
  ·rintro⟨i,hi,e⟩
   obtain⟨m,rfl,_,_,hq⟩:=Hd.1 hi
   have:m=k:=by simpa using e
   subst this;exact hq
  ·intro hq
   exact⟨(k:Int),Hd.2 ⟨k,rfl,hk,hc,hq⟩,by simp⟩
theorem Kh {b:Aa} {C:List Bool} {q:Ah->Bool} {j:Nat} {x:Ah} (hx:b.Ad[j]? = some x):B5 b C q (j+1)=B5 b C q j++if (C.getD j false&&q x)=true then [(j:Int)] else []:=by
 unfold B5
 rw [Em,Cc hx]
theorem Ar0 {b:Aa} (h:Ap b) {p:Ab} (hp:Ao b p) {acts:List Ak} (ha:acts.length<=1000):Wk ⟨b,p,acts⟩=some ⟨b,⟨acC b p.Ae (Bx p),p.Ac,p.Am,p.Ai⟩,acts++acA b p.Ae (Bx p)⟩:=by
 have hbl:=h.brl
 have hnc:=hp.ncl
 refine d5 ?_
 unfold Wk
 refine Ok.andThen (A:=λ s=>s=(b.Al,b.Ad,b.Ac,b.Af,b.Phase,b.Ar,B5 b p.Ae (Bx p) b.Ad.length,p.Ae,p.Ac,p.Am,p.Ai,acts)) (B:=λ (_:Unit)=>False) ?_ (λ s hs=>?_) (λ _ h=>h.elim)
 ·refine c6 (I:=λ j s=>s=(b.Al,b.Ad,b.Ac,b.Af,b.Phase,b.Ar,B5 b p.Ae (Bx p) j,p.Ae,p.Ac,p.Am,p.Ai,acts)) rfl (λ j x s hx hs=>?_) λ s hs=>hs
  have hj:j<b.Ad.length:=(aa.1 hx).1
  have hfl:=He b p.Ae (Bx p) j
  have hfs:=Kh (C:=p.Ae) (q:=Bx p) hx
  subst hs
  unfold Wj
  rw [Co (by omega),A8 (G9 hp hj)]
  simp only [ab]
  have hd:=Avn h hp acts (ae hx)
  cases hC:p.Ae.getD j false with
  | false=>
   rw [hC] at hfs
   refine c5 ?_
   rw [hfs];simp
  | true=>
   rw [hC] at hfs
   refine Ok.bind (P:=λ y=>y=(Bx p x,(⟨b,p,acts⟩:Ax))) (c7 hd rfl) λ y hy=>?_
   subst hy
   cases hq:Bx p x with
   | false=>
    rw [hq] at hfs
    refine c5 ?_
    rw [hfs];simp
   | true=>
    rw [hq] at hfs
    refine Ok.bind (P:=λ y=>y=B5 b p.Ae (Bx p) j++[(j:Int)]) (cW (by simp;omega)) λ y hy=>c5 ?_
    rw [hy,hfs];simp
 ·subst hs
  have hfl:=He b p.Ae (Bx p) b.Ad.length
  refine Ok.andThen (Yw (b:=b) (p:=p) (acts:=acts) (l:=B5 b p.Ae (Bx p) b.Ad.length) (by omega) λ i hi=>?_) (λ s hs=>?_) (λ _ h=>h.elim)
  ·obtain⟨k,rfl,hk,_⟩:=Hd.1 hi
   omega
  ·subst hs
   exact Ok.pure rfl
def Ck (b:Aa) (p:Ab) (x:Ah):Bool:=x.Kind==3 && !A2 b p x.A.toNat
theorem A3l {b:Aa} (h:Ap b) {p:Ab} (hp:Ao b p) (acts:List Ak) {x:Ah} (hx:x∈b.Ad):Wd x ⟨b,p,acts⟩=some (Ck b p x,⟨b,p,acts⟩):=by
 have hA:=(h.br x hx).1
 have hl:=W6 h hp (n:=x.A.toNat) (by omega)
 rw [az hA.1] at hl
 unfold Wd Ck
 rw [hl]
 cases x.Kind==3 <;> rfl
theorem Arz {b:Aa} (h:Ap b) {p:Ab} (hp:Ao b p) {acts:List Ak} (ha:acts.length<=1000):Wi ⟨b,p,acts⟩=some ⟨b,⟨acC b p.Ae (Ck b p),p.Ac,p.Am,p.Ai⟩,acts++acA b p.Ae (Ck b p)⟩:=by
 have hbl:=h.brl
 have hnc:=hp.ncl
 refine d5 ?_
 unfold Wi
 refine Ok.andThen (A:=λ s=>s=(b.Al,b.Ad,b.Ac,b.Af,b.Phase,b.Ar,B5 b p.Ae (Ck b p) b.Ad.length,p.Ae,p.Ac,p.Am,p.Ai,acts)) (B:=λ (_:Unit)=>False) ?_ (λ s hs=>?_) (λ _ h=>h.elim)
 ·refine c6 (I:=λ j s=>s=(b.Al,b.Ad,b.Ac,b.Af,b.Phase,b.Ar,B5 b p.Ae (Ck b p) j,p.Ae,p.Ac,p.Am,p.Ai,acts)) rfl (λ j x s hx hs=>?_) λ s hs=>hs
  have hj:j<b.Ad.length:=(aa.1 hx).1
  have hfl:=He b p.Ae (Ck b p) j
  have hfs:=Kh (C:=p.Ae) (q:=Ck b p) hx
  subst hs
  unfold Wh
  rw [Co (by omega),A8 (G9 hp hj)]
  simp only [ab]
  have hd:=A3l h hp acts (ae hx)
  cases hC:p.Ae.getD j false with
  | false=>
   rw [hC] at hfs
   refine c5 ?_
   rw [hfs];simp
  | true=>
   rw [hC] at hfs
   refine Ok.bind (P:=λ y=>y=(Ck b p x,(⟨b,p,acts⟩:Ax))) (c7 hd rfl) λ y hy=>?_
   subst hy
   cases hq:Ck b p x with
   | false=>
    rw [hq] at hfs
    refine c5 ?_
    rw [hfs];simp
   | true=>
    rw [hq] at hfs
    refine Ok.bind (P:=λ y=>y=B5 b p.Ae (Ck b p) j++[(j:Int)]) (cW (by simp;omega)) λ y hy=>c5 ?_
    rw [hy,hfs];simp
 ·subst hs
  have hfl:=He b p.Ae (Ck b p) b.Ad.length
  refine Ok.andThen (Yw (b:=b) (p:=p) (acts:=acts) (l:=B5 b p.Ae (Ck b p) b.Ad.length) (by omega) λ i hi=>?_) (λ s hs=>?_) (λ _ h=>h.elim)
  ·obtain⟨k,rfl,hk,_⟩:=Hd.1 hi
   omega
  ·subst hs
   exact Ok.pure rfl
def B3 (b:Aa) (p:Ab):Ab:=⟨acC b p.Ae (Bx p),p.Ac,p.Am,p.Ai⟩
def I9 (b:Aa) (p:Ab):Ab:=⟨acC b (B3 b p).Ae (Ck b (B3 b p)),p.Ac,p.Am,p.Ai⟩
def Gs (b:Aa) (p:Ab):Ab:=⟨(I9 b p).Ae,Cr b (I9 b p),p.Am,p.Ai⟩
def Aai (b:Aa) (p:Ab):List Ak:=acA b p.Ae (Bx p)++acA b (B3 b p).Ae (Ck b (B3 b p))
theorem K_ {b:Aa} {p:Ab} (hp:Ao b p):Ao b (B3 b p):=Q1 hp _
theorem Nh {b:Aa} {p:Ab} (hp:Ao b p):Ao b (I9 b p):=Q1 (K_ hp) _
theorem J1 {b:Aa} {p:Ab} (hp:Ao b p):Ao b (Gs b p):=H0 (Nh hp) (Ft b _) (My (Nh hp))
theorem Apv {b:Aa} (h:Ap b) {p:Ab} (hp:Ao b p):Di b (Gs b p):=Qq h (Nh hp).nso
theorem Az4 (b:Aa) (p:Ab):(Aai b p).length<=2*b.Ad.length:=by
 have h1:=Xj b p.Ae (Bx p)
 have h2:=Xj b (B3 b p).Ae (Ck b (B3 b p))
 unfold Aai
 rw [aL];omega
theorem Az7 {b:Aa} (h:Ap b) {p:Ab} (hp:Ao b p):vO ⟨b,p,[]⟩=some ⟨b,Gs b p,Aai b p⟩:=by
 have hbl:=h.brl
 have hl:=Xj b p.Ae (Bx p)
 unfold vO
 rw [Ar0 h hp (by simp)]
 simp only [ab,cL]
 have e2:=Arz h (K_ hp) (acts:=acA b p.Ae (Bx p)) (by omega)
 have e3:=Pa h (Nh hp)
 refine d5 ?_
 refine Ok.bind (P:=λ y=>y=_) (c7 e2 rfl) λ y hy=>?_
 subst hy
 refine Ok.bind (P:=λ y=>y=_) (c7 e3 rfl) λ y hy=>?_
 subst hy
 exact Ok.pure rfl
def key (b:Aa) (c:Int):Int:=(b.Af.getD c.toNat default).Bl*100+c
theorem Jy {l:List Int} {m k:Nat} {v:Int}:(l.set m v).getD k 0=if m=k/\m<l.length then v else l.getD k 0:=by
 simp only [List.getD,am]
 by_cases e:m=k
 ·subst e
  by_cases hl:m<l.length
  ·simp [hl]
  ·simp [hl]
 ·simp [e]
theorem U_ {l:List Int} {k:Nat} (h:k<l.length):getI l (k:Int)=some (l.getD k 0):=A8 (by
 rw [af h];simp [List.getD,List.getElem?_eq_getElem h])
structure Srt (b:Aa) (n i:Nat) (d:List Int):Prop where
 len:d.length=n
 low:∀ k,k<i->k<n->0<=d.getD k 0/\d.getD k 0<(i:Int)
 asc:∀ k m,k<m->m<i->m<n->key b (d.getD k 0)<key b (d.getD m 0)
 rest:∀ k,i<=k->k<n->d.getD k 0=(k:Int)
 mem:∀ v,v<n->∃ k,k<n/\d.getD k 0=(v:Int)
structure Ins (b:Aa) (n i j:Nat) (d:List Int):Prop where
 len:d.length=n
 here:d.getD j 0=(i:Int)
 low:∀ k,k<=i->k≠j->0<=d.getD k 0/\d.getD k 0<(i:Int)
 asc:∀ k m,k<m->m<=i->k≠j->m≠j->key b (d.getD k 0)<key b (d.getD m 0)
 big:∀ k,j<k->k<=i->key b (i:Int)<key b (d.getD k 0)
 rest:∀ k,i<k->k<n->d.getD k 0=(k:Int)
 mem:∀ v,v<n->∃ k,k<n/\d.getD k 0=(v:Int)
theorem Srt.ins {b:Aa} {n i:Nat} {d:List Int} (h:Srt b n i d) (hi:i<n):Ins b n i i d where
 len:=h.len
 here:=h.rest i (au _) hi
 low k hk hne:=h.low k (by omega) (by omega)
 asc k m hkm hm hk hm2:=h.asc k m hkm (by omega) (by omega)
 big k h1 h2:=by omega
 rest k h1 h2:=h.rest k (by omega) h2
 mem:=h.mem
theorem Ins.done {b:Aa} {n i j:Nat} {d:List Int} (h:Ins b n i j d) (hj:j<=i) (hk:0<j->key b (d.getD (j-1) 0)<key b (i:Int)):Srt b n (i+1) d:=by
 refine⟨h.len,λ k h1 h2=>?_,λ k m hkm hm hn=>?_,λ k h1 h2=>h.rest k (by omega) h2,h.mem⟩
 ·by_cases e:k=j
  ·rw [e,h.here];omega
  ·have:=h.low k (by omega) e
   omega
 ·have lo:∀ k,k<j->key b (d.getD k 0)<key b (i:Int):=λ k hkj=>by
   have h3:=hk (by omega)
   by_cases e:k=j-1
   ·rw [e];exact h3
   ·have:=h.asc k (j-1) (by omega) (by omega) (by omega) (by omega)
    omega
  by_cases e:k=j
  ·subst e
   rw [h.here]
   exact h.big m hkm (by omega)
  ·by_cases e2:m=j
   ·subst e2
    rw [h.here]
    exact lo k hkm
   ·exact h.asc k m hkm (by omega) e e2
theorem Ins.step {b:Aa} {n i j:Nat} {d:List Int} (h:Ins b n i j d) (hj:j<=i) (h0:0<j) (hi:i<n) (hk:key b (i:Int)<key b (d.getD (j-1) 0)):Ins b n i (j-1) ((d.set j (d.getD (j-1) 0)).set (j-1) (i:Int)):=by
 have hl:=h.len
 have ev:∀ k,((d.set j (d.getD (j-1) 0)).set (j-1) (i:Int)).getD k 0=if k=j-1 then (i:Int) else if k=j then d.getD (j-1) 0 else d.getD k 0:=λ k=>by
  rw [Jy,Jy,bj]
  by_cases e1:k=j-1
  ·have c1:j-1=k/\j-1<d.length:=⟨e1.symm,by omega⟩
   rw [if_pos c1,if_pos e1]
  ·have c1:¬(j-1=k/\j-1<d.length):=λ hh=>e1 hh.1.symm
   rw [if_neg c1,if_neg e1]
   by_cases e2:k=j
   ·have c2:j=k/\j<d.length:=⟨e2.symm,by omega⟩
    rw [if_pos c2,if_pos e2]
   ·have c2:¬(j=k/\j<d.length):=λ hh=>e2 hh.1.symm
    rw [if_neg c2,if_neg e2]
 refine⟨by simp [hl],?_,λ k h1 h2=>?_,λ k m hkm hm hk1 hm1=>?_,λ k h1 h2=>?_,λ k h1 h2=>?_,λ v hv=>?_⟩
 ·rw [ev,if_pos rfl]
 ·rw [ev,if_neg h2]
  split
  ·exact h.low (j-1) (by omega) (by omega)
  ·exact h.low k h1 (by omega)
 ·rw [ev,ev,if_neg hk1,if_neg hm1]
  by_cases e1:k=j
  ·rw [if_pos e1,if_neg (by omega)]
   subst e1
   exact h.asc (k-1) m (by omega) hm (by omega) (by omega)
  ·rw [if_neg e1]
   by_cases e2:m=j
   ·rw [if_pos e2]
    exact h.asc k (j-1) (by omega) (by omega) e1 (by omega)
   ·rw [if_neg e2]
    exact h.asc k m hkm hm e1 e2
 ·rw [ev,if_neg (by omega)]
  split
  ·exact hk
  ·exact h.big k (by omega) h2
 ·rw [ev,if_neg (by omega),if_neg (by omega)]
  exact h.rest k h1 h2
 ·obtain⟨k,hk1,hk2⟩:=h.mem v hv
  by_cases e1:k=j
  ·refine⟨j-1,by omega,?_⟩
   rw [ev,if_pos rfl,←hk2,e1,h.here]
  ·by_cases e2:k=j-1
   ·refine⟨j,by omega,?_⟩
    rw [ev,if_neg (by omega),if_pos rfl,←hk2,e2]
   ·refine⟨k,hk1,?_⟩
    rw [ev,if_neg e2,if_neg e1];exact hk2
theorem At9 {b:Aa} {x y:Nat} (hx:x<b.Af.length) (hy:y<b.Af.length):Og (x:Int) (y:Int) b=some (if (b.Af.getD x default).Bl<(b.Af.getD y default).Bl then -1 else if (b.Af.getD x default).Bl>(b.Af.getD y default).Bl then 1 else 0):=by
 unfold Og
 rw [A8 (Gr hx),A8 (Gr hy)]
 simp only [ab,Aiy]
theorem Azl {b:Aa} (h:Ap b) {i:Nat} (hi:i<b.Af.length) {d:List Int} (hd:Ins b b.Af.length i i d) :
  Ok (whileN (Pi 0 b) 1152921504606846976 ((i:Int),d)) (D7 (λ s=>Srt b b.Af.length (i+1) s.2) λ (_:Unit)=>False):=by
 have hcl:=h.col
 refine c8 (λ s=>∃ j:Nat,s.1=(j:Int)/\j<=i/\Ins b b.Af.length i j s.2) (λ s=>s.1.toNat) _ _ ⟨i,rfl,au _,hd⟩ (by dsimp only;omega) ?_
 rintro⟨z,d⟩ ⟨j,hz,hj,hI⟩
 dsimp only at hz hI
 subst hz
 have hl:=hI.len
 unfold Pi
 dsimp only
 by_cases h0:0<j
 ·have e1:decide ((j:Int)>0)=true:=dC (by omega)
  have e2:w64 ((j:Int)-1)=((j-1:Nat):Int):=by rw [A5 (by omega)];omega
  have hlow:=hI.low (j-1) (by omega) (by omega)
  obtain⟨v,hv⟩:∃ v:Nat,d.getD (j-1) 0=(v:Int):=⟨(d.getD (j-1) 0).toNat,by omega⟩
  have hvi:v<i:=by omega
  have ec:=At9 (b:=b) hi (show v<b.Af.length by omega)
  have g1:Az [(decide ((j:Int)>0),true)] (getI d (j:Int)) default=some (i:Int):=by
   rw [e1,U_ (by omega),hI.here];rfl
  have g2:Az [(decide ((j:Int)>0),true)] (getI d (w64 ((j:Int)-1))) default=some (v:Int):=by
   rw [e1,e2,U_ (by omega),hv];rfl
  rw [g1,g2]
  simp only [ab]
  have g3:Az [(decide ((j:Int)>0),true)] (Og (i:Int) (v:Int) b) default=Og (i:Int) (v:Int) b:=by rw [e1];rw [ec];rfl
  rw [g3,ec]
  simp only [ab]
  have hci:=h.co i _ (Gr hi)
  have hcv:=h.co v _ (Gr (show v<b.Af.length by omega))
  have ki:key b (i:Int)=(b.Af.getD i default).Bl*100+(i:Int):=by unfold key;rw [ah]
  have kv:key b (v:Int)=(b.Af.getD v default).Bl*100+(v:Int):=by unfold key;rw [ah]
  refine c4 (λ hq=>?_) (λ hq=>?_)
  ·simp only [Zb,ac,dx] at hq
   have hlt:(b.Af.getD i default).Bl<(b.Af.getD v default).Bl:=by
    have:=hq.2
    split at this
    ·assumption
    ·split at this <;> omega
   have e3:getI d (w64 ((j:Int)-1))=some (d.getD (j-1) 0):=by rw [e2,U_ (by omega)]
   have e4:getI d (j:Int)=some (i:Int):=by rw [U_ (by omega),hI.here]
   rw [e3,e4]
   simp only [ab]
   rw [e2,Ns (by omega)]
   simp only [ab]
   rw [U_ (by rw [bj];omega)]
   simp only [ab]
   rw [Ns (by rw [bj];omega)]
   simp only [ab]
   refine c5 ⟨⟨j-1,rfl,by omega,hI.step hj h0 hi ?_⟩,by dsimp only;omega⟩
   rw [hv,ki,kv];omega
  ·refine cX (hI.done hj λ _=>?_)
   simp only [Zb,Bool.and_eq_false_iff,dy] at hq
   have hge:¬(b.Af.getD i default).Bl<(b.Af.getD v default).Bl:=by
    intro hlt
    rw [if_pos hlt] at hq
    omega
   rw [hv,ki,kv];omega
 ·have h00:j=0:=by omega
  subst h00
  exact cX (hI.done hj λ hh=>by omega)
theorem A2k {b:Aa} (h:Ap b) {d:List Int} (hd:Srt b b.Af.length 0 d):Ok (V9 d b) λ y=>Srt b b.Af.length b.Af.length y.1:=by
 have hcl:=h.col
 have hl:=hd.len
 unfold V9 yB
 rw [hl]
 refine Ok.bind (P:=λ y=>Srt b b.Af.length b.Af.length y.1) ?_ λ y hy=>Ok.pure hy
 refine Ok.andThen (A:=λ s=>s=((0:Int),(20:Int),d,b.Al,b.Ad,b.Ac,b.Af,b.Phase,b.Ar)) (B:=λ (_:Unit)=>False) ?_ (λ s hs=>?_) (λ _ h=>h.elim)
 ·refine c8 (λ s=>s=((0:Int),(20:Int),d,b.Al,b.Ad,b.Ac,b.Af,b.Phase,b.Ar)) (λ _=>0) _ _ rfl (by omega) ?_
  intro s hs
  subst hs
  unfold V1
  dsimp only
  refine c4 (λ hq=>?_) (λ _=>cX rfl)
  simp only [dx] at hq
  omega
 ·subst hs
  dsimp only
  refine Ok.bind (P:=λ y=>Srt b b.Af.length b.Af.length y.1) ?_ λ y hy=>?_
  ·unfold Vy
   have e1:w64 (0+1)=1:=by rw [A5 (by omega)];rfl
   rw [e1]
   refine Ok.andThen (A:=λ s=>Srt b b.Af.length b.Af.length s.2) (B:=λ (_:Unit)=>False) ?_ (λ s hs=>Ok.pure hs) (λ _ h=>h.elim)
   refine c8 (λ s=>∃ i:Nat,s.1=(i:Int)/\1<=i/\(i<=b.Af.length\/b.Af.length=0)/\Srt b b.Af.length i s.2) (λ s=>(100-s.1).toNat) _ _ ⟨1,rfl,by omega,by omega,?_⟩ (by dsimp only;omega) ?_
   ·refine⟨hl,λ k h1 h2=>?_,λ k m h1 h2 h3=>by omega,λ k h1 h2=>hd.rest k (by omega) h2,hd.mem⟩
    have:k=0:=by omega
    subst this
    have:=hd.rest 0 (au _) h2
    dsimp only
    rw [this];omega
   ·rintro⟨z,d'⟩ ⟨i,hz,h1,h2,hS⟩
    dsimp only at hz hS
    subst hz
    unfold Vx
    dsimp only
    refine c4 (λ hq=>?_) (λ hq=>cX ?_)
    ·simp only [dx] at hq
     have hin:i<b.Af.length:=by omega
     refine Ok.inner (Azl h hin (hS.ins hin)) (λ s hs=>?_) (λ _ h=>h.elim)
     have e2:w64 ((i:Int)+1)=((i+1:Nat):Int):=by rw [A5 (by omega)];omega
     rw [e2]
     exact c5 ⟨⟨i+1,rfl,by omega,by omega,hs⟩,by dsimp only;omega⟩
    ·simp only [dy] at hq
     dsimp only
     have hge:b.Af.length<=i:=by omega
     refine⟨hS.len,λ k g1 g2=>?_,λ k m g1 g2 g3=>hS.asc k m g1 (by omega) g3,λ k g1 g2=>by omega,hS.mem⟩
     obtain⟨w1,w2⟩:=hS.low k (by omega) g2
     exact⟨w1,by omega⟩
  ·refine Ok.andThen (A:=λ _=>True) (B:=λ (_:Unit)=>False) ?_ (λ s hs=>Ok.pure hy) (λ _ h=>h.elim)
   refine c8 (λ _=>True) (λ _=>0) _ _ trivial (by omega) ?_
   intro s _
   unfold V0
   refine c4 (λ hq=>?_) (λ _=>cX trivial)
   simp only [dx] at hq
   omega
def Cs (b:Aa):List Int:=(F85 b).getD []
theorem K0 {b:Aa} (h:Ap b):F85 b=some (Cs b)/\Srt b b.Af.length b.Af.length (Cs b):=by
 have hcl:=h.col
 have key:Ok (F85 b) λ y=>Srt b b.Af.length b.Af.length y:=by
  unfold F85
  rw [Za h]
  simp only [ab]
  refine c4 (λ hc=>by simp at hc) (λ _=>?_)
  refine Ok.andThen (A:=λ s=>s.2=Cv b.Af.length) (B:=λ (_:Unit)=>False) ?_ (λ s hs=>?_) (λ _ h=>h.elim)
  ·refine c8 (λ s=>∃ i:Nat,s.1=(i:Int)/\i<=b.Af.length/\s.2=Cv i) (λ s=>(100-s.1).toNat) _ _ ⟨0,rfl,by omega,rfl⟩ (by dsimp only;omega) ?_
   rintro⟨z,d⟩ ⟨i,hz,h1,h2⟩
   dsimp only at hz h2
   subst hz
   subst h2
   unfold Akm A1k
   dsimp only
   refine c4 (λ hq=>?_) (λ hq=>cX ?_)
   ·simp only [dx] at hq
    refine (cW (by simp [Cv];omega)).bind λ y hy=>?_
    have e2:w64 ((i:Int)+1)=((i+1:Nat):Int):=by rw [A5 (by omega)];omega
    rw [e2]
    refine c5 ⟨⟨i+1,rfl,by omega,?_⟩,by dsimp only;omega⟩
    dsimp only
    rw [hy]
    unfold Cv
    rw [bt,bo];rfl
   ·simp only [dy] at hq
    have:i=b.Af.length:=by omega
    subst this;rfl
  ·rw [hs]
   refine (A2k h ?_).bind λ y hy=>Ok.pure hy
   refine⟨by simp [Cv],λ k h1=>by omega,λ k m _ h1=>by omega,λ k _ h2=>Lw h2,λ v hv=>⟨v,hv,Lw hv⟩⟩
 obtain⟨r,e,hr⟩:=key
 have:Cs b=r:=by unfold Cs;rw [e];rfl
 rw [this]
 exact⟨e,hr⟩
theorem qH {b:Aa} (h:Ap b) {c:Int} (hc:c∈Cs b):0<=c/\c<b.Af.length:=by
 have hs:=(K0 h).2
 obtain⟨k,hk⟩:=List.mem_iff_getElem?.1 hc
 have hlt:=(aa.1 hk).1
 have:=hs.low k (by have:=hs.len;omega) (by have:=hs.len;omega)
 have e:(Cs b).getD k 0=c:=by simp [List.getD,hk]
 rwa [e] at this
theorem Am6 {b:Aa} (h:Ap b):(Cs b).length=b.Af.length:=(K0 h).2.len
theorem Aua {b:Aa} (h:Ap b):(Cs b).Nodup:=by
 have hs:=(K0 h).2
 have hl:=hs.len
 rw [ci,List.pairwise_iff_getElem]
 intro i j hi hj hij e
 have:=hs.asc i j hij (by omega) (by omega)
 simp only [List.getD,af hi,af hj,bQ,e] at this
 omega
def I3 (L:List Int) (l:List Int):Int:=l.foldl (λ s c=>s+L.getD c.toNat 0) 0
theorem H5 (L:List Int) (l:List Int) (c:Int):I3 L (l++[c])=I3 L l+L.getD c.toNat 0:=by
 unfold I3;rw [aN];rfl
def Bc (b:Aa) (p:Ab) (n:Nat):Nat:=((groups b p).getD n 0).toNat
def Bp (b:Aa) (p:Ab) (n:Nat):Int:=if 0<(isl b p (Bc b p n)).Ac.length then I3 p.Am (isl b p (Bc b p n)).Af else 0
def Lj (b:Aa):List Int:=b.Ac.map (·.Rating)
def Ci (b:Aa) (p:Ab) (n:Nat):Int:=I3 (Lj b) (isl b p (Bc b p n)).Ac
theorem G2 {b:Aa} {p:Ab} {f:Nat} {i:Int} (hi:i∈(isl b p f).Af):0<=i/\i<b.Af.length:=by
 obtain⟨k,hk,rfl⟩:=an.1 hi
 have:=aI.1 (ao.1 hk).1
 omega
theorem Jw {b:Aa} {p:Ab} {f:Nat} {i:Int} (hi:i∈(isl b p f).Ac):0<=i/\i<b.Ac.length:=by
 obtain⟨k,hk,rfl⟩:=an.1 hi
 have:=aI.1 (ao.1 hk).1
 omega
theorem Sc {b:Aa} (h:Ap b) {p:Ab} (hp:Ao b p) {c:Int} (h0:0<=c) (h1:c<b.Af.length):getI p.Am c=some (p.Am.getD c.toNat 0)/\0<=p.Am.getD c.toNat 0/\p.Am.getD c.toNat 0<=(b.Af.getD c.toNat default).Load/\p.Am.getD c.toNat 0<=50000:=by
 have hn:=hp.nli
 obtain⟨k,rfl⟩:∃ k:Nat,c=(k:Int):=⟨c.toNat,by omega⟩
 rw [ah]
 have hg:=Gr (b:=b) (i:=k) (by omega)
 have hl:=hp.lim k _ _ (Anc (p:=p) (by omega)) hg
 have hc:=(h.co k _ hg).1
 exact⟨A8 (Anc (by omega)),hl.1,hl.2,by omega⟩
theorem A6n {b:Aa} {c:Int} (h0:0<=c) (h1:c<b.Af.length):getI b.Af c=some (b.Af.getD c.toNat default):=by
 obtain⟨k,rfl⟩:∃ k:Nat,c=(k:Int):=⟨c.toNat,by omega⟩
 rw [ah]
 exact A8 (Gr (by omega))
theorem zS {b:Aa} (h:Ap b) {p:Ab} (hp:Ao b p) {n:Nat} (hn:n<b.Al.toNat):F87 b p (n:Int)=some (Bp b p n)/\0<=Bp b p n/\Bp b p n<=800000:=by
 have hcl:=h.col
 have hlen:(isl b p (Bc b p n)).Af.length<=b.Af.length:=C1 _ _
 have key:Ok (F87 b p (n:Int)) λ y=>y=Bp b p n/\0<=Bp b p n/\Bp b p n<=800000:=by
  unfold F87
  have hof:Io b p (n:Int)=some (isl b p (Bc b p n),true):=of_eq h hp hn
  rw [hof]
  simp only [ab]
  refine Ok.andThen (A:=λ s=>s=Bp b p n/\0<=Bp b p n/\Bp b p n<=800000) (B:=λ (_:Unit)=>False) ?_ (λ s hs=>Ok.pure hs) (λ _ h=>h.elim)
  by_cases hs:0<(isl b p (Bc b p n)).Ac.length
  ·refine c6 (I:=λ j s=>s=I3 p.Am ((isl b p (Bc b p n)).Af.take j)/\0<=s/\s<=50000*(j:Int)) ⟨rfl,by omega,by omega⟩ (λ j c s hc hI=>?_) λ s hI=>?_
   ·obtain⟨h1,h2,h3⟩:=hI
    have hj:j<(isl b p (Bc b p n)).Af.length:=(aa.1 hc).1
    have hcm:=G2 (ae hc)
    obtain⟨g1,g2,g3,g4⟩:=Sc h hp hcm.1 hcm.2
    unfold vJ
    have e:decide (((isl b p (Bc b p n)).Ac.length:Int)>0)=true:=dC (by omega)
    show Ok (bif decide (((isl b p (Bc b p n)).Ac.length:Int)>0) then _ else _) _
    rw [e,g1]
    simp only [cond_true,ab]
    rw [A5 (by omega)]
    refine c5 ⟨?_,by omega,by omega⟩
    rw [Bi hc,H5,h1]
   ·rw [ay] at hI
    have e:Bp b p n=I3 p.Am (isl b p (Bc b p n)).Af:=by unfold Bp;rw [if_pos hs]
    rw [e,←hI.1]
    exact⟨rfl,hI.2.1,by omega⟩
  ·have e:Bp b p n=0:=by unfold Bp;rw [if_neg hs]
   rw [e]
   refine c6 (I:=λ _ s=>s=0) rfl (λ j c s hc hI=>?_) λ s hI=>⟨hI,by omega,by omega⟩
   unfold vJ
   have e:decide (((isl b p (Bc b p n)).Ac.length:Int)>0)=false:=dD (by omega)
   show Ok (bif decide (((isl b p (Bc b p n)).Ac.length:Int)>0) then _ else _) _
   rw [e]
   exact c5 hI
 obtain⟨r,e,h1,h2⟩:=key
 rw [h1] at e
 exact⟨e,h2⟩
theorem O3 {b:Aa} (h:Ap b) {p:Ab} (hp:Ao b p) {n:Nat} (hn:n<b.Al.toNat):F88 b p (n:Int)=some (Ci b p n)/\0<=Ci b p n/\Ci b p n<=400000:=by
 have hcl:=h.sol
 have hlen:(isl b p (Bc b p n)).Ac.length<=b.Ac.length:=C1 _ _
 have key:Ok (F88 b p (n:Int)) λ y=>y=Ci b p n/\0<=Ci b p n/\Ci b p n<=400000:=by
  unfold F88
  have hof:Io b p (n:Int)=some (isl b p (Bc b p n),true):=of_eq h hp hn
  rw [hof]
  simp only [ab]
  refine Ok.andThen (A:=λ s=>s=Ci b p n/\0<=Ci b p n/\Ci b p n<=400000) (B:=λ (_:Unit)=>False) ?_ (λ s hs=>Ok.pure hs) (λ _ h=>h.elim)
  refine c6 (I:=λ j s=>s=I3 (Lj b) ((isl b p (Bc b p n)).Ac.take j)/\0<=s/\s<=50000*(j:Int)) ⟨rfl,by omega,by omega⟩ (λ j c s hc hI=>?_) λ s hI=>?_
  ·obtain⟨h1,h2,h3⟩:=hI
   have hj:j<(isl b p (Bc b p n)).Ac.length:=(aa.1 hc).1
   have hcm:=Jw (ae hc)
   unfold Akl
   refine (c9 hcm.1 hcm.2).bind λ y hy=>?_
   have hr:=(h.so y (ae hy)).1
   have e:(Lj b).getD c.toNat 0=y.Rating:=by simp [Lj,List.getD,hy]
   rw [A5 (by omega)]
   refine c5 ⟨?_,by omega,by omega⟩
   rw [Bi hc,H5,h1,e]
  ·rw [ay] at hI
   unfold Ci
   rw [←hI.1]
   exact⟨rfl,hI.2.1,by omega⟩
 obtain⟨r,e,h1,h2⟩:=key
 rw [h1] at e
 exact⟨e,h2⟩
def Bn (b:Aa) (p:Ab) (n:Nat):Int:=max 0 (Bp b p n-Ci b p n)
theorem Acl {b:Aa} (h:Ap b) {p:Ab} (hp:Ao b p) (acts:List Ak) {n:Nat} (hn:n<b.Al.toNat):Q6 ⟨b,p,acts⟩ (n:Int)=some (Bn b p n):=by
 obtain⟨h1,h2,h3⟩:=zS h hp hn
 obtain⟨h4,h5,h6⟩:=O3 h hp hn
 unfold Q6
 simp only [h1,h4,ab]
 rw [A5 (by omega)];rfl
theorem A3i {b:Aa} (h:Ap b) {p:Ab} (hp:Ao b p) {n:Nat} (hn:n<b.Al.toNat):0<=Bn b p n/\Bn b p n<=800000:=by
 obtain⟨h1,h2,h3⟩:=zS h hp hn
 obtain⟨h4,h5,h6⟩:=O3 h hp hn
 unfold Bn
 omega
def Bj (p:Ab) (L:List Int):Ab:=⟨p.Ae,p.Ac,L,p.Ai⟩
def Ba (p:Ab) (C:List Bool):Ab:=⟨C,p.Ac,p.Am,p.Ai⟩
def Dj (b:Aa) (p:Ab) (n:Nat) (c:Int):Int:=min (Bn b p n) (p.Am.getD c.toNat 0-(b.Af.getD c.toNat default).Least)
def Ic (b:Aa) (p:Ab) (n:Nat) (z:List Int×List Ak) (c:Int):List Int×List Ak:=
 if 0<Dj b (Bj p z.1) n c then (z.1.set c.toNat (z.1.getD c.toNat 0-Dj b (Bj p z.1) n c),z.2++[⟨5,c,z.1.getD c.toNat 0-Dj b (Bj p z.1) n c⟩]) else z
def G1 (b:Aa) (p:Ab) (n:Nat) (l:List Int) (z:List Int×List Ak):List Int×List Ak:=l.foldl (Ic b p n) z
theorem Ar9 {b:Aa} {p:Ab} (hp:Ao b p) {c:Nat} {v:Int} (hv:0<=v/\v<=(b.Af.getD c default).Load):Ao b (Bj p (p.Am.set c v)) where
 ncl:=hp.ncl
 nso:=hp.nso
 nli:=by simp [Bj,hp.nli]
 run:=hp.run
 lim i n x hn hx:=by
  simp only [Bj,am] at hn
  by_cases e:c=i
  ·subst e
   have ex:b.Af.getD c default=x:=by simp [List.getD,hx]
   rw [ex] at hv
   rw [if_pos rfl] at hn
   split at hn
   ·cases hn;exact hv
   ·cases hn
  ·rw [if_neg e] at hn
   exact hp.lim i n x hn hx
 one:=hp.one
 brk:=hp.brk
theorem Anb {b:Aa} (h:Ap b) {p:Ab} {n:Nat} {z:List Int×List Ak} (hz:Ao b (Bj p z.1)) {c:Int} (h0:0<=c) (h1:c<b.Af.length):Ao b (Bj p (Ic b p n z c).1):=by
 unfold Ic
 split
 ·rename_i hl
  obtain⟨_,g2,g3,_⟩:=Sc h hz h0 h1
  have hco:=(h.co c.toNat _ (Gr (b:=b) (i:=c.toNat) (by omega))).2.1
  have hm:Dj b (Bj p z.1) n c<=z.1.getD c.toNat 0-(b.Af.getD c.toNat default).Least:=cM _ _
  exact Ar9 (p:=Bj p z.1) hz (c:=c.toNat) ⟨by omega,by
   have:(Bj p z.1).Am.getD c.toNat 0=z.1.getD c.toNat 0:=rfl
   omega⟩
 ·exact hz
theorem Ay3 {b:Aa} (h:Ap b) {p:Ab} (hp:Ao b p) {acts:List Ak} {l:List Int} (hl:∀ c,c∈l->0<=c/\c<b.Af.length) (ha:acts.length+l.length<=100000) {n:Nat} (hn:n<b.Al.toNat) :
  Q_ ⟨b,p,acts⟩ l (n:Int)=some ⟨b,Bj p (G1 b p n l (p.Am,acts)).1,(G1 b p n l (p.Am,acts)).2⟩/\Ao b (Bj p (G1 b p n l (p.Am,acts)).1)/\(G1 b p n l (p.Am,acts)).2.length<=acts.length+l.length:=by
 have key : Ok (Q_ ⟨b, p, acts⟩ l (n : Int)) λ y => y = ⟨b, Bj p (G1 b p n l (p.Am, acts)).1, (G1 b p n l (p.Am, acts)).2⟩ /\ Ao b (Bj p (G1 b p n l (p.Am, acts)).1) /\ (G1 b p n l (p.Am, acts)).2.length <= acts.length + l.length := by
  unfold Q_
  refine Ok.andThen (A:=λ s=>s=G1 b p n l (p.Am,acts)/\Ao b (Bj p s.1)/\s.2.length<=acts.length+l.length) (B:=λ (_:Unit)=>False) ?_ (λ s hs=>?_) (λ _ h=>h.elim)
  ·refine c6 (I:=λ j s=>s=G1 b p n (l.take j) (p.Am,acts)/\Ao b (Bj p s.1)/\s.2.length<=acts.length+j) ⟨rfl,hp,by simp⟩ (λ j c s hc hI=>?_) λ s hI=>?_
   ·obtain⟨h1,h2,h3⟩:=hI
    have hj:j<l.length:=(aa.1 hc).1
    have hin:=hl c (ae hc)
    obtain⟨g1,g2,g3,g4⟩:=Sc h h2 hin.1 hin.2
    have hco:=(h.co c.toNat _ (Gr (b:=b) (i:=c.toNat) (by omega))).2.1
    have hcl:=(h.co c.toNat _ (Gr (b:=b) (i:=c.toNat) (by omega))).1
    have hex:=A3i h h2 hn
    have hE:=Acl h h2 s.2 hn
    have hsucc:G1 b p n (l.take (j+1)) (p.Am,acts)=Ic b p n s c:=by
     rw [Bi hc,h1];unfold G1;rw [aN];rfl
    have hok:=Anb (n:=n) h h2 hin.1 hin.2
    have hless:w64 ((Bj p s.1).Am.getD c.toNat 0-(b.Af.getD c.toNat default).Least)=(Bj p s.1).Am.getD c.toNat 0-(b.Af.getD c.toNat default).Least:=A5 (by omega)
    have hlen:s.1.length=b.Af.length:=h2.nli
    unfold Wa
    refine Ok.bind (P:=λ y=>y=Bn b (Bj p s.1) n) (c7 hE rfl) λ y hy=>?_
    subst hy
    refine Ok.bind (P:=λ y=>y=(Bj p s.1).Am.getD c.toNat 0) (c7 g1 rfl) λ y hy=>?_
    subst hy
    refine Ok.bind (P:=λ y=>y=b.Af.getD c.toNat default) (c7 (A6n hin.1 hin.2) rfl) λ y hy=>?_
    subst hy
    have em:min (Bn b (Bj p s.1) n) (w64 ((Bj p s.1).Am.getD c.toNat 0-(b.Af.getD c.toNat default).Least))=Dj b (Bj p s.1) n c:=by rw [hless];rfl
    have hlb:0<Dj b (Bj p s.1) n c->0<=(Bj p s.1).Am.getD c.toNat 0-Dj b (Bj p s.1) n c/\(Bj p s.1).Am.getD c.toNat 0-Dj b (Bj p s.1) n c<=50000:=λ hh=>by
     have hm:Dj b (Bj p s.1) n c<=(Bj p s.1).Am.getD c.toNat 0-(b.Af.getD c.toNat default).Least:=cM _ _
     omega
    refine c4 (λ hq=>?_) (λ hq=>?_)
    ·simp only [Zc,em,dx,gt_iff_lt] at hq
     have hb2:=hlb hq
     rw [em,A5 (by omega)]
     have eS:Ic b p n s c=(s.1.set c.toNat (s.1.getD c.toNat 0-Dj b (Bj p s.1) n c),s.2++[⟨5,c,s.1.getD c.toNat 0-Dj b (Bj p s.1) n c⟩]):=by unfold Ic;rw [if_pos hq]
     refine (cV hin.1 (by omega)).bind λ y hy=>?_
     subst hy
     refine Ok.bind (P:=λ v=>v=s.1.getD c.toNat 0-Dj b (Bj p s.1) n c) ?_ λ v hv=>?_
     ·refine (c9 hin.1 (by rw [bj];omega)).mono λ v hv=>?_
      rw [bG (by omega)] at hv
      cases hv;rfl
     ·subst hv
      refine (cW (by simp;omega)).bind λ w hw=>c5 ?_
      subst hw
      rw [hsucc,eS]
      rw [eS] at hok
      exact⟨rfl,hok,by simp;omega⟩
    ·simp only [Zc,em,dy,gt_iff_lt] at hq
     have eS:Ic b p n s c=s:=by unfold Ic;rw [if_neg hq]
     refine c5 ?_
     rw [hsucc,eS]
     exact⟨rfl,h2,by show s.2.length<=_;omega⟩
   ·rw [ay] at hI
    exact hI
  ·obtain⟨h1,h2,h3⟩:=hs
   subst h1
   exact Ok.pure ⟨rfl,h2,h3⟩
 obtain⟨r,e,h1,h2⟩:=key
 rw [h1] at e
 exact⟨e,h2⟩
def isC (c:Int) (x:Ah):Bool:=x.Kind==3&&x.B==c
theorem Ary {b:Aa} (h:Ap b) {p:Ab} (hp:Ao b p) {acts:List Ak} (ha:acts.length<=100000) (c:Int):Wg ⟨b,p,acts⟩ c=some (⟨b,Ba p (acC b p.Ae (isC c)),acts++acA b p.Ae (isC c)⟩,c):=by
 have hbl:=h.brl
 have hnc:=hp.ncl
 refine d5 ?_
 unfold Wg
 refine Ok.andThen (A:=λ s=>s=B5 b p.Ae (isC c) b.Ad.length) (B:=λ (_:Unit)=>False) ?_ (λ s hs=>?_) (λ _ h=>h.elim)
 ·refine c6 (I:=λ j s=>s=B5 b p.Ae (isC c) j) rfl (λ j x s hx hs=>?_) λ s hs=>hs
  have hj:j<b.Ad.length:=(aa.1 hx).1
  have hfl:=He b p.Ae (isC c) j
  have hfs:=Kh (C:=p.Ae) (q:=isC c) hx
  subst hs
  unfold Wf
  rw [Co (by omega),A8 (G9 hp hj)]
  simp only [ab]
  have e:V2 x c=isC c x:=rfl
  rw [e,hfs]
  cases (p.Ae.getD j false&&isC c x) with
  | false=>refine c5 ?_;simp
  | true=>
   refine Ok.bind (P:=λ y=>y=B5 b p.Ae (isC c) j++[(j:Int)]) (cW (by simp;omega)) λ y hy=>c5 ?_
   rw [hy];simp
 ·subst hs
  have hfl:=He b p.Ae (isC c) b.Ad.length
  refine Ok.andThen (Yw (b:=b) (p:=p) (acts:=acts) (l:=B5 b p.Ae (isC c) b.Ad.length) (by omega) λ i hi=>?_) (λ s hs=>?_) (λ _ h=>h.elim)
  ·obtain⟨k,rfl,hk,_⟩:=Hd.1 hi
   omega
  ·subst hs
   exact Ok.pure rfl
def Fi (b:Aa) (p:Ab) (n:Nat) (z:List Bool×List Ak) (c:Int):List Bool×List Ak:=
 if 0<p.Am.getD c.toNat 0/\0<Bn b (Ba p z.1) n then (acC b z.1 (isC c),z.2++acA b z.1 (isC c)) else z
def Ed (b:Aa) (p:Ab) (n:Nat) (l:List Int) (z:List Bool×List Ak):List Bool×List Ak:=l.foldl (Fi b p n) z
theorem A2e {b:Aa} (h:Ap b) {p:Ab} (hp:Ao b p) {acts:List Ak} {l:List Int} (hl:∀ c,c∈l->0<=c/\c<b.Af.length) (ha:acts.length+24*l.length<=100000) {n:Nat} (hn:n<b.Al.toNat) :
  Q9 ⟨b,p,acts⟩ l (n:Int)=some ⟨b,Ba p (Ed b p n l (p.Ae,acts)).1,(Ed b p n l (p.Ae,acts)).2⟩/\Ao b (Ba p (Ed b p n l (p.Ae,acts)).1)/\(Ed b p n l (p.Ae,acts)).2.length<=acts.length+24*l.length:=by
 have hbl:=h.brl
 have key : Ok (Q9 ⟨b, p, acts⟩ l (n : Int)) λ y => y = ⟨b, Ba p (Ed b p n l (p.Ae, acts)).1, (Ed b p n l (p.Ae, acts)).2⟩ /\ Ao b (Ba p (Ed b p n l (p.Ae, acts)).1) /\ (Ed b p n l (p.Ae, acts)).2.length <= acts.length + 24 * l.length := by
  unfold Q9
  refine Ok.andThen (A:=λ s=>∃ z:List Bool×List Ak,s=(b.Al,b.Ad,b.Ac,b.Af,b.Phase,b.Ar,z.1,p.Ac,p.Am,p.Ai,z.2)/\z=Ed b p n l (p.Ae,acts)/\Ao b (Ba p z.1)/\z.2.length<=acts.length+24*l.length) (B:=λ (_:Unit)=>False) ?_ (λ s hs=>?_) (λ _ h=>h.elim)
  ·refine c6 (I:=λ j s=>∃ z:List Bool×List Ak,s=(b.Al,b.Ad,b.Ac,b.Af,b.Phase,b.Ar,z.1,p.Ac,p.Am,p.Ai,z.2)/\z=Ed b p n (l.take j) (p.Ae,acts)/\Ao b (Ba p z.1)/\z.2.length<=acts.length+24*j) ⟨(p.Ae,acts),rfl,rfl,hp,by simp⟩ (λ j c s hc hI=>?_) λ s hI=>?_
   ·obtain⟨z,h0,h1,h2,h3⟩:=hI
    subst h0
    have hj:j<l.length:=(aa.1 hc).1
    have hin:=hl c (ae hc)
    obtain⟨g1,g2,g3,g4⟩:=Sc h hp hin.1 hin.2
    have hE:=Acl h h2 z.2 hn
    have hsucc:Ed b p n (l.take (j+1)) (p.Ae,acts)=Fi b p n z c:=by
     rw [Bi hc,h1];unfold Ed;rw [aN];rfl
    unfold V_
    refine Ok.bind (P:=λ y=>y=p.Am.getD c.toNat 0) (c7 g1 rfl) λ y hy=>?_
    subst hy
    have stay:¬(0<p.Am.getD c.toNat 0/\0<Bn b (Ba p z.1) n)->∃ w:List Bool×List Ak,(b.Al,b.Ad,b.Ac,b.Af,b.Phase,b.Ar,z.1,p.Ac,p.Am,p.Ai,z.2)=(b.Al,b.Ad,b.Ac,b.Af,b.Phase,b.Ar,w.1,p.Ac,p.Am,p.Ai,w.2)/\w=Ed b p n (l.take (j+1)) (p.Ae,acts)/\Ao b (Ba p w.1)/\w.2.length<=acts.length+24*(j+1):=λ hh=>by
     have eS:Fi b p n z c=z:=by unfold Fi;rw [if_neg hh]
     exact⟨z,rfl,by rw [hsucc,eS],h2,by omega⟩
    cases hq:decide (p.Am.getD c.toNat 0>0) with
    | false=>
     simp only [dy] at hq
     exact c5 (stay λ hh=>hq hh.1)
    | true=>
     simp only [dx] at hq
     refine Ok.bind (P:=λ y=>y=Bn b (Ba p z.1) n) (c7 hE rfl) λ y hy=>?_
     subst hy
     cases hq2:decide (Bn b (Ba p z.1) n>0) with
     | false=>
      simp only [dy] at hq2
      exact c5 (stay λ hh=>hq2 hh.2)
     | true=>
      simp only [dx] at hq2
      have hS:=Ary h h2 (acts:=z.2) (by omega) c
      refine Ok.bind (P:=λ y=>y=_) (c7 hS rfl) λ y hy=>c5 ?_
      subst hy
      have eS:Fi b p n z c=(acC b z.1 (isC c),z.2++acA b z.1 (isC c)):=by unfold Fi;rw [if_pos ⟨hq,hq2⟩]
      refine⟨(acC b z.1 (isC c),z.2++acA b z.1 (isC c)),rfl,by rw [hsucc,eS],Q1 h2 (isC c),?_⟩
      have:=Xj b z.1 (isC c)
      show (z.2++acA b z.1 (isC c)).length<=_
      rw [aL];omega
   ·rw [ay] at hI
    exact hI
  ·obtain⟨z,h0,h1,h2,h3⟩:=hs
   subst h0;subst h1
   exact Ok.pure ⟨rfl,h2,h3⟩
 obtain⟨r,e,h1,h2⟩:=key
 rw [h1] at e
 exact⟨e,h2⟩
def Dk (x:Aj) (c:Int):Bool:=x.Af.any (c == ·)
theorem A07 {x:Aj} (hx:x.Af.length<=1000) (c:Int):Ra c x=some (!Dk x c):=by
 unfold Ra
 rw [Eh _ _ (by omega)];rfl
theorem Acq {x:Aj} (hx:x.Af.length<=1000):∀ (l:List Int) (k:Nat),foldI (Pj x) l k ()=match l.findIdx? λ c=>!Dk x c with
  | some j=>some (.ret (cnt 0 (k+j),x))
  | none=>some (.next ())
 | [],_=>rfl
 | c::l,k=>by
  simp only [foldI,Pj,A07 hx,ab,List.findIdx?_cons]
  cases hq:(!Dk x c) with
  | true=>rfl
  | false=>
   simp only [cond_false,bO,if_false]
   rw [Acq hx l (k+1)]
   cases l.findIdx? λ c=>!Dk x c with
   | none=>rfl
   | some j=>
    have e:k+1+j=k+(j+1):=by omega
    simp only [bU,e]
theorem A3k {x:Aj} (hx:x.Af.length<=1000) (l:List Int) (hl:l.length<=1000):Wc l x=some (l.filter (Dk x),x):=by
 refine d5 ?_
 unfold Wc yD
 rw [Acq hx]
 cases hf:l.findIdx? λ c=>!Dk x c with
 | none=>
  rw [cS] at hf
  refine Ok.pure ?_
  have:l.filter (Dk x)=l:=by
   rw [cE]
   intro c hc
   have:=hf c hc
   simpa using this
  rw [this]
 | some i=>
  rw [cT] at hf
  obtain⟨hi,hp,hn⟩:=hf
  have e0:cnt 0 (0+i)=(i:Int):=by rw [aE];exact Co (by omega)
  simp only [e0,andThen,ab]
  refine c4 (λ hc=>?_) (λ _=>?_)
  ·simp only [dz] at hc;omega
  have e1:w64 ((i:Int)+1)=(i:Int)+1:=A5 (by omega)
  rw [e1]
  refine Ok.andThen (A:=λ s=>0<=s.1/\s.1<=(l.length:Int)/\s.2.2.length=l.length/\s.2.2.take s.1.toNat=l.filter (Dk x)) (B:=λ (_:Unit)=>False) ?_ ?_ (λ _ h=>h.elim)
  ·refine c8 (λ s=>(0<=s.1/\s.1<s.2.1/\s.2.1<=(l.length:Int))/\s.2.2.length=l.length/\s.2.2.take s.1.toNat=(l.take s.2.1.toNat).filter (Dk x)/\s.2.2.drop s.2.1.toNat=l.drop s.2.1.toNat) (λ s=>((l.length:Int)-s.2.1).toNat) _ _ ?_ ?_ ?_
   ·refine⟨by dsimp only;omega,rfl,?_,rfl⟩
    dsimp only
    have e2:((i:Int)+1).toNat=i+1:=by omega
    rw [e2,ah,Bi (af hi),bm]
    have h1:(l.take i).filter (Dk x)=l.take i:=by
     rw [cE]
     intro c hc
     obtain⟨j,hj,rfl⟩:=cd hc
     simp only [aK] at hj
     rw [List.getElem_take]
     have:=hn j (by omega)
     simpa using this
    have h2:Dk x l[i]=false:=by simpa using hp
    rw [h1]
    simp [h2]
   ·dsimp only;omega
   ·rintro⟨a,j,m⟩ ⟨⟨h1,h2,h3⟩,h4,h5,h6⟩
    dsimp only at h1 h2 h3 h4 h5 h6
    unfold Wb Ai3
    dsimp only
    refine c4 (λ hq=>?_) (λ hq=>?_)
    ·simp only [dx] at hq
     have e1:w64 (j+1)=j+1:=A5 (by omega)
     have e2:w64 (a+1)=a+1:=A5 (by omega)
     have e3:(j+1).toNat=j.toNat+1:=by omega
     have e4:(a+1).toNat=a.toNat+1:=by omega
     refine (c9 (by omega) (by omega)).bind λ y hy=>?_
     have hyl:l[j.toNat]? = some y:=by
      have:=congrArg (·[0]?) h6
      simp only [ar,cv] at this
      rw [←this];exact hy
     have hdrop:∀ (q:List Int),q.drop j.toNat=l.drop j.toNat->q.drop (j.toNat+1)=l.drop (j.toNat+1):=λ q hq=>by
      rw [←bT,hq,bT]
     rw [A07 hx]
     simp only [ab,Bool.not_not]
     refine c4 (λ hf=>?_) (λ hf=>?_)
     ·refine (c9 (by omega) (by omega)).bind λ _ _=>(cV (by omega) (by omega)).bind λ z hz=>?_
      rw [e1,e2]
      subst hz
      refine c5 ⟨⟨by dsimp only;omega,by simpa using h4,?_,?_⟩,by dsimp only;omega⟩
      ·dsimp only
       rw [e3,e4,Bi hyl,bm,←h5]
       rw [Bi (x:=y) (by rw [bG (by omega)])]
       simp [hf,List.take_set_of_le]
      ·dsimp only
       rw [e3,List.drop_set_of_lt (by omega)]
       exact hdrop m h6
     ·rw [e1]
      refine c5 ⟨⟨by dsimp only;omega,h4,?_,?_⟩,by dsimp only;omega⟩
      ·dsimp only
       rw [e3,Bi hyl,bm,←h5]
       simp [hf]
      ·dsimp only
       rw [e3];exact hdrop m h6
    ·simp only [dy] at hq
     have e:j.toNat=l.length:=by omega
     refine cX ⟨h1,by dsimp only;omega,h4,?_⟩
     dsimp only
     rw [h5,e,ay]
  ·rintro⟨a,j,m⟩ ⟨h1,h2,h3,h4⟩
   dsimp only at h1 h2 h3 h4 ⊢
   have hc:(Hf m a.toNat ((Int.toNat (m.length:Int))-a.toNat) (0:Int)).length=l.length:=by
    simp [Hf];omega
   refine (Ok.bndI h1 (by omega) (by omega)).bind λ _ _=>(Ok.bndI (by omega) h1 (by rw [hc];omega)).bind λ _ _=>Ok.pure ?_
   rw [←h4]
   unfold Hf
   rw [Nat.sub_zero,ce (by simp;omega),List.take_take,Nat.min_self]
def F3 (b:Aa) (x:Aj):List Int:=(Cs b).filter (Dk x)
theorem Wu {b:Aa} (h:Ap b) {x:Aj} {c:Int} (hc:c∈F3 b x):0<=c/\c<b.Af.length:=qH h (ao.1 hc).1
theorem Ays {b:Aa} (h:Ap b) (x:Aj):(F3 b x).length<=16:=by
 have h1:=bp (Dk x) (Cs b)
 have h2:=Am6 h
 have h3:=h.col
 unfold F3;omega
def Ea (x:Aj):Nat:=(x.Al.headD 0).toNat
def H9 (b:Aa) (x:Aj) (z:Ab×List Ak):List Int×List Ak:=G1 b z.1 (Ea x) (F3 b x) (z.1.Am,z.2)
def Kw (b:Aa) (x:Aj) (z:Ab×List Ak):List Bool×List Ak:=Ed b (Bj z.1 (H9 b x z).1) (Ea x) (F3 b x) (z.1.Ae,(H9 b x z).2)
def Gy (b:Aa) (z:Ab×List Ak) (x:Aj):Ab×List Ak:=
 if 0<x.Ac.length then (Ba (Bj z.1 (H9 b x z).1) (Kw b x z).1,(Kw b x z).2) else z
def F1 (b:Aa) (l:List Aj) (z:Ab×List Ak):Ab×List Ak:=l.foldl (Gy b) z
structure A18 (b:Aa) (x:Aj):Prop where
 cons:x.Af.length<=16
 ne:x.Al≠[]
 bus:∀ n,n∈x.Al->0<=n/\n<b.Al
theorem Ql {b:Aa} (h:Ap b) {p:Ab} {x:Aj} (hx:x∈Bg b p):A18 b x:=by
 have hcl:=h.col
 unfold Bg at hx
 obtain⟨h1,h2⟩:=ao.1 hx
 obtain⟨f,hf,rfl⟩:=an.1 h1
 have hc:(isl b p f).Af.length<=b.Af.length:=C1 _ _
 refine⟨by omega,λ e=>?_,λ n hn=>?_⟩
 ·unfold I6 at h2
  rw [e] at h2;simp at h2
 ·obtain⟨k,hk,rfl⟩:=an.1 hn
  have:=aI.1 (ao.1 hk).1
  omega
theorem Ob {b:Aa} {x:Aj} (hx:A18 b x):getI x.Al 0=some ((Ea x:Nat):Int)/\Ea x<b.Al.toNat:=by
 unfold Ea
 cases hb:x.Al with
 | nil=>exact absurd hb hx.ne
 | cons n l=>
  have:=hx.bus n (by rw [hb];exact ag)
  simp only [List.headD_cons]
  refine⟨?_,by omega⟩
  have e:(n.toNat:Int)=n:=by omega
  rw [e];rfl
theorem A2n {b:Aa} (h:Ap b) {p:Ab} (hp:Ao b p) {acts:List Ak} (ha:acts.length<=1000) :
  Xr ⟨b,p,acts⟩=some ⟨b,(F1 b (Bg b p) (p,acts)).1,(F1 b (Bg b p) (p,acts)).2⟩/\Ao b (F1 b (Bg b p) (p,acts)).1/\(F1 b (Bg b p) (p,acts)).2.length<=10000:=by
 have hil:=Qj b p
 have hbu:=h.buses
 have hcl:=h.col
 have hol:=Am6 h
 have key:Ok (Xr ⟨b,p,acts⟩) λ y=>y=⟨b,(F1 b (Bg b p) (p,acts)).1,(F1 b (Bg b p) (p,acts)).2⟩/\Ao b (F1 b (Bg b p) (p,acts)).1/\(F1 b (Bg b p) (p,acts)).2.length<=10000:=by
  unfold Xr
  simp only [(K0 h).1,ab]
  have hi:Z6 b p=some (Bg b p):=Kf h hp
  refine Ok.bind (P:=λ y=>y=Bg b p) (c7 hi rfl) λ y hy=>?_
  subst hy
  refine Ok.andThen (A:=λ s=>∃ z:Ab×List Ak,s=(b.Al,b.Ad,b.Ac,b.Af,b.Phase,b.Ar,z.1.Ae,z.1.Ac,z.1.Am,z.1.Ai,z.2)/\z=F1 b (Bg b p) (p,acts)/\Ao b z.1/\z.2.length<=10000) (B:=λ (_:Unit)=>False) ?_ (λ s hs=>?_) (λ _ h=>h.elim)
  ·refine c6 (I:=λ j s=>∃ z:Ab×List Ak,s=(b.Al,b.Ad,b.Ac,b.Af,b.Phase,b.Ar,z.1.Ae,z.1.Ac,z.1.Am,z.1.Ai,z.2)/\z=F1 b ((Bg b p).take j) (p,acts)/\Ao b z.1/\z.2.length<=1000+400*j) ⟨(p,acts),rfl,rfl,hp,by simpa using ha⟩ (λ j x s hx hI=>?_) λ s hI=>?_
   ·obtain⟨z,h0,h1,h2,h3⟩:=hI
    subst h0
    have hj:j<(Bg b p).length:=(aa.1 hx).1
    have hin:=Ql h (ae hx)
    have hsucc:F1 b ((Bg b p).take (j+1)) (p,acts)=Gy b z x:=by
     rw [Bi hx,h1];unfold F1;rw [aN];rfl
    have hc:=hin.cons
    have hol2:=Ays h x
    obtain⟨e0,hb0⟩:=Ob hin
    unfold Zt
    have ecl:F80 (Cs b)=some (Cs b):=by
     unfold F80
     rw [Sz (by omega)]
    rw [ecl]
    simp only [ab]
    rw [A3k (by omega) _ (by omega)]
    simp only [ab]
    refine c4 (λ hq=>?_) (λ hq=>?_)
    ·simp only [dx] at hq
     rw [e0]
     simp only [ab]
     obtain⟨l1,l2,l3⟩:=Ay3 h h2 (acts:=z.2) (l:=F3 b x) (λ c hc=>Wu h hc) (by omega) hb0
     refine Ok.bind (P:=λ y=>y=_) (c7 l1 rfl) λ y hy=>?_
     subst hy
     obtain⟨t1,t2,t3⟩:=A2e h l2 (acts:=(H9 b x z).2) (l:=F3 b x) (λ c hc=>Wu h hc) (by unfold H9;omega) hb0
     refine Ok.bind (P:=λ y=>y=_) (c7 t1 rfl) λ y hy=>c5 ?_
     subst hy
     have eS:Gy b z x=(Ba (Bj z.1 (H9 b x z).1) (Kw b x z).1,(Kw b x z).2):=by unfold Gy;rw [if_pos (by omega)]
     refine⟨(Ba (Bj z.1 (H9 b x z).1) (Kw b x z).1,(Kw b x z).2),rfl,by rw [hsucc,eS],t2,?_⟩
     have t4:(Kw b x z).2.length<=(H9 b x z).2.length+24*(F3 b x).length:=t3
     have l4:(H9 b x z).2.length<=z.2.length+(F3 b x).length:=l3
     show (Kw b x z).2.length<=_
     omega
    ·simp only [dy] at hq
     have eS:Gy b z x=z:=by unfold Gy;rw [if_neg (by omega)]
     exact c5 ⟨z,rfl,by rw [hsucc,eS],h2,by omega⟩
   ·rw [ay] at hI
    obtain⟨z,h0,h1,h2,h3⟩:=hI
    exact⟨z,h0,h1,h2,by omega⟩
  ·obtain⟨z,h0,h1,h2,h3⟩:=hs
   subst h0;subst h1
   exact Ok.pure ⟨rfl,h2,h3⟩
 obtain⟨r,e,h1,h2⟩:=key
 rw [h1] at e
 exact⟨e,h2⟩
def Ayl (b:Aa) (p:Ab):Ab×List Ak:=F1 b (Bg b (Gs b p)) (Gs b p,Aai b p)
def F2 (b:Aa) (p:Ab):Ab:=(Ayl b p).1
def yY (b:Aa) (p:Ab):List Ak:=(Ayl b p).2
theorem Mu {b:Aa} (h:Ap b) {p:Ab} (hp:Ao b p):F31 b p=some (F2 b p,yY b p,0)/\Ao b (F2 b p)/\(yY b p).length<=10000:=by
 have hbl:=h.brl
 have hcl:=Az4 b p
 obtain⟨s1,s2,s3⟩:=A2n h (J1 hp) (acts:=Aai b p) (by omega)
 refine⟨?_,s2,s3⟩
 unfold F31 Ae7 Ae6
 rw [B4 h hp,C3 h hp]
 simp only [ab,dF,cond_false]
 rw [Az7 h hp]
 simp only [ab]
 rw [s1]
 rfl
theorem Pb {α:Type} {f:Nat->α->Unit->Option (Ctl Unit Bool)} {l m:List α} {e:α->α->Bool} (he:∀ x y,e x y=true->x=y)
  (hf:∀ (j:Nat) x y,l[j]? = some x->m[j]? = some y->f j x ()=bif !e x y then some (.ret false) else some (.next ())) (hl:l.length=m.length) :
  Ok (andThen (foldI f l 0 ()) some λ _=>some true) λ v=>v=true->l=m:=by
 refine Ok.andThen (A:=λ _=>l=m) (B:=λ v=>v=false) ?_ (λ _ hs=>Ok.pure λ _=>hs) (λ v hv=>Ok.pure λ hh=>by rw [hv] at hh;cases hh)
 refine c6 (I:=λ j _=>l.take j=m.take j) rfl (λ j x _ hx hI=>?_) λ _ hI=>?_
 ·have hj:=(aa.1 hx).1
  have hy:m[j]? = some (m[j]'(by omega)):=af (by omega)
  rw [hf j x _ hx hy]
  refine c4 (λ _=>Ok.ret rfl) (λ hq=>c5 ?_)
  have:=he _ _ (by simpa using hq)
  rw [Bi hx,Bi hy,hI,←this]
 ·rw [ay] at hI
  rw [hI,hl,ay]
theorem A5l {l m:List Bool} (h:l.length<=1000):Ok (F72 l m) λ v=>v=true->l=m:=by
 unfold F72
 refine c4 (λ _=>Ok.pure λ hh=>by cases hh) (λ hq=>?_)
 have hl:l.length=m.length:=by simp only [dE] at hq;omega
 refine Pb (e:=λ x y=>x==y) (λ x y hh=>by simpa using hh) (λ j x y hx hy=>?_) hl
 have hj:=(aa.1 hx).1
 unfold vN
 rw [Co (by omega),A8 hy];rfl
theorem A5k {l m:List Int} (h:l.length<=1000):Ok (F74 l m) λ v=>v=true->l=m:=by
 unfold F74
 refine c4 (λ _=>Ok.pure λ hh=>by cases hh) (λ hq=>?_)
 have hl:l.length=m.length:=by simp only [dE] at hq;omega
 refine Pb (e:=λ x y=>x==y) (λ x y hh=>by simpa using hh) (λ j x y hx hy=>?_) hl
 have hj:=(aa.1 hx).1
 unfold vL
 rw [Co (by omega),A8 hy];rfl
theorem A5i {l m:List Ag} (h:l.length<=1000):Ok (F73 l m) λ v=>v=true->l=m:=by
 unfold F73
 refine c4 (λ _=>Ok.pure λ hh=>by cases hh) (λ hq=>?_)
 have hl:l.length=m.length:=by simp only [dE] at hq;omega
 refine Pb (e:=λ x y=>(x.State==y.State)&&((x.Since==y.Since)&&((x.Ar==y.Ar)&&((x.Phase==y.Phase)&&true)))) (λ x y hh=>?_) (λ j x y hx hy=>?_) hl
 ·simp only [ac,dz] at hh
  obtain⟨h1,h2,h3,h4,_⟩:=hh
  cases x;cases y;simp_all
 ·have hj:=(aa.1 hx).1
  unfold vM
  rw [Co (by omega),A8 hy];rfl
theorem A5j {l m:List As} (h:l.length<=1000):Ok (F75 l m) λ v=>v=true->l=m:=by
 unfold F75
 refine c4 (λ _=>Ok.pure λ hh=>by cases hh) (λ hq=>?_)
 have hl:l.length=m.length:=by simp only [dE] at hq;omega
 refine Pb (e:=λ x y=>(x.Kind==y.Kind)&&((x.Number==y.Number)&&true)) (λ x y hh=>?_) (λ j x y hx hy=>?_) hl
 ·simp only [ac,dz] at hh
  obtain⟨h1,h2,_⟩:=hh
  cases x;cases y;simp_all
 ·have hj:=(aa.1 hx).1
  unfold vK
  rw [Co (by omega),A8 hy];rfl
def Rt (p q:Ab):Bool:=(F32 p q).getD false
theorem A2p {p:Ab} (hp:A0u p) (q:Ab):F32 p q=some (Rt p q)/\(Rt p q=true->p=q):=by
 have h1:=hp.c
 have h2:=hp.s
 have h3:=hp.l
 have h4:=hp.k
 have key:Ok (F32 p q) λ v=>v=true->p=q:=by
  unfold F32
  refine (A5l (l:=p.Ae) (m:=q.Ae) (by omega)).bind λ v1 e1=>?_
  cases v1 with
  | false=>exact Ok.pure λ hh=>by simp at hh
  | true=>
   refine Ok.bind (P:=λ v=>v=true->p.Ac=q.Ac) (A5i (by omega)) λ v2 e2=>?_
   cases v2 with
   | false=>exact Ok.pure λ hh=>by simp at hh
   | true=>
    refine Ok.bind (P:=λ v=>v=true->p.Am=q.Am) (A5k (by omega)) λ v3 e3=>?_
    cases v3 with
    | false=>exact Ok.pure λ hh=>by simp at hh
    | true=>
     refine Ok.bind (P:=λ v=>v=true->p.Ai=q.Ai) (A5j (by omega)) λ v4 e4=>Ok.pure λ hh=>?_
     have w1:=e1 rfl
     have w2:=e2 rfl
     have w3:=e3 rfl
     have w4:=e4 (by simpa using hh)
     cases p;cases q;simp_all
 obtain⟨r,e,hr⟩:=key
 have:Rt p q=r:=by unfold Rt;rw [e];rfl
 rw [this]
 exact⟨e,hr⟩
def Fy (b:Aa) (p:Ab) (t:Int) (a:Ak):Ab×Int:=(F27 b p t a).getD default
theorem Xi {b:Aa} (h:Ap b) {p:Ab} (hp:Ao b p) (t:Int) (a:Ak):F27 b p t a=some (Fy b p t a)/\((Fy b p t a).2≠0\/Ao b (Fy b p t a).1):=by
 obtain⟨r,e,hr⟩:=A60 h hp t a
 have:Fy b p t a=r:=by unfold Fy;rw [e];rfl
 rw [this]
 exact⟨e,hr.imp (·.1) (·.2)⟩
def Aab (b:Aa) (p:Ab) (t:Int) (a:Ak):Int:=if a.Kind=7 then 1 else (Fy b p t a).2
def Aoy (b:Aa) (p:Ab) (t:Int) (a:Ak):Ab:=(Fy b p t a).1
def doP (b:Aa) (p:Ab) (t:Int) (a:Ak):Ab:=if Aab b p t a=0 then F2 b (Aoy b p t a) else p
theorem Ava {b:Aa} (h:Ap b) {p:Ab} (hp:Ao b p) {t:Int} {a:Ak} (he:Aab b p t a=0):Ao b (Aoy b p t a)/\(Fy b p t a).2=0/\a.Kind≠7:=by
 unfold Aab at he
 by_cases hk:a.Kind=7
 ·rw [if_pos hk] at he;omega
 ·rw [if_neg hk] at he
  rcases (Xi h hp t a).2 with h1 | h1
  ·exact absurd he h1
  ·exact⟨h1,he,hk⟩
theorem A6l {b:Aa} (h:Ap b) {p:Ab} (hp:Ao b p) (t:Int) (a:Ak):Ao b (doP b p t a):=by
 unfold doP
 split
 ·rename_i he
  exact (Mu h (Ava h hp he).1).2.1
 ·exact hp
theorem Aow {b:Aa} (h:Ap b) {p:Ab} (hp:Ao b p) {n:Nat} (hn:n<b.Al.toNat):Io b p (n:Int)=some (isl b p (Bc b p n),true):=of_eq h hp hn
theorem Azh {b:Aa} (h:Ap b) (p:Ab) (f:Nat):(isl b p f).Al.length<=1000/\(isl b p f).Ac.length<=1000:=by
 have h1:=h.buses
 have h2:=h.sol
 have h3:(isl b p f).Al.length<=b.Al.toNat:=C1 _ _
 have h4:(isl b p f).Ac.length<=b.Ac.length:=C1 _ _
 omega
def E2 (b:Aa) (T:Int) (p:Ab) (l:List Ak):Ab:=l.foldl (λ q a=>doP b q T a) p
theorem P8 {b:Aa} (h:Ap b) (T:Int):∀ (l:List Ak) {p:Ab},Ao b p->Ao b (E2 b T p l)
 | [],_,hp=>hp
 | a::l,_,hp=>P8 h T l (A6l h hp T a)
def wtP (b:Aa) (P:Ab) (T:Int):Ab:=(Fy b P T ⟨7,0,0⟩).1
theorem Afc {b:Aa} (h:Ap b) {P:Ab} (hp:Ao b P) {T:Int} (hT:0<=T/\T<=2147483648):F27 b P T ⟨7,0,0⟩=some (wtP b P T,0)/\Ao b (wtP b P T)/\∃ w,Ko ⟨b,P,T⟩=some w/\w.Aq=wtP b P T:=by
 obtain⟨w,hw,hwo⟩:=Amf h hp T
 have key:F27 b P T ⟨7,0,0⟩=some (w.Aq,0):=by
  refine d5 ?_
  unfold F27
  rw [B4 h hp,A4e,C3 h hp]
  simp only [ab]
  refine c4 (λ hc=>by simp at hc) (λ _=>c4 (λ hc=>?_) (λ _=>c4 (λ hc=>by simp at hc) (λ _=>?_)))
  ·simp [Aej] at hc;omega
  ·have:Kn ⟨b,P,T⟩ ⟨7,0,0⟩=some (0,w):=by
    unfold Kn
    rw [hw];rfl
   rw [this]
   exact Ok.pure rfl
 have e:wtP b P T=w.Aq:=by unfold wtP Fy;rw [key];rfl
 rw [e]
 exact⟨key,hwo,w,hw,rfl⟩
end Go.Proofs.YtcigbocngfaopaaGreat
