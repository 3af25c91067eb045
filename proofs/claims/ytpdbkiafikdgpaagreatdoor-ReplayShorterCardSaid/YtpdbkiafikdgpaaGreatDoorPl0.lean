import Derived.Test.YtpdbkiafikdgpaaGreatDoorMo
import Derived.Test.YtpdbkiafikdgpaaGreatDoorHo
import Derived.Lib.ItoaLen
namespace Go.Proofs.YtpdbkiafikdgpaaGreatDoor
open Go.SL
theorem Ph {x n:Int} (h:0<n):-n<Int.tmod x n/\Int.tmod x n<n:=by
 have h1:=Int.tmod_lt_of_pos x h
 have h2:=Int.lt_tmod_of_pos x h
 exact⟨h2,h1⟩
theorem Ake {x n:Int} (h:0<n) (h0:0<=x):0<=Int.tmod x n/\Int.tmod x n<n:=⟨Int.tmod_nonneg n h0,(Ph h).2⟩
structure Bq (s:Ah):Prop where
 lo:0<=s.At
 hi:s.At<=s.L.length
 len:s.L.length<=600
def InR (n r:Int):Prop:=(1<=n->0<=r/\r<n)/\(n<1->r=0)
theorem A4o (x n:Int) (h:n<=4611686018427387904):Ok (F35 x n) (InR n):=by
 unfold F35
 refine cR (λ h1=>?_) λ h1=>?_
 ·simp only [dA] at h1
  exact c9 ⟨λ h2=>by omega,λ _=>rfl⟩
 ·simp only [dC] at h1
  refine (Ok.nzI (by omega)).bind λ _ _=>(Ok.nzI (by omega)).bind λ _ _=>c9 ⟨λ _=>?_,λ h2=>by omega⟩
  have h2:=Ph (x:=x) (n:=n) (by omega)
  rw [A9 (by omega)]
  exact Ake (by omega) (by omega)
theorem Ts {s:Ah} (hs:Bq s) (n:Int) (h:n<=4611686018427387904):Ok (F19 s n) λ y=>Bq y.2/\InR n y.1:=by
 obtain⟨h1,h2,h3⟩:=hs
 unfold F19
 refine cR (λ h4=>?_) λ h4=>?_
 ·exact c9 ⟨⟨h1,h2,h3⟩,λ h5=>⟨by simp,by show (0:Int)<n;omega⟩,λ _=>rfl⟩
 ·simp only [dC] at h4
  have e:w64 (s.At+1)=s.At+1:=A9 (by omega)
  rw [e,A9 (n:=s.At+1-1) (by omega)]
  refine (cV (by omega) (by omega)).bind λ x _=>(A4o x n h).bind λ r hr=>c9 ⟨⟨?_,?_,h3⟩,hr⟩
  ·show 0<=s.At+1;omega
  ·show s.At+1<=(s.L.length:Int);omega
theorem D_ {s:Ah} (hs:Bq s) (n:Int) (h0:1<=n) (h:n<=4611686018427387904):Ok (F19 s n) λ y=>Bq y.2/\0<=y.1/\y.1<n:=
 (Ts hs n h).mono λ _ h=>⟨h.1,h.2.1 h0⟩
theorem Hb {s:Ah} (hs:Bq s) (lo hi:Int) (h:lo<=hi) (h0:-1000000000000<=lo) (h1:hi<=1000000000000):Ok (F26 s lo hi) λ y=>Bq y.2/\lo<=y.1/\y.1<=hi:=by
 unfold F26
 have e:w64 (w64 (hi-lo)+1)=hi-lo+1:=by rw [A9 (n:=hi-lo) (by omega),A9 (by omega)]
 rw [e]
 refine (D_ hs _ (by omega) (by omega)).bind λ y hy=>c9 ⟨hy.1,?_⟩
 have:=hy.2
 show lo<=w64 (lo+y.1)/\w64 (lo+y.1)<=hi
 rw [A9 (by omega)]
 omega
theorem Dw {s:Ah} (hs:Bq s) (l:List Int) (h:1<=l.length) (h1:l.length<=1000):Ok (F27 s l) λ y=>Bq y.2/\y.1∈l:=by
 unfold F27
 refine (D_ hs _ (by omega) (by omega)).bind λ y hy=>?_
 have:=hy.2
 refine (cV (by omega) (by omega)).bind λ x hx=>c9 ⟨hy.1,af hx⟩
theorem A4n (l:List Int):Ok (F9 l) Bq:=by
 unfold F9
 refine (Ok.cutI (by omega) (by omega) (by omega)).bind λ y hy=>c9 ⟨by simp,by simp,?_⟩
 subst hy
 simp only [bT,aU]
 omega
def Q6 (nb:Int) (ns nc:Nat) (x:Aj):Prop:=
 (0<=x.A/\x.A<nb)/\((x.Kind=1/\x.A<x.B/\x.B<nb)\/(x.Kind=2/\0<=x.B/\x.B<ns)\/(x.Kind=3/\0<=x.B/\x.B<nc))
def brs (l:List Aj) (k:Int) (i:Nat):List Aj:=l.filter λ x=>x.Kind==k&&x.B==(i:Int)
def Aoo (x:Bg):Prop:=(1<=x.Rating/\x.Rating<=50000)/\(0<=x.Least/\x.Least<=x.Rating)/\0<=x.Start/\x.Start<=600
def Ajn (i:Nat) (x:A5):Prop:=
 (0<=x.Load/\x.Load<=50000)/\(0<=x.Least/\x.Least<=x.Load)/\(0<=x.Bl/\x.Bl<=15)/\(-1<=x.Thruster/\x.Thruster<=7)/\x.Needs.length<=4 /\
 (∀ n,n∈x.Needs->0<=n/\n<(i:Int))/\∀ (j:Nat) a b,x.Needs[j]? = some a->x.Needs[j+1]? = some b->a<b
structure Av (b:Aa):Prop where
 buses:1<=b.An/\b.An<=6
 brl:b.Ad.length<=24
 sol:b.Ac.length<=8
 col:b.Ae.length<=16
 phase:0<=b.Phase/\b.Phase<=1800
 freq:0<=b.Ap/\b.Ap<=6000
 br:∀ x,x∈b.Ad->Q6 b.An b.Ac.length b.Ae.length x
 one:∀ i,i<b.Ac.length->(brs b.Ad 2 i).length=1
 any:∀ i,i<b.Ae.length->brs b.Ad 3 i≠[]
 nodup:∀ i,((brs b.Ad 3 i).map (·.A)).Nodup
 so:∀ x,x∈b.Ac->Aoo x
 co:∀ (i:Nat) x,b.Ae[i]? = some x->Ajn i x
theorem F_ (l m:List Aj) (k:Int) (i:Nat):brs (l++m) k i=brs l k i++brs m k i:=by unfold brs;rw [bt]
theorem Alu (x:Aj) (k:Int) (i:Nat):brs [x] k i=if x.Kind=k/\x.B=(i:Int) then [x] else []:=by
 unfold brs
 simp only [bp,List.filter_nil,ae,dD]
theorem Jy {l:List Aj} {k:Int} {i:Nat} (h:∀ x,x∈l->x.Kind=k->x.B≠(i:Int)):brs l k i=[]:=by
 unfold brs
 rw [List.filter_eq_nil_iff]
 intro x hx
 simp only [ae,dD,not_and]
 exact h x hx
def Mu (nb:Int) (l:List Aj):Prop:=∀ x,x∈l->x.Kind=1/\0<=x.A/\x.A<x.B/\x.B<nb
structure Qv (nb:Int) (l:List Aj) (so:List Bg):Prop where
 len:l.length<=4+so.length
 br:∀ x,x∈l->(0<=x.A/\x.A<nb)/\((x.Kind=1/\x.A<x.B/\x.B<nb)\/(x.Kind=2/\0<=x.B/\x.B<so.length))
 one:∀ i,i<so.length->(brs l 2 i).length=1
 so:∀ x,x∈so->Aoo x
structure Yw (nb:Int) (l:List Aj) (ns:Nat) (co:List A5):Prop where
 len:l.length<=4+ns+2*co.length
 br:∀ x,x∈l->Q6 nb ns co.length x
 one:∀ i,i<ns->(brs l 2 i).length=1
 any:∀ i,i<co.length->brs l 3 i≠[]
 nodup:∀ i,((brs l 3 i).map (·.A)).Nodup
 co:∀ (i:Nat) x,co[i]? = some x->Ajn i x/\x.Thruster<=2
theorem Qv.cons {nb:Int} {l:List Aj} {so:List Bg} (h:Qv nb l so):Yw nb l so.length [] where
 len:=by have:=h.len;simp;omega
 br x hx:=by
  obtain⟨h1,h2⟩:=h.br x hx
  exact⟨h1,h2.imp id .inl⟩
 one:=h.one
 any i hi:=by simp at hi
 nodup i:=by
  rw [Jy]
  ·simp
  ·intro x hx h3
   obtain⟨_,h2⟩:=h.br x hx
   omega
 co i x hx:=by simp at hx
theorem Qv.add {nb:Int} {l:List Aj} {so:List Bg} (h:Qv nb l so) {x:Aj} {y:Bg} (hx:x.Kind=2/\x.B=so.length/\0<=x.A/\x.A<nb) (hy:Aoo y):Qv nb (l++[x]) (so++[y]) where
 len:=by have:=h.len;simp;omega
 br z hz:=by
  rcases az.1 hz with hz | hz
  ·obtain⟨h1,h2⟩:=h.br z hz
   refine⟨h1,?_⟩
   rw [aA]
   simp only [aP,bi]
   omega
  ·simp at hz;subst hz
   refine⟨hx.2.2,.inr ⟨hx.1,?_⟩⟩
   rw [aA]
   simp only [aP,bi]
   omega
 one i hi:=by
  rw [aA] at hi
  simp only [aP,bi] at hi
  rw [F_,Alu,aA]
  by_cases e:i=so.length
  ·rw [Jy,if_pos ⟨hx.1,by omega⟩]
   ·rfl
   ·intro z hz h2
    obtain⟨_,h3⟩:=h.br z hz
    omega
  ·rw [h.one i (by omega),if_neg (by omega)];rfl
 so z hz:=by
  rcases az.1 hz with hz | hz
  ·exact h.so z hz
  ·simp at hz;subst hz;exact hy
theorem Yw.add {nb:Int} {l m:List Aj} {ns:Nat} {co:List A5} (h:Yw nb l ns co) {y:A5} (hm:∀ x,x∈m->x.Kind=3/\x.B=co.length/\0<=x.A/\x.A<nb) (h1:m≠[]) (h2:m.length<=2) (h3:(m.map (·.A)).Nodup)
  (hy:Ajn co.length y/\y.Thruster<=2):Yw nb (l++m) ns (co++[y]):=by
 have e1:brs m 3 co.length=m:=by
  unfold brs
  rw [cI]
  intro x hx
  obtain⟨g1,g2,_⟩:=hm x hx
  simp [g1,g2]
 have e2:∀ i,i≠co.length->brs m 3 i=[]:=λ i hi=>Jy λ x hx _ e=>by
  have:=(hm x hx).2.1
  omega
 have e3:brs l 3 co.length=[]:=Jy λ x hx h3 e=>by
  obtain⟨_,g⟩:=h.br x hx
  omega
 have hlen:(co++[y]).length=co.length+1:=by simp
 refine⟨?_,λ z hz=>?_,λ i hi=>?_,λ i hi=>?_,λ i=>?_,λ i x hx=>?_⟩
 ·have:=h.len
  rw [aA,hlen];omega
 ·rw [hlen]
  rcases az.1 hz with hz | hz
  ·obtain⟨g1,g2⟩:=h.br z hz
   exact⟨g1,by omega⟩
  ·obtain⟨g1,g2,g3⟩:=hm z hz
   exact⟨g3,by omega⟩
 ·have:brs m 2 i=[]:=Jy λ x hx h2=>by have:=(hm x hx).1;omega
  rw [F_,this,aW]
  exact h.one i hi
 ·rw [F_]
  rw [hlen] at hi
  by_cases e:i=co.length
  ·subst e;rw [e1];simp [h1]
  ·have:=h.any i (by omega)
   simp [this]
 ·rw [F_]
  by_cases e:i=co.length
  ·subst e;rw [e1,e3];simpa using h3
  ·rw [e2 i e,aW];exact h.nodup i
 ·rw [ch] at hx
  split at hx
  ·exact h.co i x hx
  ·rename_i hi
   have:i=co.length:=by
    have:=(aa.1 hx).1
    simp at this;omega
   subst this
   simp at hx;subst hx;exact hy
theorem Mu.nil (nb:Int):Mu nb []:=λ x hx=>by cases hx
theorem Mu.add {nb:Int} {l:List Aj} (h:Mu nb l) {x:Aj} (hx:x.Kind=1/\0<=x.A/\x.A<x.B/\x.B<nb):Mu nb (l++[x]):=λ z hz=>by
 rcases az.1 hz with hz | hz
 ·exact h z hz
 ·simp at hz;subst hz;exact hx
theorem Mu.gens {nb:Int} {l:List Aj} (h:Mu nb l) (hl:l.length<=4):Qv nb l [] where
 len:=by simpa using hl
 br x hx:=by have:=h x hx;exact⟨by omega,.inl (by omega)⟩
 one i hi:=by simp at hi
 so x hx:=by cases hx
theorem Axe {y:Int×Ah} (hy:1<=y.1/\y.1<=4) {s0:Ah} (hs0:Bq s0) :
  Ok (whileN (uD y) 1152921504606846976 (1,s0.L,s0.At,([]:List Aj))) (Dd (λ s=>Bq ⟨s.2.1,s.2.2.1⟩/\Mu y.1 s.2.2.2/\s.2.2.2.length<=3) (λ (_:Unit)=>False)):=by
 refine cU (λ s=>(1<=s.1/\s.1<=4/\s.1<=y.1)/\Bq ⟨s.2.1,s.2.2.1⟩/\Mu y.1 s.2.2.2/\(s.2.2.2.length:Int)+1<=s.1) (λ s=>(y.1-s.1).toNat) _ _ ?_ ?_ ?_
 ·exact⟨by dsimp only;omega,hs0,Mu.nil _,by simp⟩
 ·dsimp only;omega
 ·rintro⟨i,L,a,l⟩ ⟨⟨h1,h2,h3⟩,h4,h5,h6⟩
  dsimp only at h1 h2 h3 h4 h5 h6
  unfold uD
  refine cR (λ h=>?_) (λ h=>?_)
  ·simp only [dA] at h
   have e:w64 (i+1)=i+1:=A9 (by omega)
   dsimp only
   rw [e]
   refine (D_ h4 6 (by omega) (by omega)).bind λ u hu=>cR (λ _=>?_) (λ _=>?_)
   ·refine (D_ hu.1 i h1 (by omega)).bind λ v hv=>(cW (by simp;omega)).bind λ m hm=>cS ?_
    subst hm
    have:=hv.2
    refine⟨⟨by dsimp only;omega,hv.1,h5.add ⟨rfl,by dsimp only;omega,by dsimp only;omega,by dsimp only;omega⟩,by simp;omega⟩,by dsimp only;omega⟩
   ·refine cS ⟨⟨by dsimp only;omega,hu.1,h5,by dsimp only;omega⟩,by dsimp only;omega⟩
  ·exact d8 ⟨h4,h5,by dsimp only;omega⟩
theorem Axd {y:Int×Ah} (hy:1<=y.1/\y.1<=4) {s0:Ah} (hs0:Bq s0) {k:Int} (hk:0<=k/\k<5) {l0:List Aj} (hl0:Qv y.1 l0 []) :
  Ok (whileN (uC y) 1152921504606846976 (k,s0.L,s0.At,l0,([]:List Bg))) (Dd (λ s=>Bq ⟨s.2.1,s.2.2.1⟩/\Qv y.1 s.2.2.2.1 s.2.2.2.2/\s.2.2.2.2.length<=4) (λ (_:Unit)=>False)):=by
 refine cU (λ s=>(0<=s.1/\s.1+(s.2.2.2.2.length:Int)<=4)/\Bq ⟨s.2.1,s.2.2.1⟩/\Qv y.1 s.2.2.2.1 s.2.2.2.2) (λ s=>s.1.toNat) _ _ ?_ ?_ ?_
 ·exact⟨by simp;omega,hs0,hl0⟩
 ·dsimp only;omega
 ·rintro⟨i,L,a,l,so⟩ ⟨⟨h1,h2⟩,h4,h5⟩
  dsimp only at h1 h2 h4 h5
  unfold uC
  refine cR (λ h=>?_) (λ h=>?_)
  ·simp only [dA] at h
   have e:w64 (i-1)=i-1:=A9 (by omega)
   have hl:=h5.len
   dsimp only
   rw [e]
   refine (D_ h4 y.1 hy.1 (by omega)).bind λ u hu=>(cW (by simp;omega)).bind λ m hm=>?_
   refine (Dw hu.1 _ (by simp) (by simp)).bind λ v hv=>(Dw hv.1 _ (by simp) (by simp)).bind λ p hp=>(Dw hp.1 _ (by simp) (by simp)).bind λ q hq=>(cW (by simp;omega)).bind λ o ho=>cS ?_
   subst hm;subst ho
   have g1:=hu.2
   have g2:v.1=10\/v.1=50\/v.1=100:=by simpa using hv.2
   have g3:p.1=0\/p.1=5\/p.1=v.1:=by simpa using hp.2
   have g4:q.1=0\/q.1=1\/q.1=3:=by simpa using hq.2
   refine⟨⟨by simp;omega,hq.1,h5.add ⟨rfl,rfl,g1⟩ ⟨by dsimp only;omega,by dsimp only;omega,by dsimp only;omega⟩⟩,by dsimp only;omega⟩
  ·exact d8 ⟨h4,h5,by dsimp only;omega⟩
theorem Az7 {x:Int} (h:0<=x) (h2:x<=50000):0<=w64 (Int.tdiv x 2)/\w64 (Int.tdiv x 2)<=x:=by
 have:Int.tdiv x 2=x / 2:=Int.tdiv_eq_ediv_of_nonneg h
 rw [this,A9 (by omega)]
 omega
theorem Avg {x:Int} (h:0<=x) (h2:x<=50000):0<=w64 (Int.tdiv x 3)/\w64 (Int.tdiv x 3)<=x:=by
 have:Int.tdiv x 3=x / 3:=Int.tdiv_eq_ediv_of_nonneg h
 rw [this,A9 (by omega)]
 omega
theorem Axc {y:Int×Ah} (hy:1<=y.1/\y.1<=4) {s0:Ah} (hs0:Bq s0) {k:Int} (hk:0<=k/\k<6) {ns:Nat} (hns:ns<=4) {l0:List Aj} (hl0:Yw y.1 l0 ns []) :
  Ok (whileN (uB y) 1152921504606846976 (k,s0.L,s0.At,l0,([]:List A5))) (Dd (λ s=>Bq ⟨s.2.1,s.2.2.1⟩/\Yw y.1 s.2.2.2.1 ns s.2.2.2.2/\s.2.2.2.2.length<=5) (λ (_:Unit)=>False)):=by
 refine cU (λ s=>(0<=s.1/\s.1+(s.2.2.2.2.length:Int)<=5)/\Bq ⟨s.2.1,s.2.2.1⟩/\Yw y.1 s.2.2.2.1 ns s.2.2.2.2) (λ s=>s.1.toNat) _ _ ?_ ?_ ?_
 ·exact⟨by simp;omega,hs0,hl0⟩
 ·dsimp only;omega
 ·rintro⟨i,L,a,l,co⟩ ⟨⟨h1,h2⟩,h4,h5⟩
  dsimp only at h1 h2 h4 h5
  unfold uB
  refine cR (λ h=>?_) (λ h=>?_)
  ·simp only [dA] at h
   have e:w64 (i-1)=i-1:=A9 (by omega)
   have hl:=h5.len
   dsimp only
   rw [e]
   refine (D_ h4 y.1 hy.1 (by omega)).bind λ u hu=>(cW (by simp;omega)).bind λ m hm=>?_
   subst hm
   have g1:=hu.2
   refine Ok.bind (P:=λ v=>Bq v.2) (cX (λ _=>(D_ hu.1 4 (by omega) (by omega)).mono λ _ h=>h.1) λ _=>hu.1) λ v hv=>?_
   refine Ok.inner (A:=λ (r:List Aj)=>∃ m,r=l++m/\(∀ x,x∈m->x.Kind=3/\x.B=co.length/\0<=x.A/\x.A<y.1)/\m≠[]/\m.length<=2/\(m.map (·.A)).Nodup) (B:=λ (_:Unit)=>False) ?_ (λ r hr=>?_) (λ _ h=>h.elim)
   ·unfold Ajj
    refine cR (λ hc=>?_) (λ hc=>?_)
    ·simp only [ae,dA] at hc
     have e2:w64 (u.1+1)=u.1+1:=A9 (by omega)
     rw [e2]
     refine (Ok.nzI (by omega)).bind λ _ _=>(cW (by simp;omega)).bind λ m hm=>d9 ?_
     subst hm
     have g2:=Ake (x:=u.1+1) (n:=y.1) (by omega) (by omega)
     have g3:Int.tmod (u.1+1) y.1≠u.1:=by
      rw [Int.tmod_eq_emod_of_nonneg (by omega)]
      intro e3
      by_cases g4:u.1+1=y.1
      ·rw [g4,Int.emod_self] at e3;omega
      ·rw [Int.emod_eq_of_lt (by omega) (by omega)] at e3;omega
     refine⟨_,aJ _ _ _,?_,by simp,by simp,?_⟩
     ·intro x hx
      simp at hx
      rcases hx with rfl | rfl
      ·exact⟨rfl,rfl,g1⟩
      ·exact⟨rfl,rfl,g2⟩
     ·simp
      exact λ h=>g3 h.symm
    ·exact d9 ⟨_,rfl,λ x hx=>by simp at hx;subst hx;exact⟨rfl,rfl,g1⟩,by simp,by simp,by simp⟩
   ·obtain⟨m,rfl,hm,hm1,hm2,hm3⟩:=hr
    refine (Dw hv _ (by simp) (by simp)).bind λ p hp=>(Dw hp.1 _ (by simp) (by simp)).bind λ q hq=>(D_ hq.1 3 (by omega) (by omega)).bind λ pr hpr=>(Hb hpr.1 (-1) 2 (by omega) (by omega) (by omega)).bind λ th hth=>?_
    have k1:p.1=0\/p.1=5\/p.1=20\/p.1=40:=by simpa using hp.2
    have k2:q.1=0\/q.1=w64 (Int.tdiv p.1 2)\/q.1=p.1:=by simpa using hq.2
    have k3:=Az7 (x:=p.1) (by omega) (by omega)
    have k4:=hpr.2
    have k5:=hth.2
    refine Ok.bind (P:=λ v=>Bq v.2) (cX (λ _=>(D_ hth.1 4 (by omega) (by omega)).mono λ _ h=>h.1) λ _=>hth.1) λ w hw=>cR (λ hc=>?_) (λ hc=>?_)
    ·simp only [Ay1,ae,dA] at hc
     refine (D_ hw _ (by omega) (by omega)).bind λ n hn=>(cW (by simp;omega)).bind λ o ho=>cS ?_
     subst ho
     have k6:=hn.2
     refine⟨⟨by simp;omega,hn.1,h5.add hm hm1 hm2 hm3 ⟨⟨by dsimp only;omega,by dsimp only;omega,by dsimp only;omega,by dsimp only;omega,by simp,?_,?_⟩,by dsimp only;omega⟩⟩,by dsimp only;omega⟩
     ·intro z hz;simp at hz;subst hz;exact k6
     ·intro j a b ha hb
      simp at hb
    ·refine (cW (by simp;omega)).bind λ o ho=>cS ?_
     subst ho
     refine⟨⟨by simp;omega,hw,h5.add hm hm1 hm2 hm3 ⟨⟨by dsimp only;omega,by dsimp only;omega,by dsimp only;omega,by dsimp only;omega,by simp,?_,?_⟩,by dsimp only;omega⟩⟩,by dsimp only;omega⟩
     ·intro z hz;simp at hz
     ·intro j a b ha hb;simp at ha
  ·exact d8 ⟨h4,h5,by dsimp only;omega⟩
structure A8j (b:Aa):Prop where
 ok:Av b
 buses:b.An<=4
 brl:b.Ad.length<=18
 sol:b.Ac.length<=4
 col:b.Ae.length<=5
 thr:∀ x,x∈b.Ae->x.Thruster<=2
theorem Axv {s:Ah} (hs:Bq s):Ok (F10 s) λ y=>A8j y.1/\Bq y.2:=by
 unfold F10
 refine (Hb hs 1 4 (by omega) (by omega) (by omega)).bind λ y1 h1=>(Dw h1.1 _ (by simp) (by simp)).bind λ y3 h3=>(Dw h3.1 _ (by simp) (by simp)).bind λ y5 h5=>?_
 refine (Axe h1.2 h5.1).andThen (λ s0 hs0=>?_) (λ _ h=>h.elim)
 refine Ok.bind (P:=λ v=>Bq v.2) (cX (λ _=>(D_ hs0.1 2 (by omega) (by omega)).mono λ _ h=>h.1) λ _=>hs0.1) λ y15 h15=>?_
 have hb:=h1.2
 refine Ok.andThen (A:=λ (l:List Aj)=>Mu y1.1 l/\l.length<=4) (B:=λ (_:Unit)=>False) ?_ (λ l hl=>?_) (λ _ h=>h.elim)
 ·unfold Ajk
  refine cR (λ hc=>?_) (λ hc=>d9 ⟨hs0.2.1,by omega⟩)
  simp only [ae,dA] at hc
  have e:w64 (y1.1-1)=y1.1-1:=A9 (by omega)
  rw [e]
  have:=hs0.2.2
  refine (cW (by simp;omega)).bind λ m hm=>d9 ?_
  subst hm
  exact⟨hs0.2.1.add ⟨rfl,by simp,by dsimp only;omega,by dsimp only;omega⟩,by simp;omega⟩
 ·refine (D_ h15 5 (by omega) (by omega)).bind λ y20 h20=>?_
  refine (Axd h1.2 h20.1 h20.2 (hl.1.gens hl.2)).andThen (λ s2 hs2=>?_) (λ _ h=>h.elim)
  refine (D_ hs2.1 6 (by omega) (by omega)).bind λ y35 h35=>?_
  refine (Axc h1.2 h35.1 h35.2 hs2.2.2 hs2.2.1.cons).andThen (λ s3 hs3=>c9 ⟨?_,hs3.1⟩) (λ _ h=>h.elim)
  obtain⟨_,hc,hl5⟩:=hs3
  have hl4:=hs2.2.2
  have hlen:=hc.len
  have p3:y3.1=0\/y3.1=50\/y3.1=200\/y3.1=1800:=by simpa using h3.2
  have p5:y5.1=0\/y5.1=10\/y5.1=50:=by simpa using h5.2
  refine⟨⟨by dsimp only;omega,by dsimp only;omega,by dsimp only;omega,by dsimp only;omega,by dsimp only;omega,by dsimp only;omega,hc.br,hc.one,hc.any,hc.nodup,hs2.2.1.so,λ i x hx=>(hc.co i x hx).1⟩,by dsimp only;omega,by dsimp only;omega,hl4,hl5,λ x hx=>?_⟩
  obtain⟨i,hi⟩:=bY hx
  exact (hc.co i x hi).2
theorem G8 (x lo hi:Int):F91 x lo hi=true↔lo<=x/\x<=hi:=by
 simp [F91]
theorem vV {x lo hi:Int} (h:lo<=x/\x<=hi):F91 x lo hi=true:=(G8 x lo hi).2 h
theorem Dm (l:List Int) (x:Int) (h:l.length<=9223372036854775807):My l x=some (l.any (x == ·)):=by
 unfold My Apr
 rw [Kc (λ y=>x==y) (λ i y=>rfl) l h]
 simp only [ac,P6]
theorem Aj3 (l:List (List Int)) (h:l.length<=9223372036854775807):Uh l=some (l.any λ x=>(x.length:Int)==0):=by
 unfold Uh qS
 rw [Kc (λ y=>(y.length:Int)==0) (λ i y=>rfl) l h]
 simp only [ac,P6]
theorem Aj5 {b:Aa} (h:Av b):Ok (Ajh b) (· = true):=by
 unfold Ajh
 have hs:=h.sol
 have hc:=h.col
 have hb:=h.buses
 refine (Ok.mkI (by omega) (by omega)).bind λ ys hys=>(Ok.mkI (by omega) (by omega)).bind λ zs hzs=>?_
 rw [aF] at hys hzs
 refine Ok.andThen (A:=λ s=>s.1=(List.range b.Ac.length).map (λ i=>((brs b.Ad 2 i).length:Int))/\s.2=(List.range b.Ae.length).map (λ i=>(brs b.Ad 3 i).map (·.A))) (B:=λ _=>False) ?_ ?_ (λ _ h=>h.elim)
 ·refine cT (I:=λ j s=>s.1=(List.range b.Ac.length).map (λ i=>((brs (b.Ad.take j) 2 i).length:Int))/\s.2=(List.range b.Ae.length).map (λ i=>(brs (b.Ad.take j) 3 i).map (·.A))) ?_ ?_ ?_
  ·exact⟨by rw [hys,Nc];rfl,by rw [hzs,Nc];rfl⟩
  ·rintro j x ⟨us,vs⟩ hx ⟨hu,hv⟩
   dsimp only at hu hv
   subst hu;subst hv
   have hmem:=af hx
   obtain⟨⟨a0,a1⟩,hk⟩:=h.br x hmem
   have htk:∀ k i,brs (b.Ad.take (j+1)) k i=brs (b.Ad.take j) k i++if x.Kind=k/\x.B=(i:Int) then [x] else []:=λ k i=>by rw [Bi hx,F_,Alu]
   have hall:∀ k i,brs b.Ad k i=brs (b.Ad.take (j+1)) k i++brs (b.Ad.drop (j+1)) k i:=λ k i=>by rw [←F_,cd]
   unfold zL
   have e1:w64 (b.An-1)=b.An-1:=A9 (by omega)
   have e2:w64 (x.A+1)=x.A+1:=A9 (by omega)
   refine cR (λ hq=>?_) (λ _=>?_)
   ·rw [e1,vV (by omega)] at hq;simp at hq
   refine cR (λ hq=>?_) (λ hq=>?_)
   ·simp only [Agx,ae,dD,G8] at hq
    refine cS ⟨bg λ i _=>?_,bg λ i _=>?_⟩
    ·rw [htk,if_neg (by omega),aW]
    ·rw [htk,if_neg (by omega),aW]
   have hq:=ff hq
   simp only [Agx,ae,dD,G8,e1,e2] at hq
   rcases hk with hk | hk | hk
   ·exact absurd ⟨hk.1,by omega⟩ hq
   ·have hBn:x.B=(x.B.toNat:Int):=by omega
    have hone:=h.one x.B.toNat (by omega)
    have hz:(brs (b.Ad.take j) 2 x.B.toNat).length=0:=by
     rw [hall,htk,if_pos ⟨hk.1,hBn⟩] at hone
     simp at hone;omega
    have hg:((x.Kind==2)&&(F91 x.B 0 (w64 ((((List.range b.Ac.length).map (λ i=>((brs (b.Ad.take j) 2 i).length:Int))).length:Int)-1))))=true:=by
     rw [ae,dD,G8,au,List.length_range,A9 (by omega)]
     omega
    dsimp only
    refine Ok.bind (P:=λ y=>y=0) (cX (λ _=>(dj (by omega) (by omega)).mono λ y hy=>by rw [hy,hz];rfl) λ hn=>(U8 hg hn).elim) λ y hy=>?_
    refine cR (λ hq2=>?_) (λ hq2=>?_)
    ·refine (dj (by omega) (by omega)).bind λ y2 hy2=>(dn (by omega) (by omega)).bind λ y3 hy3=>cS ⟨?_,bg λ i _=>?_⟩
     ·rw [hy3]
      refine bg λ i hi=>?_
      by_cases e:i=x.B.toNat
      ·subst e
       rw [if_pos rfl,hy2,htk,if_pos ⟨hk.1,hBn⟩,hz,aA,hz]
       rfl
      ·rw [if_neg e,htk,if_neg (by omega),aW]
     ·rw [htk,if_neg (by omega),aW]
    ·have hq2:=ff hq2
     simp only [Agw,ae,hy] at hq2
     rw [ae] at hg
     exact absurd ⟨hg,by simp⟩ hq2
   ·have hBn:x.B=(x.B.toNat:Int):=by omega
    have hnod:=h.nodup x.B.toNat
    have hnot:x.A∉(brs (b.Ad.take j) 3 x.B.toNat).map (·.A):=by
     rw [hall,htk,if_pos ⟨hk.1,hBn⟩] at hnod
     simp only [bI,bO,List.map_nil] at hnod
     rw [List.nodup_append] at hnod
     have:=hnod.1
     rw [List.nodup_append] at this
     intro hm
     exact this.2.2 _ hm _ (by simp) rfl
    have hg0:((x.Kind==2)&&(F91 x.B 0 (w64 ((((List.range b.Ac.length).map (λ i=>((brs (b.Ad.take j) 2 i).length:Int))).length:Int)-1))))=false:=by
     have:(x.Kind==2)=false:=by rw [dE];omega
     rw [this];rfl
    have hg:((x.Kind==3)&&(F91 x.B 0 (w64 ((((List.range b.Ae.length).map (λ i=>(brs (b.Ad.take j) 3 i).map (·.A))).length:Int)-1))))=true:=by
     rw [ae,dD,G8,au,List.length_range,A9 (by omega)]
     omega
    dsimp only
    refine Ok.bind (P:=λ _=>True) (cX (λ hn=>absurd hn.1 (by rw [hg0];simp)) λ _=>trivial) λ y _=>?_
    refine cR (λ hq2=>?_) (λ _=>?_)
    ·simp only [Agw,ae,dD] at hq2
     omega
    refine Ok.bind (P:=λ y=>y=(brs (b.Ad.take j) 3 x.B.toNat).map (·.A)) (cX (λ _=>dj (by omega) (by omega)) λ hn=>(U8 hg hn).elim) λ y14 hy14=>?_
    have hyl:y14.length<=24:=by
     rw [hy14,au]
     have:=bD (λ x=>x.Kind==3&&x.B==((x.B.toNat:Nat):Int)) (b.Ad.take j)
     have h1:(brs (b.Ad.take j) 3 x.B.toNat).length<=(b.Ad.take j).length:=bD _ _
     have h2:=h.brl
     rw [aU] at h1
     omega
    refine Ok.bind (P:=λ y=>y=false) (cX (λ _=>?_) λ hn=>(U8 hg hn).elim) λ y16 hy16=>?_
    ·rw [Dm _ _ (by omega)]
     refine c9 ?_
     rw [cv]
     intro z hz
     rw [hy14] at hz
     simp only [dD]
     rintro rfl
     exact hnot hz
    refine cR (λ hq2=>?_) (λ hq2=>?_)
    ·refine (dj (by omega) (by omega)).bind λ y19 hy19=>?_
     rw [hy19,←hy14]
     refine (cW (by simp;omega)).bind λ y21 hy21=>(dn (by omega) (by omega)).bind λ y23 hy23=>cS ⟨bg λ i _=>?_,?_⟩
     ·rw [htk,if_neg (by omega),aW]
     ·rw [hy23]
      refine bg λ i hi=>?_
      by_cases e:i=x.B.toNat
      ·subst e
       rw [if_pos rfl,hy21,hy14,htk,if_pos ⟨hk.1,hBn⟩,bI]
       rfl
      ·rw [if_neg e,htk,if_neg (by omega),aW]
    ·have hq2:=ff hq2
     simp only [Atl,ae,hy16] at hq2
     rw [ae] at hg
     exact absurd ⟨hg,by simp⟩ hq2
  ·rintro⟨us,vs⟩ ⟨hu,hv⟩
   rw [aG] at hu hv
   exact⟨hu,hv⟩
 ·rintro⟨us,vs⟩ ⟨hu,hv⟩
  dsimp only at hu hv ⊢
  rw [Dm _ _ (by rw [hu];simp;omega)]
  have h0:us.any (λ y=>0==y)=false:=by
   rw [cv,hu]
   intro z hz
   obtain⟨i,hi,rfl⟩:=am.1 hz
   rw [h.one i (by simpa using hi)]
   simp
  have h1:vs.any (λ x=>(x.length:Int)==0)=false:=by
   rw [cv,hv]
   intro z hz
   obtain⟨i,hi,rfl⟩:=am.1 hz
   have:=h.any i (by simpa using hi)
   simp only [au,dD]
   intro e
   exact this (bR (by omega))
  simp only [h0,ac]
  refine Ok.bind (P:=λ y=>y=false) (cX (λ _=>?_) λ hn=>(U8 rfl hn).elim) λ y hy=>c9 (by rw [hy];rfl)
  rw [Aj3 _ (by rw [hv];simp;omega)]
  exact c9 h1
theorem Ap9 {x:Bg} (h:Aoo x):zK x=true:=by
 obtain⟨h1,h2,h3⟩:=h
 simp only [zK,ae,G8]
 omega
theorem Aj4 {x:A5} {i:Nat} (h:Ajn i x) (hi:i<=1000):zJ x (i:Int)=some true:=by
 obtain⟨h1,h2,h3,h4,h5,h6,h7⟩:=h
 unfold zJ
 have hf:foldI (V9 x (i:Int)) x.Needs 0 ()=some (.next ()):=by
  refine Da _ _ λ j n hj=>?_
  rw [aI]
  have hn:=h6 n (af hj)
  have hjl:=(aa.1 hj).1
  have hcnt:cnt 0 j=(j:Int):=Cv (by omega)
  have hin:F91 n 0 (w64 ((i:Int)-1))=true:=by rw [G8,A9 (by omega)];omega
  unfold V9 Atk
  rw [hcnt,hin]
  cases j with
  | zero=>simp [A4,Cz]
  | succ j=>
   obtain⟨p,hp⟩:∃ p,x.Needs[j]? = some p:=⟨_,ag (by omega)⟩
   have hlt:=h7 j p n hp hj
   have e:w64 ((((j+1:Nat):Int))-1)=(j:Int):=by rw [A9 (by omega)];omega
   have hg:getI x.Needs (j:Int)=some p:=by
    unfold getI
    simp [hp]
   have hd:decide (((j+1:Nat):Int)>0)=true:=dF (by omega)
   have hd2:decide (p>=n)=false:=by simp;omega
   rw [e,hg,hd]
   simp [A4,Cz,hd2]
 rw [hf]
 have:(((((F91 x.Load 0 50000)&&(F91 x.Least 0 x.Load))&&(F91 x.Bl 0 15))&&(F91 x.Thruster (-1) 7))&&(decide ((x.Needs.length:Int)<=4)))=true:=by
  simp only [ae,G8,dA]
  omega
 simp [andThen,this]
theorem Agq {b:Aa} (h:Av b):F86 b=some 0:=by
 refine d7 ?_
 unfold F86
 have h1:=h.buses
 have h2:=h.brl
 have h3:=h.sol
 have h4:=h.col
 have h5:=h.phase
 have h6:=h.freq
 refine cR (λ hc=>?_) (λ _=>?_)
 ·have:F91 b.An 1 6=true:=vV (by omega)
  simp only [Ayk,this,aO,dA,bj,bU,false_or] at hc
  omega
 refine (Aj5 h).bind λ y hy=>?_
 subst hy
 rw [vV (x:=b.Phase) (by omega),vV (x:=b.Ap) (by omega)]
 refine Ok.andThen (A:=λ s=>s=true) (B:=λ (_:Unit)=>False) ?_ ?_ (λ _ h=>h.elim)
 ·refine cT (I:=λ _ s=>s=true) rfl (λ j x s hx hs=>?_) λ _ h=>h
  subst hs
  refine cS ?_
  rw [Ap9 (h.so x (af hx))];rfl
 ·rintro s rfl
  refine Ok.andThen (A:=λ s=>s=true) (B:=λ (_:Unit)=>False) ?_ ?_ (λ _ h=>h.elim)
  ·refine cT (I:=λ _ s=>s=true) rfl (λ j x s hx hs=>?_) λ _ h=>h
   subst hs
   have hj:=(aa.1 hx).1
   unfold Aic
   have:A4 [(true,true)] (zJ x (cnt 0 j)) default=some true:=by
    rw [Cv (by omega),Aj4 (h.co j x hx) (by omega)];rfl
   rw [this]
   exact cS rfl
  ·rintro s rfl
   exact c9 rfl
def Cw (x:Af):Prop:=(0<=x.State/\x.State<=3)/\(0<=x.Since/\x.Since<=2147483648)/\(0<=x.Ap/\x.Ap<=6000)/\0<=x.Phase/\x.Phase<=3599
def B5 (b:Aa) (x:Al):Prop:=
 0<=x.Number/\((x.Kind=1/\x.Number<b.Ac.length)\/(x.Kind=2/\x.Number<b.Ad.length)\/(x.Kind=3/\x.Number<b.An)\/(x.Kind=4/\x.Number<b.Ae.length))
def O3 (x y:Al):Prop:=x.Kind<y.Kind\/x.Kind=y.Kind/\x.Number<y.Number
structure Dx (b:Aa) (l:List Al):Prop where
 len:l.length<=32
 mem:∀ x,x∈l->B5 b x
 asc:∀ (j:Nat) x y,l[j]? = some x->l[j+1]? = some y->O3 x y
def Cd (l:List Aj) (c:List Bool) (i:Nat):List (Aj×Bool):=(l.zip c).filter λ z=>(z.1.Kind==3&&z.1.B==(i:Int))&&z.2
structure Ax (b:Aa) (p:Ab):Prop where
 ncl:p.Ag.length=b.Ad.length
 nso:p.Ac.length=b.Ac.length
 nli:p.Aq.length=b.Ae.length
 run:∀ x,x∈p.Ac->Cw x
 lim:∀ (i:Nat) n c,p.Aq[i]? = some n->b.Ae[i]? = some c->0<=n/\n<=c.Load
 one:∀ i,i<b.Ae.length->(Cd b.Ad p.Ag i).length<=1
 brk:Dx b p.Ao
theorem Amw {x:Af} (h:Cw x):F90 x=true:=by
 obtain⟨h1,h2,h3,h4⟩:=h
 simp only [F90,ae,G8]
 omega
theorem Am8 (l:List Af) (h:l.length<=9223372036854775807):Vz l=some (l.any λ x=>!F90 x):=by
 unfold Vz uA
 rw [Kc (λ y=>!F90 y) (λ i y=>rfl) l h]
 simp only [ac,P6]
theorem Ago (x y:Int):J1 x y=if x<y then -1 else if x>y then 1 else 0:=by
 have h:∀ z:Int,Ys z=false:=λ z=>by simp [Ys]
 unfold J1
 rw [h x,h y]
 by_cases h1:x<y
 ·simp [h1]
 ·by_cases h2:y<x <;> simp [h1,h2]
theorem A4z (x y:Int):zI [x,y]=some (if x=0 then y else x):=by
 unfold zI
 by_cases h:x=0
 ·subst h
  by_cases h2:y=0
  ·subst h2;rfl
  ·have:(y != 0)=true:=by simpa using h2
   simp [foldI,V8,andThen,this]
 ·have:(x != 0)=true:=by simpa using h
  simp [foldI,V8,andThen,this,h]
theorem Azg {b:Aa} (h:Av b) {x:Al} (hx:B5 b x):F91 x.Number 0 (w64 ((K3 b x.Kind)-1))=true:=by
 have h1:=h.buses
 have h2:=h.brl
 have h3:=h.sol
 have h4:=h.col
 obtain⟨hn,hk⟩:=hx
 have hsz:∃ n,K3 b x.Kind=n/\x.Number<n/\n<=100:=by
  unfold K3
  rcases hk with⟨k,hk⟩ | ⟨k,hk⟩ | ⟨k,hk⟩ | ⟨k,hk⟩ <;> rw [k] <;> exact⟨_,rfl,by simpa using hk,by simp;omega⟩
 obtain⟨n,e,g1,g2⟩:=hsz
 rw [e,G8,A9 (by omega)]
 omega
theorem Att {b:Aa} (h:Av b) {l:List Al} (hl:Dx b l):F87 b l=some true:=by
 have hlen:=hl.len
 unfold F87
 have hf:foldI (qC b l) l 0 ()=some (.next ()):=by
  refine Da _ _ λ j x hj=>?_
  rw [aI]
  have hjl:=(aa.1 hj).1
  have hcnt:cnt 0 j=(j:Int):=Cv (by omega)
  have hin:=Azg h (hl.mem x (af hj))
  unfold qC Ayj
  rw [hcnt,hin]
  cases j with
  | zero=>simp [A4,Cz]
  | succ j=>
   obtain⟨p,hp⟩:∃ p,l[j]? = some p:=⟨_,ag (by omega)⟩
   have hlt:=hl.asc j p x hp hj
   have e:w64 ((((j+1:Nat):Int))-1)=(j:Int):=by rw [A9 (by omega)];omega
   have hg:getI l (j:Int)=some p:=by unfold getI;simp [hp]
   have hd:decide (((j+1:Nat):Int)>0)=true:=dF (by omega)
   have ho:zI [J1 p.Kind x.Kind,J1 p.Number x.Number]=some (-1):=by
    rw [A4z,Ago,Ago]
    rcases hlt with h1 | ⟨h1,h2⟩
    ·simp [h1]
    ·simp [h1,h2]
   rw [e,hg,hd]
   simp [A4,Cz,ho]
 rw [hf]
 have:decide ((l.length:Int)<=32)=true:=by simp;omega
 simp [andThen,this]
theorem La {l:List Aj} {c:List Bool} {j:Nat} {x:Aj} {v:Bool} (hx:l[j]? = some x) (hv:c[j]? = some v) (i:Nat) :
  Cd (l.take (j+1)) (c.take (j+1)) i=Cd (l.take j) (c.take j) i++if ((x.Kind==3&&x.B==(i:Int))&&v)=true then [(x,v)] else []:=by
 unfold Cd
 rw [Bi hx,Bi hv,List.zip_append (by
  have h1:=(aa.1 hx).1
  have h2:=(aa.1 hv).1
  simp;omega),bt]
 congr 1
 simp only [bJ,List.zip_nil_right,bp,List.filter_nil]
theorem As9 {b:Aa} (h:Av b) {p:Ab} (hc:p.Ag.length=b.Ad.length) (i:Nat):F92 b p (i:Int)=some (((Cd b.Ad p.Ag i).length:Nat):Int):=by
 refine d7 ?_
 unfold F92
 have hb:=h.brl
 refine Ok.andThen (A:=λ s=>s=(((Cd b.Ad p.Ag i).length:Nat):Int)) (B:=λ (_:Unit)=>False) ?_ (λ s hs=>c9 hs) (λ _ h=>h.elim)
 refine cT (I:=λ j s=>s=(((Cd (b.Ad.take j) (p.Ag.take j) i).length:Nat):Int)) ?_ (λ j x s hx hs=>?_) λ s hs=>?_
 ·simp [Cd]
 ·have hj:=(aa.1 hx).1
  obtain⟨v,hv⟩:∃ v,p.Ag[j]? = some v:=⟨_,ag (by omega)⟩
  have hcnt:cnt 0 j=(j:Int):=Cv (by omega)
  have hg:getI p.Ag (j:Int)=some v:=by unfold getI;simp [hv]
  have hle:(Cd (b.Ad.take j) (p.Ag.take j) i).length<=24:=by
   have h1:(Cd (b.Ad.take j) (p.Ag.take j) i).length<=((b.Ad.take j).zip (p.Ag.take j)).length:=bD _ _
   simp at h1;omega
  subst hs
  unfold Aib Ayi
  rw [hcnt,hg,La hx hv]
  cases hk:(x.Kind==3&&x.B==(i:Int)) with
  | false=>
   simp only [A4,Cz,Bool.false_and]
   exact cS (by simp)
  | true=>
   simp only [A4,Cz,bk]
   cases v with
   | false=>exact cS (by simp)
   | true=>
    refine cS ?_
    show w64 _=_
    rw [A9 (by omega)]
    simp
 ·rw [aG,←hc,aG] at hs
  exact hs
theorem Dj {b:Aa} (h:Av b) {p:Ab} (hp:Ax b p):F65 b p=some 0:=by
 refine d7 ?_
 unfold F65
 have h1:=hp.ncl
 have h2:=hp.nso
 have h3:=hp.nli
 have h4:=h.col
 have h5:=h.sol
 rw [Agq h]
 simp only [ac]
 have c0:Aob b p=false:=by
  simp [Aob,h1,h2,h3]
 have c1:((0:Int) != 0)=false:=rfl
 rw [c1,c0,Att h hp.brk]
 simp only [cond_false,ac]
 have hr:(p.Ac.any λ x=>!F90 x)=false:=by
  rw [cv]
  intro x hx
  rw [Amw (hp.run x hx)];simp
 have:A4 [(true,true)] (Vz p.Ac) default=some false:=by
  rw [Am8 _ (by omega),hr];rfl
 rw [this]
 simp only [ac]
 refine Ok.andThen (A:=λ s=>s=true) (B:=λ (_:Unit)=>False) ?_ ?_ (λ _ h=>h.elim)
 ·refine cT (I:=λ _ s=>s=true) rfl (λ j x s hx hs=>?_) λ _ h=>h
  subst hs
  have hj:=(aa.1 hx).1
  obtain⟨c,hc⟩:∃ c,b.Ae[j]? = some c:=⟨_,ag (by omega)⟩
  have hcnt:cnt 0 j=(j:Int):=Cv (by omega)
  have hg:getI b.Ae (j:Int)=some c:=by unfold getI;simp [hc]
  have hl:=hp.lim j x c hx hc
  have hone:=hp.one j (by omega)
  unfold Ail
  rw [hcnt,hg]
  have e1:A4 [(true,true)] (some c) default=some c:=rfl
  rw [e1]
  simp only [ac]
  have e2:(true&&F91 x 0 c.Load)=true:=by rw [vV hl];rfl
  rw [e2,As9 h h1]
  have e3:A4 [(true,true)] (some (((Cd b.Ad p.Ag j).length:Nat):Int)) default=some (((Cd b.Ad p.Ag j).length:Nat):Int):=rfl
  rw [e3]
  simp only [ac]
  refine cS ?_
  simp;omega
 ·rintro s rfl
  exact c9 rfl
theorem I1 (x lo hi:Int):F82 x lo hi=true↔lo<=x/\x<=hi:=by
 simp [F82]
theorem Z7 {b:Aa} (h:Av b) (x:Al):F64 b x=true↔B5 b x:=by
 have h1:=h.buses
 have h2:=h.brl
 have h3:=h.sol
 have h4:=h.col
 unfold F64 B5
 rw [A9 (n:=(b.Ac.length:Int)-1) (by omega),A9 (n:=(b.Ad.length:Int)-1) (by omega),A9 (n:=b.An-1) (by omega),A9 (n:=(b.Ae.length:Int)-1) (by omega)]
 by_cases k1:x.Kind=1
 ·rw [dD.2 k1,cond_true,I1];omega
 rw [dE.2 k1,cond_false]
 by_cases k2:x.Kind=2
 ·rw [dD.2 k2,cond_true,I1];omega
 rw [dE.2 k2,cond_false]
 by_cases k3:x.Kind=3
 ·rw [dD.2 k3,cond_true,I1];omega
 rw [dE.2 k3,cond_false]
 by_cases k4:x.Kind=4
 ·rw [dD.2 k4,cond_true,I1];omega
 ·rw [dE.2 k4]
  simp only [cond_false,bU,false_iff]
  omega
theorem Af7 {l:List Aj}:∀ {c d:List Bool},c.length=d.length->(∀ k:Nat,c[k]? = some true->d[k]? = some true)->∀ i,(Cd l c i).length<=(Cd l d i).length:=by
 induction l with
 | nil=>intro c d _ _ i;simp [Cd]
 | cons x l ih=>
  intro c d hl h i
  cases c with
  | nil=>simp [Cd]
  | cons v c=>cases d with
   | nil=>simp at hl
   | cons u d=>
    have:=ih (c:=c) (d:=d) (by simpa using hl) (λ k hk=>by have:=h (k+1) (by simpa using hk);simpa using this) i
    have h0:v=true->u=true:=λ e=>by have:=h 0 (by simp [e]);simpa using this
    unfold Cd at this ⊢
    simp only [bJ,bp]
    cases hk:(x.Kind==3&&x.B==(i:Int)) with
    | false=>simpa using this
    | true=>
     cases v with
     | false=>cases u <;> simp <;> omega
     | true=>rw [h0 rfl];simp;omega
theorem Avy {b:Aa} (h:Av b) {s0:Ah} (hs0:Bq s0) :
  Ok (whileN (Q4 b) 1152921504606846976 (0,s0.L,s0.At,([]:List Bool))) (Dd (λ s=>Bq ⟨s.2.1,s.2.2.1⟩/\s.2.2.2.length=b.Ad.length) (λ (_:Unit)=>False)):=by
 have hb:=h.brl
 refine cU (λ s=>(0<=s.1/\s.1<=(b.Ad.length:Int))/\Bq ⟨s.2.1,s.2.2.1⟩/\(s.2.2.2.length:Int)=s.1) (λ s=>((b.Ad.length:Int)-s.1).toNat) _ _ ?_ ?_ ?_
 ·exact⟨by dsimp only;omega,hs0,by simp⟩
 ·dsimp only;omega
 ·rintro⟨i,L,a,l⟩ ⟨⟨h1,h2⟩,h4,h5⟩
  dsimp only at h1 h2 h4 h5
  unfold Q4 Alt
  refine cR (λ h=>?_) (λ h=>?_)
  ·simp only [dA] at h
   have e:w64 (i+1)=i+1:=A9 (by omega)
   dsimp only
   rw [e]
   refine (D_ h4 2 (by omega) (by omega)).bind λ u hu=>(cW (by simp;omega)).bind λ m hm=>cS ?_
   subst hm
   exact⟨⟨by dsimp only;omega,hu.1,by simp;omega⟩,by dsimp only;omega⟩
  ·simp only [dC] at h
   exact d8 ⟨h4,by dsimp only;omega⟩
theorem Bj {α:Type} {l:List α} {j:Nat} {x:α} (h:l[j]? = some x):getI l (j:Int)=some x:=by unfold getI;simp [h]
theorem L4 {α:Type} {l:List α} {j:Nat} {x:α} (h:j<l.length):setI l (j:Int) x=some (l.set j x):=by
 unfold setI
 have h1:decide ((0:Int)<=(j:Int))=true:=by simp
 have h2:decide ((j:Int)<(l.length:Int))=true:=by simp;omega
 rw [h1,h2];simp
theorem Avw {b:Aa} (h:Av b) {n:Int} {i:Nat} (hn:n=(i:Int)) {c:List Bool} (hc:c.length=b.Ad.length) (w:Int×List Bool) (hw:w.1=n) :
  Ok (foldI (Q2 w) b.Ad 0 (true,c)) (Dd (λ s=>s.2.length=b.Ad.length/\(∀ k:Nat,s.2[k]? = some true->c[k]? = some true)/\(Cd b.Ad s.2 i).length<=1) (λ (_:Unit)=>False)):=by
 have hb:=h.brl
 refine cT (I:=λ j s=>s.2.length=b.Ad.length/\(∀ k:Nat,s.2[k]? = some true->c[k]? = some true)/\(s.1=true->Cd (b.Ad.take j) (s.2.take j) i=[])/\(Cd (b.Ad.take j) (s.2.take j) i).length<=1) ?_ (λ j x s hx hs=>?_) λ s hs=>?_
 ·exact⟨hc,λ _ h=>h,λ _=>by simp [Cd],by simp [Cd]⟩
 ·obtain⟨f,d⟩:=s
  obtain⟨h1,h2,h3,h4⟩:=hs
  dsimp only at h1 h2 h3 h4
  have hj:=(aa.1 hx).1
  obtain⟨v,hv⟩:∃ v,d[j]? = some v:=⟨_,ag (by omega)⟩
  have hcnt:cnt 0 j=(j:Int):=Cv (by omega)
  unfold Q2 Agt
  dsimp only
  rw [hcnt,Bj hv,L4 (by omega),hw,hn]
  cases hk:(x.Kind==3&&x.B==(i:Int)) with
  | false=>
   simp only [A4,Cz,Bool.false_and]
   refine cS ⟨h1,h2,λ e=>?_,?_⟩ <;> dsimp only <;> rw [La hx hv,hk]
   ·simpa using h3 e
   ·simpa using h4
  | true=>
   simp only [A4,Cz,bk]
   cases v with
   | false=>
    refine cS ⟨h1,h2,λ e=>?_,?_⟩ <;> dsimp only <;> rw [La hx hv,hk]
    ·simpa using h3 e
    ·simpa using h4
   | true=>
    have hset:(d.set j f)[j]? = some f:=by rw [bK (by omega)]
    have htake:(d.set j f).take j=d.take j:=by rw [List.take_set_of_le (an j)]
    refine cS ⟨by simpa using h1,λ k hk2=>?_,λ e=>?_,?_⟩
    ·dsimp only at hk2
     rw [ax] at hk2
     split at hk2
     ·rename_i e;subst e;exact h2 _ hv
     ·exact h2 _ hk2
    ·cases e
    ·dsimp only
     rw [La hx hset,hk,htake]
     cases f with
     | false=>simpa using h4
     | true=>simp [h3 rfl]
 ·rw [aG] at hs
  obtain⟨h1,h2,h3,h4⟩:=hs
  have:s.2.take b.Ad.length=s.2:=bz (by omega)
  rw [this] at h4
  exact⟨h1,h2,h4⟩
theorem Avx {b:Aa} (h:Av b) {c:List Bool} (hc:c.length=b.Ad.length) :
  Ok (whileN (Q3 b) 1152921504606846976 (0,c)) (Dd (λ s=>s.2.length=b.Ad.length/\∀ i,i<b.Ae.length->(Cd b.Ad s.2 i).length<=1) (λ (_:Unit)=>False)):=by
 have hco:=h.col
 refine cU (λ s=>(0<=s.1/\s.1<=(b.Ae.length:Int))/\s.2.length=b.Ad.length/\∀ i:Nat,(i:Int)<s.1->(Cd b.Ad s.2 i).length<=1) (λ s=>((b.Ae.length:Int)-s.1).toNat) _ _ ?_ ?_ ?_
 ·exact⟨by dsimp only;omega,hc,λ i hi=>by dsimp only at hi;omega⟩
 ·dsimp only;omega
 ·rintro⟨n,d⟩ ⟨⟨h1,h2⟩,h3,h4⟩
  dsimp only at h1 h2 h3 h4
  unfold Q3 Als
  refine cR (λ hq=>?_) (λ hq=>?_)
  ·simp only [dA] at hq
   have e:w64 (n+1)=n+1:=A9 (by omega)
   dsimp only
   refine (Avw h (n:=n) (i:=n.toNat) (by omega) h3 (n,d) rfl).inner (λ s hs=>?_) (λ _ h=>h.elim)
   rw [e]
   obtain⟨g1,g2,g3⟩:=hs
   refine cS ⟨⟨by dsimp only;omega,g1,λ i hi=>?_⟩,by dsimp only;omega⟩
   dsimp only at hi ⊢
   by_cases e:(i:Int)=n
   ·have:i=n.toNat:=by omega
    subst this;exact g3
   ·exact aH (Af7 (by omega) g2 i) (h4 i (by omega))
  ·simp only [dC] at hq
   exact d8 ⟨h3,λ i hi=>h4 i (by omega)⟩
theorem Avv {b:Aa} (h:Av b) {s0:Ah} (hs0:Bq s0) :
  Ok (whileN (Q1 b) 1152921504606846976 (0,s0.L,s0.At,([]:List Af))) (Dd (λ s=>Bq ⟨s.2.1,s.2.2.1⟩/\s.2.2.2.length=b.Ac.length/\∀ x,x∈s.2.2.2->Cw x/\x.Since<=4) (λ (_:Unit)=>False)):=by
 have hb:=h.sol
 refine cU (λ s=>(0<=s.1/\s.1<=(b.Ac.length:Int))/\Bq ⟨s.2.1,s.2.2.1⟩/\(s.2.2.2.length:Int)=s.1/\∀ x,x∈s.2.2.2->Cw x/\x.Since<=4) (λ s=>((b.Ac.length:Int)-s.1).toNat) _ _ ?_ ?_ ?_
 ·exact⟨by dsimp only;omega,hs0,by simp,λ x hx=>by simp at hx⟩
 ·dsimp only;omega
 ·rintro⟨i,L,a,l⟩ ⟨⟨h1,h2⟩,h4,h5,h6⟩
  dsimp only at h1 h2 h4 h5 h6
  unfold Q1 Ags
  refine cR (λ h=>?_) (λ h=>?_)
  ·simp only [dA] at h
   have e:w64 (i+1)=i+1:=A9 (by omega)
   dsimp only
   rw [e]
   refine (Dw h4 _ (by simp) (by simp)).bind λ u hu=>(D_ hu.1 5 (by omega) (by omega)).bind λ v hv=>(Dw hv.1 _ (by simp) (by simp)).bind λ p hp=>(Dw hp.1 _ (by simp) (by simp)).bind λ q hq=>(cW (by simp;omega)).bind λ m hm=>cS ?_
   subst hm
   have g1:u.1=0\/u.1=1\/u.1=2\/u.1=2\/u.1=2\/u.1=3:=by simpa using hu.2
   have g2:=hv.2
   have g3:p.1=5000\/p.1=5000\/p.1=5005\/p.1=4950:=by simpa using hp.2
   have g4:q.1=0\/q.1=0\/q.1=40\/q.1=1800\/q.1=3590:=by simpa using hq.2
   refine⟨⟨by dsimp only;omega,hq.1,by simp;omega,λ x hx=>?_⟩,by dsimp only;omega⟩
   rcases az.1 hx with hx | hx
   ·exact h6 x hx
   ·simp at hx;subst hx
    exact⟨⟨by dsimp only;omega,by dsimp only;omega,by dsimp only;omega,by dsimp only;omega⟩,by dsimp only;omega⟩
  ·simp only [dC] at h
   exact d8 ⟨h4,by dsimp only;omega,h6⟩
theorem Avu {b:Aa} (h:Av b) {s0:Ah} (hs0:Bq s0) :
  Ok (foldI Q0 b.Ae 0 (s0.L,s0.At,([]:List Int))) (Dd (λ s=>Bq ⟨s.1,s.2.1⟩/\s.2.2.length=b.Ae.length/\∀ (i:Nat) n c,s.2.2[i]? = some n->b.Ae[i]? = some c->0<=n/\n<=c.Load) (λ (_:Unit)=>False)):=by
 have hb:=h.col
 refine cT (I:=λ j s=>Bq ⟨s.1,s.2.1⟩/\s.2.2.length=j/\∀ (i:Nat) n c,s.2.2[i]? = some n->b.Ae[i]? = some c->0<=n/\n<=c.Load) ?_ (λ j x s hx hs=>?_) λ s hs=>hs
 ·exact⟨hs0,rfl,λ i n c hn=>by simp at hn⟩
 ·obtain⟨L,a,l⟩:=s
  obtain⟨h1,h2,h3⟩:=hs
  dsimp only at h1 h2 h3
  have hj:=(aa.1 hx).1
  unfold Q0
  dsimp only
  refine (Dw h1 _ (by simp) (by simp)).bind λ u hu=>(cW (by simp;omega)).bind λ m hm=>cS ⟨hu.1,?_,λ i n c hn hc=>?_⟩
  ·subst hm;simp [h2]
  ·dsimp only at hn
   subst hm
   rw [ch] at hn
   split at hn
   ·exact h3 i n c hn hc
   ·rename_i hi
    have hlt:=(aa.1 hn).1
    simp at hlt
    have:i=j:=by omega
    subst this
    rw [hx] at hc;cases hc
    rw [h2] at hn
    simp at hn;subst hn
    obtain⟨g1,g2,_⟩:=h.co _ x hx
    have g3:=Avg (x:=x.Load) (by omega) (by omega)
    have g4:u.1=x.Load\/u.1=x.Load\/u.1=x.Least\/u.1=w64 (Int.tdiv x.Load 3):=by simpa using hu.2
    omega
theorem Avt {b:Aa} (h:Av b) {s0:Ah} (hs0:Bq s0) :
  Ok (whileN (Qz b) 7 (1,s0.L,s0.At,([]:List Al))) (Dd (λ s=>Bq ⟨s.2.1,s.2.2.1⟩/\Dx b s.2.2.2/\s.2.2.2.length<=4) (λ (_:Unit)=>False)):=by
 refine cU (λ s=>(1<=s.1/\s.1<=5)/\Bq ⟨s.2.1,s.2.2.1⟩/\((s.2.2.2.length:Int)<s.1)/\(∀ x,x∈s.2.2.2->B5 b x/\x.Kind<s.1)/\∀ (j:Nat) x y,s.2.2.2[j]? = some x->s.2.2.2[j+1]? = some y->O3 x y) (λ s=>(5-s.1).toNat) _ _ ?_ ?_ ?_
 ·exact⟨by dsimp only;omega,hs0,by simp,λ x hx=>by simp at hx,λ j x y hx=>by simp at hx⟩
 ·dsimp only;omega
 ·rintro⟨i,L,a,l⟩ ⟨⟨h1,h2⟩,h4,h5,h6,h7⟩
  dsimp only at h1 h2 h4 h5 h6 h7
  unfold Qz
  refine cR (λ hq=>?_) (λ hq=>?_)
  ·simp only [dA] at hq
   have e:w64 (i+1)=i+1:=A9 (by omega)
   dsimp only
   rw [e]
   have skip:∀ {u:Ah},Bq u->Ok (some (.next (i+1,u.L,u.At,l)):Option (Ctl (Int×List Int×Int×List Al) Unit)) (Gq (λ s=>((1<=s.1/\s.1<=5)/\Bq ⟨s.2.1,s.2.2.1⟩/\((s.2.2.2.length:Int)<s.1)/\(∀ x,x∈s.2.2.2->B5 b x/\x.Kind<s.1)/\∀ (j:Nat) x y,s.2.2.2[j]? = some x->s.2.2.2[j+1]? = some y->O3 x y)/\(5-s.1).toNat<(5-i).toNat) (λ s=>Bq ⟨s.2.1,s.2.2.1⟩/\Dx b s.2.2.2/\s.2.2.2.length<=4) (λ _=>False)):=λ hu=>
    cS ⟨⟨by dsimp only;omega,hu,by dsimp only;omega,λ x hx=>⟨(h6 x hx).1,by have:=(h6 x hx).2;dsimp only;omega⟩,h7⟩,by dsimp only;omega⟩
   refine (D_ h4 5 (by omega) (by omega)).bind λ u hu=>cR (λ _=>?_) (λ _=>skip hu.1)
   refine (D_ hu.1 4 (by omega) (by omega)).bind λ v hv=>cR (λ he=>?_) (λ _=>skip hv.1)
   rw [Z7 h] at he
   refine (cW (by simp;omega)).bind λ m hm=>cS ?_
   subst hm
   refine⟨⟨by dsimp only;omega,hv.1,by simp;omega,λ x hx=>?_,λ j x y hx hy=>?_⟩,by dsimp only;omega⟩
   ·rcases az.1 hx with hx | hx
    ·exact⟨(h6 x hx).1,by have:=(h6 x hx).2;dsimp only;omega⟩
    ·simp at hx;subst hx;exact⟨he,by dsimp only;omega⟩
   ·dsimp only at hx hy
    have hyl:=(aa.1 hy).1
    simp at hyl
    rw [ay (by omega)] at hx
    rw [ch] at hy
    split at hy
    ·exact h7 j x y hx hy
    ·rename_i hn
     have e0:j+1-l.length=0:=by omega
     rw [e0] at hy
     simp at hy;subst hy
     exact .inl (h6 x (af hx)).2
  ·simp only [dC] at hq
   exact d8 ⟨h4,⟨by dsimp only;omega,λ x hx=>(h6 x hx).1,h7⟩,by dsimp only;omega⟩
theorem Au3 {b:Aa} (h:Av b) {s:Ah} (hs:Bq s):Ok (V1 s b) λ y=>((Ax b y.1/\y.1.Ao.length<=4)/\Bq y.2)/\∀ x,x∈y.1.Ac->x.Since<=4:=by
 unfold V1
 refine (Avy h hs).andThen (λ s0 h0=>?_) (λ _ h=>h.elim)
 refine (Avx h h0.2).andThen (λ s1 h1=>?_) (λ _ h=>h.elim)
 refine (Avv h h0.1).andThen (λ s3 h3=>?_) (λ _ h=>h.elim)
 refine (Avu h h3.1).andThen (λ s4 h4=>?_) (λ _ h=>h.elim)
 refine (Avt h h4.1).andThen (λ s5 h5=>?_) (λ _ h=>h.elim)
 exact c9 ⟨⟨⟨⟨h1.1,h3.2.1,h4.2.1,λ x hx=>(h3.2.2 x hx).1,h4.2.2,h1.2,h5.2.1⟩,h5.2.2⟩,h5.1⟩,λ x hx=>(h3.2.2 x hx).2⟩
theorem Axp {b:Aa} (h:Av b) {s:Ah} (hs:Bq s):Ok (V1 s b) λ y=>(Ax b y.1/\y.1.Ao.length<=4)/\Bq y.2:=(Au3 h hs).mono λ _ hy=>hy.1
def Ee (b:Aa) (p:Ab) (k i:Int):Option Int:=((b.Ad.zip p.Ag).find? λ z=>(z.1.Kind==k&&z.1.B==i)&&z.2).map (·.1.A)
def Fw (o:Option Int):Int×Bool:=match o with
 | some a=>(a,true)
 | none=>(0,false)
theorem Afr {p:Ab} {k i:Int}:∀ (l:List Aj) (c:List Bool) (n:Nat),n+l.length<=9223372036854775807->l.length=c.length->p.Ag.drop n=c ->
  foldI (V7 p k i) l n ()=match ((l.zip c).find? λ z=>(z.1.Kind==k&&z.1.B==i)&&z.2) with
   | some z=>some (.ret (z.1.A,true))
   | none=>some (.next ())
 | [],c,n,_,_,_=>by simp [foldI]
 | x::l,[],n,_,h,_=>by simp at h
 | x::l,v::c,n,hn,h,hd=>by
  simp only [aP] at hn h
  have hv:p.Ag[n]? = some v:=by
   have:=congrArg (·[0]?) hd
   simpa [List.getElem?_drop] using this
  have hd':p.Ag.drop (n+1)=c:=by rw [←bV,hd];rfl
  have ih:=Afr (p:=p) (k:=k) (i:=i) l c (n+1) (by omega) (by omega) hd'
  have hcnt:cnt 0 n=(n:Int):=Cv (by omega)
  simp only [foldI,V7,Atj,hcnt,Bj hv,bJ,cJ]
  cases hk:(x.Kind==k&&x.B==i) with
  | false=>simpa [A4,Cz] using ih
  | true=>
   cases v with
   | false=>simpa [A4,Cz] using ih
   | true=>simp [A4,Cz]
theorem Arz {b:Aa} (h:Av b) {p:Ab} (hc:p.Ag.length=b.Ad.length) (k i:Int):zH b p k i=some (Fw (Ee b p k i)):=by
 have hb:=h.brl
 unfold zH
 rw [Afr b.Ad p.Ag 0 (by omega) (by omega) rfl]
 unfold Ee
 cases (b.Ad.zip p.Ag).find? λ z=>(z.1.Kind==k&&z.1.B==i)&&z.2 with
 | none=>rfl
 | some z=>rfl
theorem Ash {b:Aa} (h:Av b) {p:Ab} (hc:p.Ag.length=b.Ad.length) (i:Int):F99 b p i=some (Fw (Ee b p 3 i)):=by
 unfold F99
 rw [Arz h hc];rfl
def D7 (b:Aa) (p:Ab) (i:Int):Option Int:=
 if 0<=i/\i<p.Ac.length/\(p.Ac.getD i.toNat default).State=2 then Ee b p 2 i else none
theorem Mp {b:Aa} (h:Av b) {p:Ab} (hp:Ax b p) (i:Int):F98 b p i=some (Fw (D7 b p i)):=by
 have hs:=h.sol
 have hn:=hp.nso
 refine d7 ?_
 unfold F98
 have e1:w64 ((p.Ac.length:Int)-1)=(p.Ac.length:Int)-1:=A9 (by omega)
 by_cases hi:0<=i/\i<p.Ac.length
 ·have hin:F91 i 0 (w64 ((p.Ac.length:Int)-1))=true:=by rw [e1];exact vV (by omega)
  obtain⟨x,hx⟩:∃ x,p.Ac[i.toNat]? = some x:=⟨_,ag (by omega)⟩
  have hg:getI p.Ac i=some x:=by have:=Bj hx;rwa [bP hi.1] at this
  have hd:p.Ac.getD i.toNat default=x:=by simp [List.getD,hx]
  rw [hin,hg]
  refine Ok.bind (P:=λ y=>y=x) (cX (λ _=>c9 rfl) λ hn=>(hn ⟨rfl,trivial⟩).elim) λ y hy=>?_
  subst hy
  unfold D7
  refine cR (λ hc=>?_) (λ hc=>?_)
  ·simp only [Acu,hin,aO,bj,bU,false_or,bne_iff_ne,ne_eq] at hc
   rw [hd,if_neg (λ hh=>hc hh.2.2)]
   exact c9 rfl
  ·have hc:=ff hc
   simp only [Acu,hin,aO,bj,bU,false_or,bne_iff_ne,ne_eq,Decidable.not_not] at hc
   rw [hd,if_pos ⟨hi.1,hi.2,hc⟩,Arz h hp.ncl]
   exact c9 rfl
 ·have hin:F91 i 0 (w64 ((p.Ac.length:Int)-1))=false:=by
   cases hq:F91 i 0 (w64 ((p.Ac.length:Int)-1)) with
   | false=>rfl
   | true=>rw [G8,e1] at hq;omega
  rw [hin]
  unfold D7
  rw [if_neg (λ hh=>hi ⟨hh.1,hh.2.1⟩)]
  refine Ok.bind (P:=λ _=>True) (cX (λ hg=>absurd hg.1 (by simp)) λ _=>trivial) λ y _=>?_
  refine cR (λ _=>c9 rfl) (λ hc=>?_)
  simp [Acu,hin] at hc
theorem Xl {b:Aa} (h:Av b) {p:Ab} {k i a:Int} (e:Ee b p k i=some a):0<=a/\a<b.An:=by
 unfold Ee at e
 rw [Option.map_eq_some_iff] at e
 obtain⟨z,hz,rfl⟩:=e
 exact (h.br z.1 (ci (List.mem_of_find?_eq_some hz)).1).1
theorem Mq {b:Aa} (h:Av b) {p:Ab} {i a:Int} (e:D7 b p i=some a):0<=a/\a<b.An:=by
 unfold D7 at e
 split at e
 ·exact Xl h e
 ·cases e
def Em (s:List Int) (z:Aj×Bool):List Int:=
 if z.1.Kind=1/\z.2=true then (s.set z.1.A.toNat (min (s.getD z.1.A.toNat 0) (s.getD z.1.B.toNat 0))).set z.1.B.toNat (min (s.getD z.1.A.toNat 0) (s.getD z.1.B.toNat 0)) else s
def C3 (l:List (Aj×Bool)) (s:List Int):List Int:=l.foldl Em s
def Ci (n:Nat):List Int:=(List.range n).map λ (i:Nat)=>(i:Int)
def A8 (b:Aa) (p:Ab):List Int:=(List.range b.An.toNat).foldl (λ s _=>C3 (b.Ad.zip p.Ag) s) (Ci b.An.toNat)
theorem D5 (s:List Int) (z:Aj×Bool):(Em s z).length=s.length:=by
 unfold Em;split <;> simp
theorem E8 (l:List (Aj×Bool)):∀ s:List Int,(C3 l s).length=s.length:=by
 induction l with
 | nil=>intro s;rfl
 | cons z l ih=>intro s;show (C3 l (Em s z)).length=_;rw [ih,D5]
theorem N5 {b:Aa} {p:Ab} {n:Nat}:∀ (xs:List Nat) (s:List Int),s.length=n->(xs.foldl (λ s _=>C3 (b.Ad.zip p.Ag) s) s).length=n
 | [],s,h=>h
 | _::xs,s,h=>N5 xs _ (by rw [E8];exact h)
theorem H8 (b:Aa) (p:Ab):(A8 b p).length=b.An.toNat:=N5 _ _ (by simp [Ci])
theorem Awp {b:Aa} (h:Av b) {p:Ab} (hc:p.Ag.length=b.Ad.length) {s:List Int} (hs:s.length=b.An.toNat) :
  Ok (foldI (qB p) b.Ad 0 s) (Dd (λ r=>r=C3 (b.Ad.zip p.Ag) s) (λ (_:Unit)=>False)):=by
 have hb:=h.brl
 have hbu:=h.buses
 refine cT (I:=λ j r=>r=C3 ((b.Ad.take j).zip (p.Ag.take j)) s) (by simp [C3]) (λ j x r hx hr=>?_) λ r hr=>?_
 ·have hj:=(aa.1 hx).1
  obtain⟨v,hv⟩:∃ v,p.Ag[j]? = some v:=⟨_,ag (by omega)⟩
  have hcnt:cnt 0 j=(j:Int):=Cv (by omega)
  have hl:r.length=b.An.toNat:=by rw [hr,E8,hs]
  have hnext:C3 ((b.Ad.take (j+1)).zip (p.Ag.take (j+1))) s=Em r (x,v):=by
   rw [Bi hx,Bi hv,List.zip_append (by simp;omega)]
   unfold C3 at hr ⊢
   rw [aX,←hr];rfl
  rw [hnext]
  unfold qB
  rw [hcnt,Bj hv]
  obtain⟨⟨a0,a1⟩,hk⟩:=h.br x (af hx)
  by_cases k1:x.Kind=1
  ·rw [dD.2 k1]
   refine Ok.bind (P:=λ y=>y=v) (cX (λ _=>c9 rfl) λ hn=>(hn ⟨rfl,trivial⟩).elim) λ y hy=>?_
   subst hy
   have hB:x.A<x.B/\x.B<b.An:=by omega
   cases y with
   | false=>
    refine cR (λ hq=>by simp at hq) (λ _=>cS ?_)
    simp [Em]
   | true=>
    refine cR (λ _=>?_) (λ hq=>by simp at hq)
    refine (cV a0 (by omega)).bind λ u hu=>(cV (by omega) (by omega)).bind λ w hw=>(d4 a0 (by omega)).bind λ t ht=>?_
    subst ht
    refine (cV (by omega) (by simp;omega)).bind λ _ _=>(d4 (by omega) (by simp;omega)).bind λ t ht=>cS ?_
    subst ht
    simp [Em,k1,List.getD,hu,hw]
  ·rw [dE.2 k1]
   refine Ok.bind (P:=λ _=>True) (cX (λ hg=>absurd hg.1 (by simp)) λ _=>trivial) λ y _=>?_
   refine cR (λ hq=>by simp at hq) (λ _=>cS ?_)
   simp [Em,k1]
 ·rw [aG,←hc,aG] at hr
  exact hr
theorem Ase {b:Aa} (h:Av b) {p:Ab} (hc:p.Ag.length=b.Ad.length):F97 b p=some (A8 b p):=by
 have hbu:=h.buses
 refine d7 ?_
 unfold F97
 refine (Ok.mkI (by omega) (by omega)).bind λ y hy=>?_
 refine Ok.andThen (A:=λ s=>s=Ci b.An.toNat) (B:=λ (_:Unit)=>False) ?_ ?_ (λ _ h=>h.elim)
 ·refine cT (I:=λ j s=>s=(List.range b.An.toNat).map λ i=>if i<j then (i:Int) else 0) ?_ (λ j x s hx hs=>?_) λ s hs=>?_
  ·rw [hy,Nc]
   exact bg λ i _=>by simp
  ·have hj:=(aa.1 hx).1
   have hjl:j<b.An.toNat:=by rw [hy] at hj;simpa using hj
   have hcnt:cnt 0 j=(j:Int):=Cv (by omega)
   subst hs
   unfold Aia
   rw [hcnt]
   refine (dj (by omega) (by omega)).bind λ _ _=>(dn (by omega) (by omega)).bind λ z hz=>cS ?_
   rw [hz]
   refine bg λ i _=>?_
   by_cases e:i=j
   ·subst e;simp
   ·have:((j:Int)).toNat=j:=by omega
    rw [this,if_neg e]
    by_cases e2:i<j
    ·rw [if_pos e2,if_pos (by omega)]
    ·rw [if_neg e2,if_neg (by omega)]
  ·rw [hs]
   unfold Ci
   refine bg λ i hi=>?_
   rw [hy]
   simp at hi
   simp [hi]
 ·rintro s rfl
  refine Ok.andThen (A:=λ s=>s=A8 b p) (B:=λ (_:Unit)=>False) ?_ (λ s hs=>c9 hs) (λ _ h=>h.elim)
  refine cT (I:=λ j s=>s=(List.range j).foldl (λ s _=>C3 (b.Ad.zip p.Ag) s) (Ci b.An.toNat)) rfl (λ j x s hx hs=>?_) λ s hs=>?_
  ·unfold Ah9
   have hl:s.length=b.An.toNat:=by rw [hs];exact N5 _ _ (by simp [Ci])
   refine (Awp h hc hl).inner (λ r hr=>cS ?_) (λ _ h=>h.elim)
   rw [hr,cj,aX,←hs];rfl
  ·rw [hs]
   unfold A8
   congr 2
   simp [Ci]
theorem Awo {s:List Int} (h:∀ (i:Nat) v,s[i]? = some v->0<=v/\v<=i) {z:Aj×Bool} (hz:z.1.Kind=1->0<=z.1.A/\z.1.A<z.1.B/\z.1.B<s.length):∀ (i:Nat) v,(Em s z)[i]? = some v->0<=v/\v<=i:=by
 unfold Em
 split
 ·rename_i hk
  obtain⟨h1,h2,h3⟩:=hz hk.1
  have ga:s[z.1.A.toNat]? = some (s.getD z.1.A.toNat 0):=by rw [ag (by omega)];simp [List.getD,List.getElem?_eq_getElem (show z.1.A.toNat<s.length by omega)]
  have gb:s[z.1.B.toNat]? = some (s.getD z.1.B.toNat 0):=by rw [ag (by omega)];simp [List.getD,List.getElem?_eq_getElem (show z.1.B.toNat<s.length by omega)]
  have ha:=h _ _ ga
  have hb:=h _ _ gb
  intro i v hv
  rw [ax] at hv
  split at hv
  ·rename_i e;subst e
   split at hv
   ·cases hv;omega
   ·cases hv
  ·rw [ax] at hv
   split at hv
   ·rename_i e;subst e
    split at hv
    ·cases hv;omega
    ·cases hv
   ·exact h i v hv
 ·exact h
theorem Aa4 {n:Nat}:∀ (l:List (Aj×Bool)) (s:List Int),s.length=n->(∀ z,z∈l->z.1.Kind=1->0<=z.1.A/\z.1.A<z.1.B/\z.1.B<n)->(∀ (i:Nat) v,s[i]? = some v->0<=v/\v<=i)->∀ (i:Nat) v,(C3 l s)[i]? = some v->0<=v/\v<=i
 | [],s,_,_,h=>h
 | z::l,s,hs,hz,h=>Aa4 l (Em s z) (by rw [D5];exact hs) (λ y hy=>hz y (ai _ hy)) (Awo h (by rw [hs];exact hz z aj))
theorem Ss {b:Aa} (h:Av b) (p:Ab):∀ (i:Nat) v,(A8 b p)[i]? = some v->0<=v/\v<=i:=by
 have hbu:=h.buses
 have hz:∀ z,z∈b.Ad.zip p.Ag->z.1.Kind=1->0<=z.1.A/\z.1.A<z.1.B/\z.1.B<(b.An.toNat:Int):=by
  intro z hz hk
  have:=h.br z.1 (ci hz).1
  unfold Q6 at this
  omega
 have key:∀ (xs:List Nat) (s:List Int),s.length=b.An.toNat->(∀ (i:Nat) v,s[i]? = some v->0<=v/\v<=i)->∀ (i:Nat) v,(xs.foldl (λ s _=>C3 (b.Ad.zip p.Ag) s) s)[i]? = some v->0<=v/\v<=i:=by
  intro xs
  induction xs with
  | nil=>intro s _ h;exact h
  | cons x xs ih=>intro s hl h;exact ih _ (by rw [E8];exact hl) (Aa4 _ s hl hz h)
 refine key _ _ (by simp [Ci]) ?_
 intro i v hv
 simp only [Ci,aw] at hv
 cases hr:(List.range b.An.toNat)[i]? with
 | none=>rw [hr] at hv;cases hv
 | some k=>
  rw [hr] at hv
  have:=aa.1 hr
  simp at this
  obtain⟨_,rfl⟩:=this
  cases hv;dsimp only;omega
def Ik (x:Ai):Bool:=!((x.An.length:Int)==0)
theorem Aw2 (l:List Ai) (h:l.length<=9223372036854775807):Uq l=some (N4 (λ x=>(x.An.length:Int)==0) l):=by
 unfold Uq
 exact Kc (λ x:Ai=>(x.An.length:Int)==0) (λ i y=>rfl) l h
theorem A0g (l:List Ai) (hl:l.length<=1000):Pb l=some (l.filter Ik):=by
 refine d7 ?_
 unfold Pb
 rw [Aw2 l (by omega)]
 simp only [ac]
 unfold N4
 cases hf:l.findIdx? λ x=>(x.An.length:Int)==0 with
 | none=>
  rw [cM] at hf
  refine cR (λ _=>c9 ?_) (λ hc=>by simp at hc)
  rw [eq_comm,cI]
  intro x hx
  simp only [Ik,hf x hx];rfl
 | some i=>
  rw [cN] at hf
  obtain⟨hi,hp,hn⟩:=hf
  refine cR (λ hc=>?_) (λ _=>?_)
  ·simp only [dD] at hc;omega
  have e1:w64 ((i:Int)+1)=(i:Int)+1:=A9 (by omega)
  simp only [e1]
  refine Ok.andThen (A:=λ s=>0<=s.1/\s.1<=(l.length:Int)/\s.2.2.length=l.length/\s.2.2.take s.1.toNat=l.filter Ik) (B:=λ (_:Unit)=>False) ?_ ?_ (λ _ h=>h.elim)
  ·refine cU (λ s=>(0<=s.1/\s.1<s.2.1/\s.2.1<=(l.length:Int))/\s.2.2.length=l.length/\s.2.2.take s.1.toNat=(l.take s.2.1.toNat).filter Ik/\s.2.2.drop s.2.1.toNat=l.drop s.2.1.toNat) (λ s=>((l.length:Int)-s.2.1).toNat) _ _ ?_ ?_ ?_
   ·refine⟨by dsimp only;omega,rfl,?_,rfl⟩
    dsimp only
    have e2:((i:Int)+1).toNat=i+1:=by omega
    rw [e2,aF,Bi (ag hi),bt]
    have h1:(l.take i).filter Ik=l.take i:=by
     rw [cI]
     intro x hx
     obtain⟨j,hj,rfl⟩:=cD hx
     simp only [aU] at hj
     rw [List.getElem_take]
     have:=hn j (by omega)
     simp only [Ik]
     simpa using this
    have h2:Ik l[i]=false:=by simp only [Ik,hp];rfl
    rw [h1]
    simp [h2]
   ·dsimp only;omega
   ·rintro⟨a,j,m⟩ ⟨⟨h1,h2,h3⟩,h4,h5,h6⟩
    dsimp only at h1 h2 h3 h4 h5 h6
    unfold Ut Ag2
    dsimp only
    refine cR (λ hq=>?_) (λ hq=>?_)
    ·simp only [dA] at hq
     have e1:w64 (j+1)=j+1:=A9 (by omega)
     have e2:w64 (a+1)=a+1:=A9 (by omega)
     have e3:(j+1).toNat=j.toNat+1:=by omega
     have e4:(a+1).toNat=a.toNat+1:=by omega
     refine (cV (by omega) (by omega)).bind λ y hy=>?_
     have hyl:l[j.toNat]? = some y:=by
      have:=congrArg (·[0]?) h6
      simp only [aq,ck] at this
      rw [←this];exact hy
     have hdrop:∀ (q:List Ai),q.drop j.toNat=l.drop j.toNat->q.drop (j.toNat+1)=l.drop (j.toNat+1):=λ q hq=>by
      rw [←bV,hq,bV]
     refine cR (λ hf=>?_) (λ hf=>?_)
     ·refine (cV (by omega) (by omega)).bind λ _ _=>(d4 (by omega) (by omega)).bind λ z hz=>?_
      rw [e1,e2]
      subst hz
      refine cS ⟨⟨by dsimp only;omega,by simpa using h4,?_,?_⟩,by dsimp only;omega⟩
      ·dsimp only
       rw [e3,e4,Bi hyl,bt,←h5]
       have hfl:Ik y=true:=hf
       rw [Bi (x:=y) (by rw [bK (by omega)])]
       simp [hfl,List.take_set_of_le]
      ·dsimp only
       rw [e3,List.drop_set_of_lt (by omega)]
       exact hdrop m h6
     ·rw [e1]
      refine cS ⟨⟨by dsimp only;omega,h4,?_,?_⟩,by dsimp only;omega⟩
      ·dsimp only
       have hfl:Ik y=false:=hf
       rw [e3,Bi hyl,bt,←h5]
       simp [hfl]
      ·dsimp only
       rw [e3];exact hdrop m h6
    ·simp only [dC] at hq
     have e:j.toNat=l.length:=by omega
     refine d8 ⟨h1,by dsimp only;omega,h4,?_⟩
     dsimp only
     rw [h5,e,aG]
  ·rintro⟨a,j,m⟩ ⟨h1,h2,h3,h4⟩
   dsimp only at h1 h2 h3 h4 ⊢
   have hc:(F7 m a.toNat ((Int.toNat (m.length:Int))-a.toNat) (⟨([]:List Int),([]:List Int),([]:List Int)⟩:Ai)).length=l.length:=by
    simp [F7];omega
   refine (Ok.bndI h1 (by omega) (by omega)).bind λ _ _=>(Ok.bndI (by omega) h1 (by rw [hc];omega)).bind λ _ _=>c9 ?_
   rw [←h4]
   unfold F7
   rw [Nat.sub_zero,cy (by simp;omega),List.take_take,Nat.min_self]
def Fc (b:Aa) (p:Ab) (o:Option Int):Option Int:=o.map λ a=>(A8 b p).getD a.toNat 0
def Dv (b:Aa) (p:Ab) (n f:Nat):List Int:=((List.range n).filter λ (i:Nat)=>(A8 b p).getD i 0==(f:Int)).map λ (i:Nat)=>(i:Int)
def Fa (b:Aa) (p:Ab) (n f:Nat):List Int:=((List.range n).filter λ (i:Nat)=>Fc b p (D7 b p (i:Int))==some (f:Int)).map λ (i:Nat)=>(i:Int)
def Gf (b:Aa) (p:Ab) (n f:Nat):List Int:=((List.range n).filter λ (i:Nat)=>Fc b p (Ee b p 3 (i:Int))==some (f:Int)).map λ (i:Nat)=>(i:Int)
def isl (b:Aa) (p:Ab) (f:Nat):Ai:=⟨Dv b p b.An.toNat f,Fa b p b.Ac.length f,Gf b p b.Ae.length f⟩
def Bk (b:Aa) (p:Ab):List Ai:=((List.range b.An.toNat).map (isl b p)).filter Ik
theorem Fd (q:Nat->Bool) (n:Nat):((List.range (n+1)).filter q).map (λ (i:Nat)=>(i:Int))=((List.range n).filter q).map (λ (i:Nat)=>(i:Int))++if q n=true then [(n:Int)] else []:=by
 rw [cj,bt,bI]
 congr 1
 cases h:q n <;> simp [h]
theorem C9 (q:Nat->Bool) (n:Nat):(((List.range n).filter q).map (λ (i:Nat)=>(i:Int))).length<=n:=by
 have:=bD q (List.range n)
 simpa using this
theorem Hp {b : Aa} (h : Av b) {p : Ab} (hp : Ax b p) : F67 b p = some (Bk b p) := by
 have hbu:=h.buses
 have hso:=h.sol
 have hco:=h.col
 have hgl:=H8 b p
 have hglo:=Ss h p
 refine d7 ?_
 unfold F67
 rw [Dj h hp]
 simp only [ac]
 refine cR (λ hc=>by simp at hc) (λ _=>?_)
 rw [Ase h hp.ncl]
 simp only [ac]
 refine (Ok.mkI (by omega) (by omega)).bind λ y hy=>?_
 have hget:∀ (i:Nat),i<b.An.toNat->(A8 b p)[i]? = some ((A8 b p).getD i 0):=λ i hi=>by
  have:i<(A8 b p).length:=by omega
  simp [List.getD,List.getElem?_eq_getElem this]
 refine Ok.andThen (A:=λ s=>s=(List.range b.An.toNat).map λ f=>(⟨Dv b p b.An.toNat f,[],[]⟩:Ai)) (B:=λ (_:Unit)=>False) ?_ ?_ (λ _ h=>h.elim)
 ·refine cT (I:=λ j s=>s=(List.range b.An.toNat).map λ f=>(⟨Dv b p j f,[],[]⟩:Ai)) ?_ (λ j x s hx hs=>?_) λ s hs=>?_
  ·rw [hy,Nc];rfl
  ·subst hs
   have hj:j<b.An.toNat:=by have:=(aa.1 hx).1;omega
   have hlo:=hglo j x hx
   have hxe:(A8 b p).getD j 0=x:=by simp [List.getD,hx]
   have hcnt:cnt 0 j=(j:Int):=Cv (by omega)
   unfold Aik
   rw [hcnt]
   refine (dj (by omega) (by omega)).bind λ u hu=>?_
   subst hu
   have hl:(Dv b p j x.toNat).length<=j:=C9 _ _
   refine (cW (by simp;omega)).bind λ v hv=>(dn (by omega) (by omega)).bind λ w hw=>cS ?_
   rw [hw]
   refine bg λ f _=>?_
   unfold Dv
   rw [Fd,hxe]
   by_cases e:f=x.toNat
   ·subst e
    rw [if_pos rfl,if_pos (by simp;omega),hv]
    rfl
   ·rw [if_neg e,if_neg (by simp;omega),aW]
  ·rw [hgl] at hs;exact hs
 ·rintro s rfl
  refine Ok.andThen (A:=λ s=>s.2=(List.range b.An.toNat).map λ f=>(⟨Dv b p b.An.toNat f,Fa b p b.Ac.length f,[]⟩:Ai)) (B:=λ (_:Unit)=>False) ?_ ?_ (λ _ h=>h.elim)
  ·refine cU (λ s=>(0<=s.1/\s.1<=(b.Ac.length:Int))/\s.2=(List.range b.An.toNat).map λ f=>(⟨Dv b p b.An.toNat f,Fa b p s.1.toNat f,[]⟩:Ai)) (λ s=>((b.Ac.length:Int)-s.1).toNat) _ _ ?_ ?_ ?_
   ·exact⟨by dsimp only;omega,rfl⟩
   ·dsimp only;omega
   ·rintro⟨i,s⟩ ⟨⟨h1,h2⟩,h3⟩
    dsimp only at h1 h2 h3
    subst h3
    unfold Aij Ayo
    dsimp only
    refine cR (λ hq=>?_) (λ hq=>?_)
    ·simp only [dA] at hq
     have e1:w64 (i+1)=i+1:=A9 (by omega)
     have e2:(i+1).toNat=i.toNat+1:=by omega
     have e3:((i.toNat:Nat):Int)=i:=by omega
     rw [Mp h hp]
     simp only [ac]
     cases hcn:D7 b p i with
     | none=>
      refine cR (λ hc=>by simp [Fw] at hc) (λ _=>?_)
      rw [e1]
      refine cS ⟨⟨by dsimp only;omega,?_⟩,by dsimp only;omega⟩
      dsimp only
      rw [e2]
      refine bg λ f _=>?_
      unfold Fa
      rw [Fd,e3,hcn,if_neg (by simp [Fc]),aW]
     | some a=>
      have hab:=Mq h hcn
      have hga:=hget a.toNat (by omega)
      have hgla:=hglo _ _ hga
      refine cR (λ _=>?_) (λ hc=>by simp [Fw] at hc)
      have hg2:getI (A8 b p) a=some ((A8 b p).getD a.toNat 0):=by have:=Bj hga;rwa [bP hab.1] at this
      simp only [Fw,hg2,ac]
      generalize hge:(A8 b p).getD a.toNat 0=ga at hgla
      refine (dj (by omega) (by omega)).bind λ u hu=>?_
      subst hu
      have hl:(Fa b p i.toNat ga.toNat).length<=i.toNat:=C9 _ _
      refine (cW (by simp;omega)).bind λ v hv=>(dn (by omega) (by omega)).bind λ w hw=>?_
      rw [e1]
      refine cS ⟨⟨by dsimp only;omega,?_⟩,by dsimp only;omega⟩
      dsimp only
      rw [hw,e2]
      refine bg λ f _=>?_
      unfold Fa
      rw [Fd,e3,hcn]
      simp only [Fc,bS,hge]
      by_cases e:f=ga.toNat
      ·subst e
       rw [if_pos rfl,if_pos (by simp;omega),hv]
       rfl
      ·rw [if_neg e,if_neg (by simp;omega),aW]
    ·simp only [dC] at hq
     have e:i.toNat=b.Ac.length:=by omega
     rw [e]
     exact d8 rfl
  ·rintro⟨i0,s⟩ hs
   dsimp only at hs
   subst hs
   dsimp only
   refine Ok.andThen (A:=λ s=>s.2=(List.range b.An.toNat).map (isl b p)) (B:=λ (_:Unit)=>False) ?_ ?_ (λ _ h=>h.elim)
   ·refine cU (λ s=>(0<=s.1/\s.1<=(b.Ae.length:Int))/\s.2=(List.range b.An.toNat).map λ f=>(⟨Dv b p b.An.toNat f,Fa b p b.Ac.length f,Gf b p s.1.toNat f⟩:Ai)) (λ s=>((b.Ae.length:Int)-s.1).toNat) _ _ ?_ ?_ ?_
    ·exact⟨by dsimp only;omega,rfl⟩
    ·dsimp only;omega
    ·rintro⟨i,s⟩ ⟨⟨h1,h2⟩,h3⟩
     dsimp only at h1 h2 h3
     subst h3
     unfold Aii Ayn
     dsimp only
     refine cR (λ hq=>?_) (λ hq=>?_)
     ·simp only [dA] at hq
      have e1:w64 (i+1)=i+1:=A9 (by omega)
      have e2:(i+1).toNat=i.toNat+1:=by omega
      have e3:((i.toNat:Nat):Int)=i:=by omega
      rw [Ash h hp.ncl]
      simp only [ac]
      cases hcn:Ee b p 3 i with
      | none=>
       refine cR (λ hc=>by simp [Fw] at hc) (λ _=>?_)
       rw [e1]
       refine cS ⟨⟨by dsimp only;omega,?_⟩,by dsimp only;omega⟩
       dsimp only
       rw [e2]
       refine bg λ f _=>?_
       unfold Gf
       rw [Fd,e3,hcn,if_neg (by simp [Fc]),aW]
      | some a=>
       have hab:=Xl h hcn
       have hga:=hget a.toNat (by omega)
       have hgla:=hglo _ _ hga
       refine cR (λ _=>?_) (λ hc=>by simp [Fw] at hc)
       have hg2:getI (A8 b p) a=some ((A8 b p).getD a.toNat 0):=by have:=Bj hga;rwa [bP hab.1] at this
       simp only [Fw,hg2,ac]
       generalize hge:(A8 b p).getD a.toNat 0=ga at hgla
       refine (dj (by omega) (by omega)).bind λ u hu=>?_
       subst hu
       have hl:(Gf b p i.toNat ga.toNat).length<=i.toNat:=C9 _ _
       refine (cW (by simp;omega)).bind λ v hv=>(dn (by omega) (by omega)).bind λ w hw=>?_
       rw [e1]
       refine cS ⟨⟨by dsimp only;omega,?_⟩,by dsimp only;omega⟩
       dsimp only
       rw [hw,e2]
       refine bg λ f _=>?_
       unfold Gf
       rw [Fd,e3,hcn]
       simp only [Fc,bS,hge]
       by_cases e:f=ga.toNat
       ·subst e
        rw [if_pos rfl,if_pos (by simp;omega),hv]
        rfl
       ·rw [if_neg e,if_neg (by simp;omega),aW]
     ·simp only [dC] at hq
      have e:i.toNat=b.Ae.length:=by omega
      rw [e]
      exact d8 rfl
   ·rintro⟨i1,s⟩ hs
    dsimp only at hs
    subst hs
    dsimp only
    rw [A0g _ (by simp;omega)]
    exact c9 rfl
theorem K1 {α:Type} {B:Nat} {l:List α} (h:l.length*B<=140737488355328):appI B [] l=some l:=by
 unfold appI
 have:decide ((([]:List α).length+l.length)*B<=140737488355328)=true:=by simpa using h
 rw [this];rfl
theorem Du {b:Aa} (h:Av b) {p:Ab} (hp:Ax b p):F66 p=some p:=by
 have h1:=hp.ncl
 have h2:=hp.nso
 have h3:=hp.nli
 have h4:=hp.brk.len
 have h5:=h.brl
 have h6:=h.sol
 have h7:=h.col
 unfold F66 F93 F94 F95 F96
 rw [K1 (by omega),K1 (by omega),K1 (by omega),K1 (by omega)]
 rfl
theorem eqB (l:List Bool) (h:l.length<=9223372036854775807):F69 l l=some true:=by
 unfold F69
 rw [Da l 0 λ j x hj=>?_]
 ·simp [andThen]
 ·have hjl:=(aa.1 hj).1
  unfold qJ
  rw [aI,Cv (by omega),Bj hj]
  simp
theorem eqI (l:List Int) (h:l.length<=9223372036854775807):F71 l l=some true:=by
 unfold F71
 rw [Da l 0 λ j x hj=>?_]
 ·simp [andThen]
 ·have hjl:=(aa.1 hj).1
  unfold qH
  rw [aI,Cv (by omega),Bj hj]
  simp
theorem eqR (l:List Af) (h:l.length<=9223372036854775807):F70 l l=some true:=by
 unfold F70
 rw [Da l 0 λ j x hj=>?_]
 ·simp [andThen]
 ·have hjl:=(aa.1 hj).1
  unfold qI Aym
  rw [aI,Cv (by omega),Bj hj]
  simp
theorem eqP (l:List Al) (h:l.length<=9223372036854775807):F72 l l=some true:=by
 unfold F72
 rw [Da l 0 λ j x hj=>?_]
 ·simp [andThen]
 ·have hjl:=(aa.1 hj).1
  unfold qG Ayl
  rw [aI,Cv (by omega),Bj hj]
  simp
structure Axr (p:Ab):Prop where
 c:p.Ag.length<=1000
 s:p.Ac.length<=1000
 l:p.Aq.length<=1000
 k:p.Ao.length<=1000
theorem Ax.lens {b:Aa} (h:Av b) {p:Ab} (hp:Ax b p):Axr p:=by
 have h1:=hp.ncl
 have h2:=hp.nso
 have h3:=hp.nli
 have h4:=hp.brk.len
 have h5:=h.brl
 have h6:=h.sol
 have h7:=h.col
 exact⟨by omega,by omega,by omega,by omega⟩
theorem Aqc {p:Ab} (h:Axr p):F50 p p=some true:=by
 have h1:=h.c
 have h2:=h.s
 have h3:=h.l
 have h4:=h.k
 unfold F50
 rw [eqB _ (by omega),eqI _ (by omega),eqR _ (by omega),eqP _ (by omega)]
 rfl
def Wq (B1 x:Af):Af:=⟨x.State,x.Since,B1.Ap,B1.Phase⟩
def Eb (B1:Af) (idx:List Int) (ss:List Af):List Af:=idx.foldl (λ s i=>s.set i.toNat (Wq B1 (s.getD i.toNat default))) ss
theorem Gl (B1:Af):∀ (idx:List Int) (ss:List Af),(Eb B1 idx ss).length=ss.length
 | [],_=>rfl
 | i::idx,ss=>by
  show (Eb B1 idx _).length=_
  rw [Gl B1 idx,bL]
theorem Aac {B1:Af} {idx:List Int} {j:Nat} {i:Int} (h:idx[j]? = some i) (ss:List Af):Eb B1 (idx.take (j+1)) ss=(Eb B1 (idx.take j) ss).set i.toNat (Wq B1 ((Eb B1 (idx.take j) ss).getD i.toNat default)):=by
 unfold Eb
 rw [Bi h,aX];rfl
theorem Aeh {p:Ab} {idx:List Int} {B1:Af} (h:∀ i,i∈idx->0<=i/\i<p.Ac.length):Qx p idx B1=some (Eb B1 idx p.Ac):=by
 refine d7 ?_
 unfold Qx
 refine Ok.andThen (A:=λ s=>s=Eb B1 idx p.Ac) (B:=λ (_:Unit)=>False) ?_ (λ s hs=>c9 hs) (λ _ h=>h.elim)
 refine cT (I:=λ j s=>s=Eb B1 (idx.take j) p.Ac) rfl (λ j x s hx hs=>?_) λ s hs=>?_
 ·have hi:=h x (af hx)
  have hl:s.length=p.Ac.length:=by rw [hs,Gl]
  unfold Ym
  refine (cV hi.1 (by omega)).bind λ u hu=>(d4 hi.1 (by omega)).bind λ v hv=>?_
  have hvg:v[x.toNat]? = some (⟨u.State,u.Since,B1.Ap,u.Phase⟩:Af):=by rw [hv,bK (by omega)]
  refine Ok.bind (P:=λ w=>w=(⟨u.State,u.Since,B1.Ap,u.Phase⟩:Af)) ((cV hi.1 (by rw [hv];simpa using by omega)).mono λ w hw=>by rw [hvg] at hw;cases hw;rfl) λ w hw=>?_
  refine (d4 hi.1 (by rw [hv];simpa using by omega)).bind λ z hz=>cS ?_
  rw [Aac hx,←hs,hz,hv,hw,List.set_set]
  have:s.getD x.toNat default=u:=by simp [List.getD,hu]
  rw [this];rfl
 ·rw [aG] at hs;exact hs
def D9 (b:Aa) (p:Ab):List Af:=(Bk b p).foldl (λ s x=>match x.Ac with | []=>s | i::_=>Eb (p.Ac.getD i.toNat default) x.Ac s) p.Ac
theorem Oq {b:Aa} {p:Ab} {x:Ai} (h:x∈Bk b p):∀ i,i∈x.Ac->0<=i/\i<b.Ac.length:=by
 unfold Bk at h
 obtain⟨f,_,rfl⟩:=am.1 (aD.1 h).1
 intro i hi
 obtain⟨k,hk,rfl⟩:=am.1 hi
 have:=aZ.1 (aD.1 hk).1
 omega
theorem Ho (b:Aa) (p:Ab):(Bk b p).length<=b.An.toNat:=by
 have:=bD Ik ((List.range b.An.toNat).map (isl b p))
 simpa [Bk] using this
def Cq (p:Ab) (s:List Af) (x:Ai):List Af:=match x.Ac with
 | []=>s
 | i::_=>Eb (p.Ac.getD i.toNat default) x.Ac s
theorem Mm (p:Ab) (s:List Af) (x:Ai):(Cq p s x).length=s.length:=by
 unfold Cq;split
 ·rfl
 ·rw [Gl]
theorem J_ (p:Ab):∀ (l:List Ai) (s:List Af),(l.foldl (Cq p) s).length=s.length
 | [],_=>rfl
 | x::l,s=>by show (l.foldl (Cq p) _).length=_;rw [J_ p l,Mm]
theorem Ht (b:Aa) (p:Ab):(D9 b p).length=p.Ac.length:=J_ p _ _
theorem Sx {b:Aa} (h:Av b) {p:Ab} (hp:Ax b p):F47 b p=some (⟨p.Ag,D9 b p,p.Aq,p.Ao⟩,0):=by
 refine d7 ?_
 unfold F47
 rw [Dj h hp,Du h hp,Hp h hp]
 simp only [ac]
 refine cR (λ hc=>by simp at hc) (λ _=>?_)
 refine Ok.andThen (A:=λ s=>s=D9 b p) (B:=λ (_:Unit)=>False) ?_ (λ s hs=>c9 (by rw [hs])) (λ _ h=>h.elim)
 refine cT (I:=λ j s=>s=((Bk b p).take j).foldl (Cq p) p.Ac) rfl (λ j x s hx hs=>?_) λ s hs=>?_
 ·have hi:=Oq (af hx)
  have hl:s.length=p.Ac.length:=by rw [hs,J_]
  have hn:=hp.nso
  have hnext:((Bk b p).take (j+1)).foldl (Cq p) p.Ac=Cq p s x:=by rw [Bi hx,aX,←hs];rfl
  unfold Aiz Ayz
  cases hsrc:x.Ac with
  | nil=>
   refine cR (λ hc=>by simp at hc) (λ _=>cS ?_)
   rw [hnext];simp [Cq,hsrc]
  | cons i l=>
   have hi0:=hi i (by rw [hsrc];exact aj)
   refine cR (λ _=>?_) (λ hc=>by simp at hc)
   have hg:getI (i::l) 0=some i:=rfl
   obtain⟨u,hu⟩:∃ u,p.Ac[i.toNat]? = some u:=⟨_,ag (by omega)⟩
   have hg2:getI p.Ac i=some u:=by have:=Bj hu;rwa [bP hi0.1] at this
   rw [hg]
   simp only [ac]
   rw [hg2]
   simp only [ac]
   rw [Aeh (by
    intro k hk
    have:=hi k (by rw [hsrc];exact hk)
    dsimp only
    omega)]
   refine cS ?_
   rw [hnext]
   have:p.Ac.getD i.toNat default=u:=by simp [List.getD,hu]
   simp only [Cq,hsrc,this]
 ·rw [aG] at hs;exact hs
structure E_ (y:A2):Prop where
 stop:1<=y.Stop/\y.Stop<=99
 start:y.Stop<y.Start/\y.Start<=100
 delay:0<=y.Delay/\y.Delay<=600
theorem We {y:A2} (h:E_ y):F49 y=true:=by
 have h1:=h.stop
 have h2:=h.start
 have h3:=h.delay
 simp only [F49,ae,dA]
 omega
theorem Axo {s:Ah} (hs:Bq s):Ok (F11 s) λ y=>E_ y.1/\Bq y.2:=by
 unfold F11
 refine (Dw hs _ (by simp) (by simp)).bind λ u hu=>(Dw hu.1 _ (by simp) (by simp)).bind λ v hv=>(Dw hv.1 _ (by simp) (by simp)).bind λ w hw=>c9 ⟨?_,hw.1⟩
 have g1:u.1=60\/u.1=80\/u.1=100:=by simpa using hu.2
 have g2:v.1=1\/v.1=30\/v.1=50:=by simpa using hv.2
 have g3:w.1=0\/w.1=1\/w.1=3:=by simpa using hw.2
 exact⟨by dsimp only;omega,by dsimp only;omega,by dsimp only;omega⟩
def Jd:Aw:=⟨-1,-1⟩
theorem A5k:Ob 1=some (List.replicate 1 Jd):=by kernel_rfl
theorem A5j:Ob 2=some (List.replicate 2 Jd):=by kernel_rfl
theorem A5i:Ob 3=some (List.replicate 3 Jd):=by kernel_rfl
theorem A5h:Ob 4=some (List.replicate 4 Jd):=by kernel_rfl
theorem A5g:Ob 5=some (List.replicate 5 Jd):=by kernel_rfl
theorem A5f:Ob 6=some (List.replicate 6 Jd):=by kernel_rfl
theorem Az5 {n:Int} (h:1<=n/\n<=6):Ob n=some (List.replicate n.toNat Jd):=by
 have:n=1\/n=2\/n=3\/n=4\/n=5\/n=6:=by omega
 rcases this with rfl | rfl | rfl | rfl | rfl | rfl
 ·exact A5k
 ·exact A5j
 ·exact A5i
 ·exact A5h
 ·exact A5g
 ·exact A5f
def Eo (t:Int) (x:Aw):Prop:=(-1<=x.High/\x.High<=t) /\ -1<=x.Low/\x.Low<=t
theorem Amz {p:As} {l:List Aw} (h:∀ x,x∈l->Eo p.Time x):qL l p=some (false,p):=by
 refine d7 ?_
 unfold qL Ac8
 refine Ok.bind (P:=λ y=>y=(-1,p)) ?_ (λ y hy=>c9 (by rw [hy];rfl))
 refine Ok.andThen (A:=λ s=>s=(p.Time,p.Power.Ag,p.Power.Ac,p.Power.Aq,p.Power.Ao,p.A7,p.Bc)) (B:=λ _=>False) ?_ (λ s hs=>c9 (by rw [hs])) (λ _ h=>h.elim)
 refine cT (I:=λ _ s=>s=(p.Time,p.Power.Ag,p.Power.Ac,p.Power.Aq,p.Power.Ao,p.A7,p.Bc)) rfl (λ j x s hx hs=>?_) λ s hs=>hs
 have hr:=h x (af hx)
 unfold Eo at hr
 subst hs
 unfold Yl
 refine cR (λ hc=>?_) (λ _=>cS rfl)
 simp only [Alr,Ga,Qy,aO,bo,Bool.and_eq_false_iff,dC] at hc
 omega
structure Fz (b:Aa) (y:A2) (p:As):Prop where
 st:Ax b p.Power
 fol:D9 b p.Power=p.Power.Ac
 time:0<=p.Time/\p.Time<=2147483648
 nro:p.A7.length=b.An.toNat
 ros:∀ x,x∈p.A7->Eo p.Time x
theorem Q9 {b:Aa} (h:Av b) {y:A2} (hy:E_ y) {p:As} (hp:Fz b y p):F29 b y p=some 0:=by
 have h1:=h.buses
 have h2:=hp.time
 have h3:=hp.nro
 refine d7 ?_
 unfold F29
 rw [Sx h hp.st]
 simp only [ac,hp.fol]
 refine cR (λ hc=>by simp at hc) (λ _=>cR (λ hc=>?_) (λ _=>cR (λ hc=>?_) (λ _=>?_)))
 ·simp only [Ay0,We hy,bj,bh,aO,dA] at hc
  omega
 ·simp only [bne_iff_ne,ne_eq] at hc
  omega
 ·have e:(⟨p.Power.Ag,p.Power.Ac,p.Power.Aq,p.Power.Ao⟩:Ab)=p.Power:=rfl
  rw [e,Aqc (hp.st.lens h)]
  simp only [ac]
  rw [Amz hp.ros]
  have e2:A4 [((!true),false)] (some (false,p)) (default,p)=some (false,p):=rfl
  rw [e2]
  exact c9 rfl
theorem A1f (b:Aa):zQ b ⟨7,0,0⟩=some true:=rfl
theorem Axh {b:Aa} (h:Av b) {p:As} (hp:Ax b p.Power) (h1:p.A7.length<=1000) (h2:p.Bc.length<=10000000):F74 b p=some ⟨p,b,[],[]⟩:=by
 unfold F74 Aps F79
 rw [Du h hp,K1 (by omega),K1 (by omega)]
 rfl
theorem Azx {b:Aa} (h:Av b) {r:A3} {p:Ab} (hp:Ax b p) (h1:r.states.length<=10000000):qF r p=some ⟨r.A0,r.Ak,r.events,r.states++[p]⟩:=by
 refine d7 ?_
 unfold qF
 rw [Du h hp]
 simp only [ac]
 exact (cW (by simp;omega)).bind λ s hs=>c9 (by rw [hs])
theorem Awd {b:Aa} (h:Av b) {r:A3} {p:Ab} (hp:Ax b r.A0.Power) (h1:r.states.length<=10000000):qE r p=some ⟨r.A0,r.Ak,r.events,r.states++[r.A0.Power]⟩:=by
 refine d7 ?_
 unfold qE
 rw [Du h hp]
 simp only [ac]
 exact (cW (by simp;omega)).bind λ s hs=>c9 (by rw [hs])
def brk (l:List Al) (k n:Int):Bool:=l.any λ x=>k==x.Kind&&n==x.Number
theorem Et {p:Ab} (h:p.Ao.length<=1000) (k n:Int):H5 p k n=some (brk p.Ao k n):=by
 unfold H5 App Apo
 rw [Kc (λ x:Al=>(k==x.Kind)&&((n==x.Number)&&true)) (λ i y=>rfl) p.Ao (by omega)]
 simp only [ac,P6,brk,bM]
def Ia (b:Aa) (i:Int):Int:=N4 (λ x:Aj=>x.Kind==2&&x.B==i) b.Ad
theorem jQ {b:Aa} (h:Av b) (i:Int):Ai2 b i=some (Ia b i):=by
 have hb:=h.brl
 unfold Ai2 qV
 refine d7 ?_
 refine Ok.bind (P:=λ y=>y=(Ia b i,i)) ?_ (λ y hy=>c9 (by rw [hy]))
 have key:=J3 (f:=λ n (a:Aj) (z:Unit)=>(bif (a.Kind==2&&a.B==i) then some (.ret (cnt 0 n)) else some (.next ()):Option (Ctl Unit Int))) (p:=λ x:Aj=>x.Kind==2&&x.B==i) (λ _ _=>rfl) b.Ad 0 (by omega)
 have:∀ (xs:List Aj) (k:Nat),foldI (Nu i) xs k ()=match foldI (λ n (a:Aj) (z:Unit)=>(bif (a.Kind==2&&a.B==i) then some (.ret (cnt 0 n)) else some (.next ()):Option (Ctl Unit Int))) xs k () with
   | some (.ret r)=>some (.ret (r,i))
   | some (.next _)=>some (.next ())
   | some (.brk _)=>some (.brk ())
   | none=>none:=by
  intro xs
  induction xs with
  | nil=>intro k;rfl
  | cons x xs ih=>
   intro k
   simp only [foldI,Nu,qO]
   cases hq:(x.Kind==2&&x.B==i) with
   | true=>rfl
   | false=>simp only [cond_false];exact ih (k+1)
 rw [this,key]
 unfold Ia N4
 cases b.Ad.findIdx? (λ x:Aj=>x.Kind==2&&x.B==i) with
 | none=>exact c9 rfl
 | some j=>exact c9 rfl
theorem Ld {b:Aa} (h:Av b) {i:Int} (h0:0<=i) (h1:i<b.Ac.length):∃ (j:Nat) (x:Aj),Ia b i=(j:Int)/\b.Ad[j]? = some x/\x.Kind=2/\x.B=i/\j<24:=by
 have hone:=h.one i.toNat (by omega)
 have hb:=h.brl
 unfold Ia N4
 cases hf:b.Ad.findIdx? (λ x:Aj=>x.Kind==2&&x.B==i) with
 | none=>
  exfalso
  rw [cM] at hf
  have:brs b.Ad 2 i.toNat=[]:=Jy λ x hx hk e=>by
   have:=hf x hx
   simp [hk] at this
   omega
  rw [this] at hone;simp at hone
 | some j=>
  rw [cN] at hf
  obtain⟨hj,hp,_⟩:=hf
  simp only [ae,dD] at hp
  exact⟨j,b.Ad[j],rfl,ag hj,hp.1,hp.2,by omega⟩
def ks (x:Al):Int:=x.Kind*1000+x.Number
def Cf (x:Al):Prop:=(1<=x.Kind/\x.Kind<=4)/\0<=x.Number/\x.Number<=100
theorem B5.small {b:Aa} (h:Av b) {x:Al} (hx:B5 b x):Cf x:=by
 have h1:=h.buses
 have h2:=h.brl
 have h3:=h.sol
 have h4:=h.col
 unfold B5 at hx
 unfold Cf
 omega
theorem Acn {x y:Al} (hx:Cf x) (hy:Cf y):O3 x y↔ks x<ks y:=by
 unfold O3 ks
 unfold Cf at hx hy
 omega
theorem Ayc {x y:Al} (hx:Cf x) (hy:Cf y) (h:ks x=ks y):x=y:=by
 unfold ks at h
 unfold Cf at hx hy
 cases x;cases y
 simp only [Al.mk.injEq]
 dsimp only at *
 omega
theorem Abg {x y:Al} (hx:Cf x) (hy:Cf y):(decide (Q5 x y<0)=decide (ks x<ks y))/\((Q5 x y==0)=(ks x==ks y)):=by
 unfold Cf at hx hy
 unfold Q5 ks
 by_cases hk:x.Kind=y.Kind
 ·have:(x.Kind != y.Kind)=false:=by simp [hk]
  rw [this,cond_false,A9 (by omega)]
  constructor
  ·exact decide_eq_decide.2 (by omega)
  ·rw [bW,dD,dD];omega
 ·have:(x.Kind != y.Kind)=true:=by simp [hk]
  rw [this,cond_true,A9 (by omega)]
  constructor
  ·exact decide_eq_decide.2 (by omega)
  ·rw [bW,dD,dD];omega
def Gg (l:List Al):Prop:=∀ (j k:Nat) x y,j<k->l[j]? = some x->l[k]? = some y->ks x<ks y
theorem G0 {b:Aa} (h:Av b) {l:List Al} (hl:Dx b l):Gg l:=by
 have hs:∀ x,x∈l->Cf x:=λ x hx=>(hl.mem x hx).small h
 intro j k
 induction k with
 | zero=>intro x y hj;omega
 | succ k ih=>
  intro x y hj hx hy
  have hk:=(aa.1 hy).1
  obtain⟨z,hz⟩:∃ z,l[k]? = some z:=⟨_,ag (by omega)⟩
  have h1:=(Acn (hs z (af hz)) (hs y (af hy))).1 (hl.asc k z y hz hy)
  by_cases e:j=k
  ·subst e
   rw [hx] at hz;cases hz;exact h1
  ·have:=ih x z (by omega) hx hz
   omega
theorem Az8 {n:Int} (h0:0<=n) (h1:n<=1000000):w64 (G1 .u64 (IntKind.wrap .u64 (w64 n)) 1)=n / 2:=by
 have e1:w64 n=n:=A9 (by omega)
 have e2:IntKind.wrap .u64 n=n:=by
  simp [IntKind.wrap,IntKind.signed,IntKind.bits]
  omega
 have e3:G1 .u64 n 1=n / 2:=by
  unfold G1
  have:(2:Int) ^ min 1 (IntKind.u64).bits=2:=by decide
  rw [this]
  exact Int.fdiv_eq_ediv_of_nonneg _ (by omega)
 rw [e1,e2,e3,A9 (by omega)]
structure At (l:List Al) (x:Al) (n:Nat):Prop where
 le:n<=l.length
 lo:∀ (j:Nat) y,j<n->l[j]? = some y->ks y<ks x
 hi:∀ (j:Nat) y,n<=j->l[j]? = some y->ks x<=ks y
theorem Na {l:List Al} (hs:Gg l) (hsm:∀ x,x∈l->Cf x) {x:Al} (hx:Cf x) (hl:l.length<=1000) :
  Ok (T1 l x) λ y=>∃ n:Nat,y.1=(n:Int)/\At l x n/\(y.2=true↔l[n]? = some x):=by
 unfold T1
 refine Ok.andThen (A:=λ s=>∃ n:Nat,s.1=(n:Int)/\At l x n) (B:=λ (_:Unit)=>False) ?_ ?_ (λ _ h=>h.elim)
 ·refine cU (λ s=>(0<=s.1/\s.1<=s.2/\s.2<=(l.length:Int))/\(∀ (j:Nat) y,(j:Int)<s.1->l[j]? = some y->ks y<ks x)/\∀ (j:Nat) y,s.2<=(j:Int)->l[j]? = some y->ks x<=ks y) (λ s=>(s.2-s.1).toNat) _ _ ?_ ?_ ?_
  ·refine⟨by dsimp only;omega,λ j y hj=>by dsimp only at hj;omega,λ j y hj hy=>?_⟩
   have:=(aa.1 hy).1
   dsimp only at hj;omega
  ·dsimp only;omega
  ·rintro⟨i,j⟩ ⟨⟨h1,h2,h3⟩,h4,h5⟩
   dsimp only at h1 h2 h3 h4 h5
   unfold T0
   dsimp only
   refine cR (λ hq=>?_) (λ hq=>?_)
   ·simp only [dA] at hq
    rw [Az8 (by omega) (by omega)]
    refine (cV (by omega) (by omega)).bind λ y hy=>?_
    have hym:=hsm y (af hy)
    rw [(Abg hym hx).1]
    refine cR (λ hc=>?_) (λ hc=>?_)
    ·simp only [dA] at hc
     rw [A9 (by omega)]
     refine cS ⟨⟨by dsimp only;omega,λ k z hk hz=>?_,h5⟩,by dsimp only;omega⟩
     dsimp only at hk
     by_cases e:k=((i+j) / 2).toNat
     ·subst e;rw [hy] at hz;cases hz;exact hc
     ·have:=hs k _ z y (by omega) hz hy
      omega
    ·simp only [dC] at hc
     refine cS ⟨⟨by dsimp only;omega,h4,λ k z hk hz=>?_⟩,by dsimp only;omega⟩
     dsimp only at hk
     by_cases e:k=((i+j) / 2).toNat
     ·subst e;rw [hy] at hz;cases hz;omega
     ·have:=hs _ k y z (by omega) hy hz
      omega
   ·simp only [dC] at hq
    refine d8 ⟨i.toNat,by dsimp only;omega,by omega,λ k y hk hy=>h4 k y (by omega) hy,λ k y hk hy=>h5 k y (by omega) hy⟩
 ·rintro⟨i,j⟩ ⟨n,hn,hat⟩
  dsimp only at hn
  subst hn
  dsimp only
  by_cases hlt:n<l.length
  ·obtain⟨y,hy⟩:∃ y,l[n]? = some y:=⟨_,ag hlt⟩
   have hd:decide ((n:Int)<(l.length:Int))=true:=by simp;omega
   rw [hd,Bj hy]
   refine Ok.bind (P:=λ z=>z=y) (cX (λ _=>c9 rfl) λ hn=>(hn ⟨rfl,trivial⟩).elim) λ z hz=>c9 ⟨n,rfl,hat,?_⟩
   subst hz
   have hym:=hsm z (af hy)
   show (true&&(Q5 z x==0))=true↔_
   rw [bk,(Abg hym hx).2,dD,hy]
   constructor
   ·intro e;rw [Ayc hym hx e]
   ·intro e;cases e;rfl
  ·have hd:decide ((n:Int)<(l.length:Int))=false:=by simp;omega
   rw [hd]
   refine Ok.bind (P:=λ _=>True) (cX (λ hg=>absurd hg.1 (by simp)) λ _=>trivial) λ z _=>c9 ⟨n,rfl,hat,?_⟩
   rw [bl (by omega)]
   simp
theorem At.uniq {l:List Al} {x:Al} {n m:Nat} (h:At l x n) (k:At l x m):n=m:=by
 rcases bF n m with e | e | e
 ·obtain⟨y,hy⟩:∃ y,l[n]? = some y:=⟨_,ag (by have:=k.le;omega)⟩
  have:=h.hi n y (an _) hy
  have:=k.lo n y e hy
  omega
 ·exact e
 ·obtain⟨y,hy⟩:∃ y,l[m]? = some y:=⟨_,ag (by have:=h.le;omega)⟩
  have:=k.hi m y (an _) hy
  have:=h.lo m y e hy
  omega
def Dt (l:List Al) (n:Nat) (x:Al):List Al:=l.take n++(x::l.drop n)
theorem Ar9 {l:List Al} {n:Nat} (hn:n<=l.length) (hl:l.length<=1000) (x:Al):O6 l (n:Int) [x]=some (Dt l n x):=by
 refine d7 ?_
 unfold O6
 refine (Ok.bndI (by omega) (by omega) (by omega)).bind λ _ _=>?_
 refine cR (λ hc=>by simp at hc) (λ _=>cR (λ hc=>?_) (λ _=>?_))
 ·simp only [dD] at hc
  have e:n=l.length:=by omega
  refine (cW (by simp;omega)).bind λ y hy=>c9 ?_
  rw [hy,Dt,e];simp
 ·refine (Ok.insI (by simp;omega)).mono λ y hy=>?_
  rw [hy,aF];rfl
theorem As4 {l:List Al} {n:Nat} (hn:n<=l.length) (x:Al):Tz (Dt l n x) (n:Int) ((n:Int)+1)=some l:=by
 have hlen:(Dt l n x).length=l.length+1:=by simp [Dt];omega
 refine d7 ?_
 unfold Tz
 have e1:((n:Int)+1).toNat=n+1:=by omega
 have hdrop:(Dt l n x).drop (n+1)=l.drop n:=by
  unfold Dt
  rw [List.drop_append,List.drop_of_length_le (by simp;omega)]
  have:n+1-(l.take n).length=1:=by simp;omega
  rw [this];simp
 have htake:(Dt l n x).take n=l.take n:=by
  unfold Dt
  rw [cy (by simp;omega),List.take_take,Nat.min_self]
 refine (Ok.bnd3I (by omega) (by omega) (by omega) (by omega)).bind λ _ _=>cR (λ hc=>?_) (λ _=>?_)
 ·simp only [dD] at hc;omega
 refine (Ok.bndI (by omega) (by omega) (by omega)).bind λ _ _=>(Ok.bndI (by omega) (by omega) (by omega)).bind λ _ _=>?_
 simp only [aF,e1,hdrop,Nat.sub_zero]
 have hpl:((l.drop n).take ((Dt l n x).length-(n+1))).length=l.length-n:=by simp [hlen]
 have hpe:(l.drop n).take ((Dt l n x).length-(n+1))=l.drop n:=bz (by simp [hlen])
 rw [hpe]
 have hdl:(l.drop n).length=l.length-n:=by simp
 refine (Ok.appPI (by rw [hlen,hdl];omega)).bind λ y hy=>?_
 have hyl:y.length=l.length+1:=by rw [hy];simp [hlen];omega
 refine (Ok.bndI (by omega) (by rw [hlen,hdl];omega) (by rw [hlen,hyl];omega)).bind λ _ _=>c9 ?_
 have e2:n+(l.drop n).length=l.length:=by rw [hdl];omega
 rw [e2]
 unfold F7
 simp only [aI]
 rw [cy (by simp;omega),List.take_take,Nat.min_self,hy,htake,←aJ,cy (by simp),cd,aG]
theorem P4 {l:List Al} {n:Nat} (hn:n<=l.length) {x:Al} {j:Nat} {y:Al} (h:(Dt l n x)[j]? = some y):(j<n/\l[j]? = some y)\/(j=n/\y=x)\/(n<j/\l[j-1]? = some y):=by
 unfold Dt at h
 have ht:(l.take n).length=n:=by simp;omega
 rw [ch] at h
 split at h
 ·rename_i h1
  rw [ht] at h1
  rw [ar,if_pos h1] at h
  exact .inl ⟨h1,h⟩
 ·rename_i h1
  rw [ht] at h1 h
  by_cases e:j=n
  ·subst e
   simp at h
   exact .inr (.inl ⟨rfl,h.symm⟩)
  ·obtain⟨k,hk⟩:∃ k,j-n=k+1:=⟨j-n-1,by omega⟩
   rw [hk,cH,aq] at h
   refine .inr (.inr ⟨by omega,?_⟩)
   rw [←h];congr 1;omega
theorem Awl {l:List Al} {n:Nat} {x y:Al} (h:y∈Dt l n x):y=x\/y∈l:=by
 unfold Dt at h
 rcases az.1 h with h | h
 ·exact .inr (be h)
 ·rcases ah.1 h with h | h
  ·exact .inl h
  ·exact .inr (ce h)
theorem Alj {b:Aa} (h:Av b) {l:List Al} (hl:Dx b l) {x:Al} (hx:B5 b x) {n:Nat} (hat:At l x n) (hnot:l[n]? ≠ some x) (hlen:l.length<32):Dx b (Dt l n x):=by
 have hs:=G0 h hl
 have hsm:∀ y,y∈l->Cf y:=λ y hy=>(hl.mem y hy).small h
 have hxs:=hx.small h
 refine⟨by simp [Dt];omega,λ y hy=>?_,λ j y z hy hz=>?_⟩
 ·rcases Awl hy with rfl | hy
  ·exact hx
  ·exact hl.mem y hy
 ·rcases P4 hat.le hy with⟨a1,a2⟩ | ⟨a1,a2⟩ | ⟨a1,a2⟩ <;> rcases P4 hat.le hz with⟨b1,b2⟩ | ⟨b1,b2⟩ | ⟨b1,b2⟩
  ·exact hl.asc j y z a2 b2
  ·subst b2
   exact (Acn (hsm y (af a2)) hxs).2 (hat.lo j y a1 a2)
  ·omega
  ·omega
  ·omega
  ·subst a2
   have e:j+1-1=n:=by omega
   rw [e] at b2
   have hzm:=hsm z (af b2)
   refine (Acn hxs hzm).2 ?_
   have h1:=hat.hi n z (an _) b2
   rcases Int.lt_or_eq_of_le h1 with h1 | h1
   ·exact h1
   ·exact absurd (by rw [b2,Ayc hxs hzm h1]) hnot
  ·omega
  ·omega
  ·have e:j+1-1=j-1+1:=by omega
   rw [e] at b2
   exact hl.asc (j-1) y z a2 b2
theorem At.ins {l:List Al} {x:Al} {n:Nat} (hat:At l x n):At (Dt l n x) x n:=by
 refine⟨by have:=hat.le;simp [Dt];omega,λ j y hj hy=>?_,λ j y hj hy=>?_⟩
 ·rcases P4 hat.le hy with⟨_,a2⟩ | ⟨a1,_⟩ | ⟨a1,_⟩
  ·exact hat.lo j y hj a2
  ·omega
  ·omega
 ·rcases P4 hat.le hy with⟨a1,_⟩ | ⟨_,a2⟩ | ⟨a1,a2⟩
  ·omega
  ·subst a2;exact Int.le_refl _
  ·exact hat.hi (j-1) y (by omega) a2
theorem Az4 {l:List Al} {n:Nat} (hn:n<=l.length) (x:Al):(Dt l n x)[n]? = some x:=by
 unfold Dt
 rw [aK (by simp;omega)]
 have:n-(l.take n).length=0:=by simp;omega
 rw [this];rfl
def Kb (ss:List Af) (x:Al) (st:Int):List Af:=if x.Kind=1 then ss.set x.Number.toNat ⟨st,(ss.getD x.Number.toNat default).Since,(ss.getD x.Number.toNat default).Ap,(ss.getD x.Number.toNat default).Phase⟩ else ss
theorem S5 (ss:List Af) (x:Al) (st:Int):(Kb ss x st).length=ss.length:=by unfold Kb;split <;> simp
theorem Af8 {ss:List Af} (h:∀ x,x∈ss->Cw x) {x:Al} (hx:x.Kind=1->0<=x.Number/\x.Number<ss.length) {st:Int} (hst:0<=st/\st<=3):∀ y,y∈Kb ss x st->Cw y:=by
 unfold Kb
 split
 ·rename_i hk
  have hn:=hx hk
  obtain⟨u,hu⟩:∃ u,ss[x.Number.toNat]? = some u:=⟨_,ag (by omega)⟩
  have hd:ss.getD x.Number.toNat default=u:=by simp [List.getD,hu]
  intro y hy
  rcases cm hy with hy | hy
  ·exact h y hy
  ·subst hy
   rw [hd]
   have:=h u (af hu)
   exact⟨hst,this.2⟩
 ·exact h
theorem A0c {b:Aa} (h:Av b) {p:Ab} (hp:Ax b p) {x:Al} (hx:B5 b x) (t:Int) {n:Nat} (hat:At p.Ao x n) (hnot:p.Ao[n]? ≠ some x) (hlen:p.Ao.length<32) :
  Hc ⟨b,p,t⟩ x true=some (0,⟨b,⟨p.Ag,Kb p.Ac x 3,p.Aq,Dt p.Ao n x⟩,t⟩):=by
 have hs:=G0 h hp.brk
 have hsm:∀ y,y∈p.Ao->Cf y:=λ y hy=>(hp.brk.mem y hy).small h
 refine d7 ?_
 unfold Hc
 refine (Na hs hsm (hx.small h) (by omega)).bind λ y hy=>?_
 obtain⟨m,e1,hat2,hf⟩:=hy
 have e2:=hat.uniq hat2
 subst e2
 have hf2:y.2=false:=by
  cases hb:y.2 with
  | false=>rfl
  | true=>exact absurd (hf.1 hb) hnot
 refine cR (λ hc=>by rw [hf2] at hc;simp at hc) (λ _=>cR (λ hc=>?_) (λ _=>?_))
 ·simp [Qf] at hc;omega
 refine Ok.andThen (A:=λ z=>z=Dt p.Ao n x) (B:=λ (_:Unit)=>False) ?_ ?_ (λ _ h=>h.elim)
 ·unfold Nw
  rw [e1,Ar9 hat.le (by omega)]
  exact d9 rfl
 ·rintro z rfl
  unfold Kb
  refine cR (λ hk=>?_) (λ hk=>?_)
  ·simp only [dD] at hk
   have hn:0<=x.Number/\x.Number<p.Ac.length:=by
    have:=hp.nso
    unfold B5 at hx
    omega
   rw [if_pos hk]
   refine (cV hn.1 hn.2).bind λ u hu=>(d4 hn.1 hn.2).bind λ v hv=>?_
   have hd:p.Ac.getD x.Number.toNat default=u:=by simp [List.getD,hu]
   have hvg:v[x.Number.toNat]? = some (⟨0,u.Since,u.Ap,u.Phase⟩:Af):=by rw [hv,bK (by omega)]
   simp only [cond_true]
   refine Ok.bind (P:=λ w=>w=(⟨0,u.Since,u.Ap,u.Phase⟩:Af)) ((cV hn.1 (by rw [hv];simpa using hn.2)).mono λ w hw=>by rw [hvg] at hw;cases hw;rfl) λ w hw=>?_
   subst hw
   refine (d4 hn.1 (by rw [hv];simpa using hn.2)).bind λ z hz=>c9 ?_
   rw [hz,hv,List.set_set,hd]
  ·simp only [dE,ne_eq] at hk
   rw [if_neg hk]
   exact c9 rfl
theorem Azv {b:Aa} (h:Av b) {p:Ab} (hbl:Dx b p.Ao) {q:Ab} {x:Al} (hx:B5 b x) (t:Int) {n:Nat} (hat:At p.Ao x n) (hnot:p.Ao[n]? ≠ some x) (hlen:p.Ao.length<32)
  (hq:q.Ao=Dt p.Ao n x) (hqs:q.Ac.length=b.Ac.length):Hc ⟨b,q,t⟩ x false=some (0,⟨b,⟨q.Ag,Kb q.Ac x 0,q.Aq,p.Ao⟩,t⟩):=by
 have hbl2:Dx b q.Ao:=by rw [hq];exact Alj h hbl hx hat hnot hlen
 have hs:=G0 h hbl2
 have hsm:∀ y,y∈q.Ao->Cf y:=λ y hy=>(hbl2.mem y hy).small h
 refine d7 ?_
 unfold Hc
 refine (Na hs hsm (hx.small h) (by have:=hbl2.len;omega)).bind λ y hy=>?_
 obtain⟨m,e1,hat2,hf⟩:=hy
 rw [hq] at hat2 hf
 have e2:=hat.ins.uniq hat2
 subst e2
 have hf2:y.2=true:=hf.2 (Az4 hat.le x)
 refine cR (λ hc=>by rw [hf2] at hc;simp at hc) (λ _=>cR (λ hc=>?_) (λ _=>?_))
 ·simp [Qf] at hc
 refine Ok.andThen (A:=λ z=>z=p.Ao) (B:=λ (_:Unit)=>False) ?_ ?_ (λ _ h=>h.elim)
 ·unfold Nw
  have hle:=hat.le
  rw [e1,A9 (by omega)]
  simp only [cond_false,hq]
  rw [As4 hat.le]
  exact d9 rfl
 ·rintro z rfl
  unfold Kb
  refine cR (λ hk=>?_) (λ hk=>?_)
  ·simp only [dD] at hk
   have hn:0<=x.Number/\x.Number<q.Ac.length:=by
    unfold B5 at hx
    omega
   rw [if_pos hk]
   refine (cV hn.1 hn.2).bind λ u hu=>(d4 hn.1 hn.2).bind λ v hv=>?_
   have hd:q.Ac.getD x.Number.toNat default=u:=by simp [List.getD,hu]
   simp only [cond_false]
   exact c9 (by rw [hv,hd])
  ·simp only [dE,ne_eq] at hk
   rw [if_neg hk]
   exact c9 rfl
def A0a (p:Ab) (x:Al) (n:Nat):Ab:=⟨p.Ag,Kb p.Ac x 3,p.Aq,Dt p.Ao n x⟩
theorem Anv {b:Aa} (h:Av b) {p:Ab} (hp:Ax b p) {x:Al} (hx:B5 b x) {n:Nat} (hat:At p.Ao x n) (hnot:p.Ao[n]? ≠ some x) (hlen:p.Ao.length<32):Ax b (A0a p x n) where
 ncl:=hp.ncl
 nso:=by show (Kb p.Ac x 3).length=_;rw [S5];exact hp.nso
 nli:=hp.nli
 run:=Af8 hp.run (λ hk=>by have:=hp.nso;unfold B5 at hx;omega) (by omega)
 lim:=hp.lim
 one:=hp.one
 brk:=Alj h hp.brk hx hat hnot hlen
theorem Mb (b:Aa) (k n:Int):J0 b k n=true↔B5 b ⟨k,n⟩:=by
 unfold J0 B5
 dsimp only
 by_cases h1:k=1
 ·subst h1;simp
 rw [dE.2 h1,cond_false]
 by_cases h2:k=2
 ·subst h2;simp
 rw [dE.2 h2,cond_false]
 by_cases h3:k=3
 ·subst h3;simp
 rw [dE.2 h3,cond_false]
 by_cases h4:k=4
 ·subst h4;simp
 rw [dE.2 h4,cond_false]
 simp only [ae,dA]
 omega
theorem A53 {b:Aa} (h:Av b) {l:List Al} (hl:Dx b l) {x:Al} (hx:B5 b x):∃ n,At l x n:=by
 have hs:=G0 h hl
 obtain⟨y,_,n,_,hat,_⟩:=Na hs (λ y hy=>(hl.mem y hy).small h) (hx.small h) (by have:=hl.len;omega)
 exact⟨n,hat⟩
theorem A0j {b:Aa} (h:Av b) {p:Ab} (hp:Ax b p):F37 p=some p:=by
 have hl:=hp.lens h
 have h1:=hl.c
 have h2:=hl.s
 have h3:=hl.l
 have h4:=hl.k
 unfold F37
 rw [K1 (by omega),K1 (by omega),K1 (by omega),K1 (by omega)]
 rfl
theorem de {α:Type} {l:List (Bool×Bool)} {x:Option α} {d:α} {P:α->Prop} (hx:C7 l->Ok x λ _=>True) (hr:∀ y,P y):Ok (A4 l x d) P:=
 cX (λ h=>(hx h).mono λ y _=>hr y) λ _=>hr d
theorem dg {α:Type} {x:Option α} {v:α} (h:x=some v):Ok x λ _=>True:=⟨v,h,trivial⟩
theorem Ay8 {x B1:Af} (hx:Cw x) (hl:Cw B1):Cw (Wq B1 x):=⟨hx.1,hx.2.1,hl.2.2.1,hl.2.2.2⟩
theorem Lh {ss:List Af} (h:∀ x,x∈ss->Cw x) {n:Nat} {y:Af} (hy:Cw y):∀ x,x∈ss.set n y->Cw x:=λ x hx=>by
 rcases cm hx with hx | hx
 ·exact h x hx
 ·exact hx ▸ hy
theorem Af1 {ss:List Af} (h:∀ x,x∈ss->Cw x) {n:Nat} (hn:n<ss.length):Cw (ss.getD n default):=by
 have:ss.getD n default=ss[n]:=by simp [List.getD,List.getElem?_eq_getElem hn]
 rw [this];exact h _ (List.getElem_mem hn)
theorem Pp {B1:Af} (hl:Cw B1):∀ (idx:List Int) (ss:List Af),(∀ i,i∈idx->0<=i/\i<ss.length)->(∀ x,x∈ss->Cw x)->∀ x,x∈Eb B1 idx ss->Cw x
 | [],_,_,h=>h
 | i::idx,ss,hi,h=>by
  have h0:=hi i aj
  refine Pp hl idx _ (λ j hj=>?_) (Lh h (Ay8 (Af1 h (by omega)) hl))
  have:=hi j (ai _ hj)
  simpa using this
theorem Af2 {b:Aa} {p:Ab} (hp:Ax b p):∀ (l:List Ai) (s:List Af),(∀ x,x∈l->∀ i,i∈x.Ac->0<=i/\i<b.Ac.length)->s.length=p.Ac.length->(∀ x,x∈s->Cw x)->∀ x,x∈l.foldl (Cq p) s->Cw x
 | [],_,_,_,h=>h
 | y::l,s,hi,hs,h=>by
  refine Af2 hp l _ (λ x hx=>hi x (ai _ hx)) (by rw [Mm,hs]) ?_
  have h0:=hi y aj
  have hn:=hp.nso
  unfold Cq
  split
  ·exact h
  ·rename_i i r e
   rw [e] at h0
   have h1:=h0 i aj
   rw [e]
   exact Pp (Af1 hp.run (by omega)) _ _ (λ j hj=>by have:=h0 j hj;omega) h
theorem Qb {b:Aa} {p:Ab} (hp:Ax b p):∀ x,x∈D9 b p->Cw x:=
 Af2 hp _ _ (λ _ hx=>Oq hx) rfl hp.run
theorem I2 {b:Aa} {p:Ab} (hp:Ax b p) {ss:List Af} (hl:ss.length=p.Ac.length) (hr:∀ x,x∈ss->Cw x):Ax b ⟨p.Ag,ss,p.Aq,p.Ao⟩ where
 ncl:=hp.ncl
 nso:=hl.trans hp.nso
 nli:=hp.nli
 run:=hr
 lim:=hp.lim
 one:=hp.one
 brk:=hp.brk
theorem Am6 {b:Aa} {p:Ab} (hp:Ax b p) (j:Nat):Ax b ⟨p.Ag.set j false,p.Ac,p.Aq,p.Ao⟩ where
 ncl:=by simpa using hp.ncl
 nso:=hp.nso
 nli:=hp.nli
 run:=hp.run
 lim:=hp.lim
 one i hi:=by
  refine aH (Af7 (by simp) (λ k hk=>?_) i) (hp.one i hi)
  rw [ax] at hk
  split at hk
  ·split at hk <;> cases hk
  ·exact hk
 brk:=hp.brk
theorem Asf {l:List Aj}:∀ {c:List Bool} {j:Nat} {x:Aj},l[j]? = some x->∀ i:Nat,(Cd l (c.set j true) i).length<=(Cd l c i).length+(if x.Kind=3/\x.B=(i:Int) then 1 else 0):=by
 induction l with
 | nil=>intro c j x h;simp at h
 | cons y l ih=>
  intro c j x h i
  cases c with
  | nil=>simp [Cd]
  | cons v c=>
   cases j with
   | zero=>
    simp only [List.getElem?_cons_zero,al] at h
    subst h
    simp only [List.set_cons_zero,Cd,bJ,bp]
    by_cases hk:y.Kind=3/\y.B=(i:Int)
    ·rw [if_pos hk]
     simp only [hk.1,hk.2,beq_self_eq_true,bk,bM,if_true]
     split <;> simp
    ·rw [if_neg hk]
     have:(y.Kind==3&&y.B==(i:Int))=false:=by
      rw [cK];intro e
      simp only [ae,dD] at e
      exact hk e
     simp [this]
   | succ j=>
    simp only [cH] at h
    have:=ih (c:=c) h i
    simp only [List.set_cons_succ,Cd,bJ,bp] at this ⊢
    split <;> simp at this ⊢ <;> omega
theorem Asg {b:Aa} {p:Ab} {i:Nat} (h:Ee b p 3 (i:Int)=none):Cd b.Ad p.Ag i=[]:=by
 unfold Ee at h
 rw [Option.map_eq_none_iff,List.find?_eq_none] at h
 unfold Cd
 rw [List.filter_eq_nil_iff]
 exact h
theorem A34 {b:Aa} {p:Ab} (hp:Ax b p) {j:Nat} {x:Aj} (hx:b.Ad[j]? = some x) (hf:x.Kind=3->Ee b p 3 x.B=none):Ax b ⟨p.Ag.set j true,p.Ac,p.Aq,p.Ao⟩ where
 ncl:=by simpa using hp.ncl
 nso:=hp.nso
 nli:=hp.nli
 run:=hp.run
 lim:=hp.lim
 one i hi:=by
  have h1:=Asf (c:=p.Ag) hx i
  have h2:=hp.one i hi
  dsimp only
  split at h1
  ·rename_i hk
   have h3:=hf hk.1
   rw [hk.2] at h3
   rw [Asg h3] at h1
   simpa using h1
  ·omega
 brk:=hp.brk
theorem Azo {b:Aa} (h:Av b) {p:Ab} (hp:Ax b p) (i:Int):Ok (Ajc b p i) λ y=>y.2≠0\/Ax b y.1:=by
 have hbl:p.Ao.length<=1000:=by have:=hp.brk.len;omega
 have hn:=hp.ncl
 unfold Ajc
 rw [Dj h hp,Du h hp]
 simp only [ac]
 refine cR (λ hc=>by simp at hc) (λ _=>cR (λ _=>c9 (.inl (by simp))) (λ hr=>?_))
 simp only [Ath,bG,dC] at hr
 refine (cV (by omega) (by omega)).bind λ v _=>Ok.bind (P:=λ _=>True) (de (λ _=>dg (Et hbl _ _)) λ _=>trivial) λ _ _=>?_
 refine cR (λ _=>c9 (.inl (by simp))) (λ _=>?_)
 exact (cV (by omega) (by omega)).bind λ _ _=>(d4 (by omega) (by omega)).bind λ z hz=>c9 (.inr (by rw [hz];exact Am6 hp _))
theorem Ax3 {b:Aa} (h:Av b) {p:Ab} (hp:Ax b p) (n:Int):Ok (Gb b p n) λ y=>∀ i,i∈y.1.Ac->0<=i/\i<p.Ac.length:=by
 have hn:=hp.nso
 unfold Gb
 rw [Hp h hp]
 simp only [ac]
 refine Ok.andThen (A:=λ _=>True) (B:=λ y=>∀ i,i∈y.1.Ac->0<=i/\i<p.Ac.length) ?_ (λ _ _=>c9 (λ i hi=>by cases hi)) (λ v hv=>c9 hv)
 refine cT (I:=λ _ _=>True) trivial (λ j x s hx _=>?_) λ s _=>trivial
 have hmem:=af hx
 have hbl:x.An.length<=9223372036854775807:=by
  unfold Bk at hmem
  obtain⟨f,_,rfl⟩:=am.1 (aD.1 hmem).1
  have:=C9 (λ i=>(A8 b p).getD i 0==(f:Int)) b.An.toNat
  have:=h.buses
  simp only [isl,Dv]
  omega
 unfold Lw
 rw [Dm _ _ hbl]
 simp only [ac]
 refine cR (λ _=>Ok.ret λ i hi=>?_) (λ _=>cS trivial)
 have:=Oq hmem i hi
 omega
theorem A7g {b:Aa} (h:Av b) {p:Ab} (hp:Ax b p) (n:Int):Ok (Gb b p n) λ y=>y.1.An.length<=9223372036854775807:=by
 unfold Gb
 rw [Hp h hp]
 simp only [ac]
 refine Ok.andThen (A:=λ _=>True) (B:=λ y=>y.1.An.length<=9223372036854775807) ?_ (λ _ _=>c9 (by simp)) (λ v hv=>c9 hv)
 refine cT (I:=λ _ _=>True) trivial (λ j x s hx _=>?_) λ s _=>trivial
 have hmem:=af hx
 have hbl:x.An.length<=9223372036854775807:=by
  unfold Bk at hmem
  obtain⟨f,_,rfl⟩:=am.1 (aD.1 hmem).1
  have:=C9 (λ i=>(A8 b p).getD i 0==(f:Int)) b.An.toNat
  have:=h.buses
  simp only [isl,Dv]
  omega
 unfold Lw
 rw [Dm _ _ hbl]
 simp only [ac]
 exact cR (λ _=>Ok.ret hbl) (λ _=>cS trivial)
theorem Nk {b:Aa} (h:Av b) {p:Ab} (hp:Ax b p) (n:Int):Ok (T2 b p n) λ y=>y.2=true->0<=y.1/\y.1<p.Ac.length:=by
 unfold T2
 refine (Ax3 h hp n).bind λ y hy=>?_
 refine cR (λ _=>c9 (λ e=>by cases e)) (λ hc=>?_)
 simp only [dE,ne_eq] at hc
 exact (cV (by omega) (by omega)).bind λ z hz=>c9 λ _=>hy z (af hz)
theorem db {α:Type} {l:List α} {i:Int} (h0:0<=i) (h1:i<l.length):Ok (getI l i) λ _=>True:=(cV h0 h1).mono λ _ _=>trivial
theorem Azc {b:Aa} (h:Av b) {p:Ab} (hp:Ax b p) {j:Nat} {x:Aj} (hx:b.Ad[j]? = some x):Ok (Ai3 b p x) λ _=>True:=by
 have hn:=hp.nso
 have hb:=h.br x (af hx)
 unfold Q6 at hb
 unfold Ai3
 refine (Nk h hp _).bind λ y hy=>?_
 refine cR (λ _=>c9 trivial) (λ h2=>?_)
 simp only [Bool.not_eq_false'] at h2
 have hy:=hy h2
 refine cR (λ _=>?_) (λ _=>cR (λ hk=>?_) (λ _=>c9 trivial))
 ·refine (Nk h hp _).bind λ z hz=>?_
  refine Ok.bind (P:=λ _=>True) (de (λ _=>db hy.1 hy.2) λ _=>trivial) λ _ _=>?_
  refine Ok.bind (P:=λ _=>True) (de (λ hg=>?_) λ _=>trivial) λ _ _=>c9 trivial
  have:=hz (by have:=hg.1;simpa using this)
  exact db this.1 this.2
 ·simp only [dD] at hk
  exact (db hy.1 hy.2).bind λ _ _=>(db (by omega) (by omega)).bind λ _ _=>c9 trivial
theorem Ar0 {o:Option Int}:(Fw o).2=false->o=none:=by
 cases o with
 | none=>intro _;rfl
 | some a=>intro e;cases e
theorem Avj {b:Aa} (h:Av b) {p:Ab} (hp:Ax b p) {j:Int} (h0:0<=j) (h1:j<b.Ad.length):Ok (Ai4 b p j) λ y=>y=true->∀ x,b.Ad[j.toNat]? = some x->x.Kind=3->Ee b p 3 x.B=none:=by
 have hbl:p.Ao.length<=1000:=by have:=hp.brk.len;omega
 have hn:=hp.nso
 have hc:=hp.ncl
 unfold Ai4
 refine (cV h0 h1).bind λ x hx=>(db h0 (by omega)).bind λ _ _=>?_
 have hb:=h.br x (af hx)
 unfold Q6 at hb
 refine Ok.bind (P:=λ _=>True) (de (λ _=>dg (Et hbl _ _)) λ _=>trivial) λ _ _=>?_
 refine Ok.bind (P:=λ _=>True) (de (λ _=>dg (Et hbl _ _)) λ _=>trivial) λ _ _=>?_
 refine cR (λ _=>c9 (λ e=>by cases e)) (λ _=>?_)
 refine cR (λ hk=>?_) (λ hk1=>cR (λ hk=>?_) (λ hk2=>?_))
 ·simp only [dD] at hk
  rw [Et hbl]
  refine c9 λ _ y hy hy3=>?_
  rw [hx] at hy;cases hy;omega
 ·simp only [dD] at hk
  rw [Et hbl]
  simp only [ac]
  refine Ok.bind (P:=λ _=>True) (de (λ _=>db (by omega) (by omega)) λ _=>trivial) λ _ _=>c9 λ _ y hy hy3=>?_
  rw [hx] at hy;cases hy;omega
 ·unfold Apn
  rw [Dj h hp,Ash h hc,Et hbl]
  simp only [ac,dH,cond_false]
  refine c9 λ e y hy hy3=>?_
  rw [hx] at hy;cases hy
  simp only [ae,bo] at e
  exact Ar0 e.2
theorem A1c {b:Aa} (h:Av b) {p:Ab} (hp:Ax b p) (j:Int):Ok (Ai5 b p j) λ y=>y≠0\/((0<=j/\j<b.Ad.length)/\∀ x,b.Ad[j.toNat]? = some x->x.Kind=3->Ee b p 3 x.B=none):=by
 unfold Ai5
 rw [Dj h hp]
 simp only [ac]
 refine cR (λ hc=>by simp at hc) (λ _=>cR (λ _=>c9 (.inl (by simp))) (λ hr=>?_))
 simp only [Atd,bG,dC] at hr
 refine (Avj h hp (by omega) (by omega)).bind λ y hy=>?_
 refine cR (λ _=>c9 (.inl (by simp))) (λ h2=>?_)
 simp only [Bool.not_eq_false'] at h2
 have hy:=hy h2
 refine (cV (by omega) (by omega)).bind λ x hx=>(A7g h hp x.A).bind λ z hz=>?_
 refine Ok.bind (P:=λ _=>True) (de (λ _=>dg (Dm _ _ hz)) λ _=>trivial) λ _ _=>?_
 refine Ok.bind (P:=λ _=>True) (de (λ _=>Azc h hp hx) λ _=>trivial) λ _ _=>?_
 exact cR (λ _=>c9 (.inl (by simp))) (λ _=>c9 (.inr ⟨⟨by omega,by omega⟩,hy⟩))
theorem Aw4 {b:Aa} (h:Av b) {p:Ab} (hp:Ax b p) (i:Int):Ok (Ajd b p i) λ y=>y.2≠0\/Ax b y.1:=by
 have hn:=hp.ncl
 unfold Ajd
 rw [Du h hp]
 simp only [ac]
 refine (A1c h hp i).bind λ y hy=>cR (λ hc=>c9 (.inl (by simpa using hc))) (λ hc=>?_)
 simp only [dG] at hc
 rcases hy with hy | ⟨hr,hf⟩
 ·exact absurd hc hy
 ·refine (cV hr.1 (by omega)).bind λ _ _=>(d4 hr.1 (by omega)).bind λ z hz=>?_
  obtain⟨x,hx⟩:∃ x,b.Ad[i.toNat]? = some x:=⟨_,ag (by omega)⟩
  have hq:=A34 hp hx (hf x hx)
  rw [←hz] at hq
  rw [Sx h hq]
  exact c9 (.inr (I2 hq (Ht _ _) (Qb hq)))
theorem Av4 {b:Aa} (h:Av b) {p:Ab} (hp:Ax b p) (i n:Int):Ok (Ajb b p i n) λ y=>y.2≠0\/Ax b y.1:=by
 have hn:=hp.nso
 unfold Ajb
 rw [Dj h hp,Du h hp]
 simp only [ac]
 refine cR (λ hc=>by simp at hc) (λ _=>cR (λ _=>c9 (.inl (by simp))) (λ hr=>?_))
 simp only [Atg,bG,dC] at hr
 refine (Nk h hp n).bind λ y hy=>?_
 refine Ok.bind (P:=λ _=>True) (de (λ _=>db (by omega) (by omega)) λ _=>trivial) λ u _=>?_
 refine cR (λ _=>c9 (.inl (by simp))) (λ hc=>?_)
 simp only [bG,Bool.not_eq_false'] at hc
 have hy:=hy hc.1
 unfold yX
 rw [Dj h hp,Mp h hp]
 simp only [ac,dH,cond_false]
 have hrun:∀ w,p.Ac[y.1.toNat]? = some w->Cw w:=λ w hw=>hp.run w (af hw)
 refine cR (λ _=>?_) (λ _=>?_)
 ·refine (Ax3 h hp _).bind λ z hz=>(cV hy.1 hy.2).bind λ w hw=>?_
  rw [Aeh hz]
  exact c9 (.inr (I2 hp (Gl _ _ _) (Pp (hrun w hw) _ _ hz hp.run)))
 ·refine (cV hy.1 hy.2).bind λ w hw=>?_
  have hz:∀ k,k∈[i]->0<=k/\k<p.Ac.length:=λ k hk=>by
   simp only [bA] at hk
   subst hk;omega
  rw [Aeh hz]
  exact c9 (.inr (I2 hp (Gl _ _ _) (Pp (hrun w hw) _ _ hz hp.run)))
theorem Sn {b:Aa} (h:Av b) {p:Ab} (hc:p.Ag.length=b.Ad.length) (t:Int) {i:Int} (h0:0<=i) (h1:i<b.Ac.length):Ok (Jg ⟨b,p,t⟩ i) λ _=>True:=by
 obtain⟨j,x,e,hx,_⟩:=Ld h h0 h1
 have hj:=(aa.1 hx).1
 unfold Jg
 rw [jQ h,e]
 simp only [ac]
 exact (db (by omega) (by omega)).bind λ _ _=>c9 trivial
def Wa (b:Aa) (y:Int×A1):Prop:=y.1≠0\/Ax b y.2.Au
theorem Avh {b:Aa} (h:Av b) {p:Ab} (hp:Ax b p) {t:Int} (ht:0<=t/\t<=2147483648) {i:Int} (h0:0<=i) (h1:i<b.Ac.length):Ok (Uk ⟨b,p,t⟩ i) (Wa b):=by
 have hn:=hp.nso
 have hbl:p.Ao.length<=1000:=by have:=hp.brk.len;omega
 unfold Uk
 refine (db h0 (by dsimp only;omega)).bind λ u _=>Ok.bind (P:=λ _=>True) (de (λ _=>dg (Et hbl _ _)) λ _=>trivial) λ _ _=>?_
 refine cR (λ _=>c9 (.inl (by simp))) (λ _=>(db h0 h1).bind λ s _=>?_)
 refine Ok.bind (P:=λ _=>True) (de (λ _=>Sn h hp.ncl t h0 h1) λ _=>trivial) λ _ _=>?_
 refine cR (λ _=>?_) (λ _=>?_)
 ·exact (d4 h0 (by dsimp only;omega)).bind λ z hz=>c9 (.inr (by
   rw [hz]
   exact I2 hp (by simp) (Lh hp.run ⟨by dsimp only;omega,ht,by dsimp only;omega,by dsimp only;omega⟩)))
 ·exact (d4 h0 (by dsimp only;omega)).bind λ z hz=>c9 (.inr (by
   rw [hz]
   exact I2 hp (by simp) (Lh hp.run ⟨by dsimp only;omega,ht,by dsimp only;omega,by dsimp only;omega⟩)))
theorem Azd {b:Aa} (h:Av b) {p:Ab} (hp:Ax b p) {t:Int} {i:Int} (h0:0<=i) (h1:i<b.Ac.length):Ok (Uj ⟨b,p,t⟩ i) (Wa b):=by
 have hn:=hp.nso
 unfold Uj
 refine (cV h0 (by dsimp only;omega)).bind λ u hu=>?_
 have hr:=hp.run u (af hu)
 refine Ok.bind (P:=λ _=>True) (de (λ _=>Sn h hp.ncl t h0 h1) λ _=>trivial) λ _ _=>?_
 refine cR (λ _=>c9 (.inl (by simp))) (λ _=>(d4 h0 (by dsimp only;omega)).bind λ z hz=>c9 (.inr ?_))
 rw [hz]
 exact I2 hp (by simp) (Lh hp.run ⟨by dsimp only;omega,hr.2⟩)
theorem Av9 {b:Aa} {p:Ab} (hp:Ax b p) {t:Int} {i v:Int} (h0:0<=i) (h1:i<b.Ae.length):Ok (Ui ⟨b,p,t⟩ i v) (Wa b):=by
 have hn:=hp.nli
 unfold Ui
 refine Ok.bind (P:=λ y=>0<=v->b.Ae[i.toNat]? = some y) (cX (λ _=>(cV h0 h1).mono λ y hy _=>hy) λ hg hv=>(hg ⟨by simp;omega,trivial⟩).elim) λ c hc=>?_
 refine cR (λ _=>c9 (.inl (by simp))) (λ hr=>?_)
 simp only [Agv,bG,dC] at hr
 have hc:=hc (by omega)
 refine (db h0 (by dsimp only;omega)).bind λ _ _=>(d4 h0 (by dsimp only;omega)).bind λ z hz=>c9 (.inr ?_)
 subst hz
 exact {
  ncl:=hp.ncl
  nso:=hp.nso
  nli:=by simpa using hp.nli
  run:=hp.run
  lim:=λ k m y hk hy=>by
   dsimp only at hk
   rw [ax] at hk
   split at hk
   ·rename_i e
    split at hk
    ·cases hk
     rw [←e,hc] at hy;cases hy;omega
    ·cases hk
   ·exact hp.lim k m y hk hy
  one:=hp.one
  brk:=hp.brk}
theorem Azs (x:Int):0<=Gu x/\Gu x<=3599:=by
 have:=Ph (x:=x) (n:=3600) (by omega)
 unfold Gu
 by_cases h:Int.tmod x 3600<0
 ·rw [dF h,cond_true,A9 (by omega)];omega
 ·rw [decide_eq_false h,cond_false];omega
theorem Ay6 {b:Aa} (h:Av b) {p:Ab} (hp:Ax b p):Ok (Yq b p) λ y=>Ax b y.1/\y.1.Ag=p.Ag/\y.2=0:=by
 have hs:=h.sol
 have hn:=hp.nso
 unfold Yq
 rw [Dj h hp,Du h hp]
 simp only [ac]
 refine cR (λ hc=>by simp at hc) (λ _=>?_)
 refine Ok.andThen (A:=λ s=>s.length=p.Ac.length/\∀ x,x∈s->Cw x) (B:=λ (_:Unit)=>False) ?_ (λ s hs=>c9 ⟨I2 hp hs.1 hs.2,rfl,rfl⟩) (λ _ h=>h.elim)
 refine cT (I:=λ _ s=>s.length=p.Ac.length/\∀ x,x∈s->Cw x) ⟨rfl,hp.run⟩ (λ j x s hx hs=>?_) λ s hs=>hs
 have hj:=(aa.1 hx).1
 have hcnt:cnt 0 j=(j:Int):=Cv (by omega)
 unfold V2
 rw [hcnt]
 refine cR (λ _=>?_) (λ _=>cS hs)
 refine (cV (by omega) (by omega)).bind λ u hu=>(d4 (by omega) (by omega)).bind λ z hz=>cS ?_
 have hr:=hs.2 u (af hu)
 rw [hz]
 exact⟨by simpa using hs.1,Lh hs.2 ⟨hr.1,hr.2.1,hr.2.2.1,Azs _⟩⟩
theorem Aj9 {b:Aa} (h:Av b) {p:Ab} (hp:Ax b p) (t:Int):Ok (Kq ⟨b,p,t⟩) λ y=>Ax b y.Au:=by
 have hso:=h.sol
 unfold Kq
 refine (Ay6 h hp).bind λ ⟨q,e⟩ hq=>?_
 dsimp only at hq ⊢
 obtain⟨hq,_,_⟩:=hq
 have hn:=hq.nso
 refine Ok.andThen (A:=λ s=>s.2.length=q.Ac.length/\∀ x,x∈s.2->Cw x) (B:=λ (_:Unit)=>False) ?_ (λ s hs=>c9 (I2 hq hs.1 hs.2)) (λ _ h=>h.elim)
 refine cU (λ s=>(0<=s.1/\s.1<=(q.Ac.length:Int))/\s.2.length=q.Ac.length/\∀ x,x∈s.2->Cw x) (λ s=>((q.Ac.length:Int)-s.1).toNat) _ _ ?_ ?_ ?_
 ·exact⟨by dsimp only;omega,rfl,hq.run⟩
 ·dsimp only;omega
 ·rintro⟨i,s⟩ ⟨⟨h1,h2⟩,h3,h4⟩
  dsimp only at h1 h2 h3 h4
  unfold Nx X0
  dsimp only
  refine cR (λ hc=>?_) (λ _=>d8 ⟨h3,h4⟩)
  simp only [dA] at hc
  have e1:w64 (i+1)=i+1:=A9 (by omega)
  refine (cV h1 (by omega)).bind λ u hu=>?_
  have hr:=h4 u (af hu)
  refine Ok.bind (P:=λ _=>True) (de (λ _=>Sn h hq.ncl t h1 (by omega)) λ _=>trivial) λ _ _=>?_
  refine Ok.bind (P:=λ _=>True) (de (λ _=>db h1 (by omega)) λ _=>trivial) λ _ _=>?_
  rw [e1]
  refine cR (λ _=>?_) (λ _=>cS ⟨⟨by dsimp only;omega,h3,h4⟩,by dsimp only;omega⟩)
  refine (d4 h1 (by omega)).bind λ z hz=>cS ⟨⟨by dsimp only;omega,?_,?_⟩,by dsimp only;omega⟩
  ·dsimp only;rw [hz];simpa using h3
  ·dsimp only;rw [hz];exact Lh h4 ⟨by dsimp only;omega,hr.2⟩
theorem bet {x lo hi:Int} (h:lo<=x/\x<=hi):F82 x lo hi=true:=(I1 x lo hi).2 h
def ofL (b:Aa) (q:Aj->Bool):List Int:=(b.Ad.zipIdx.filter λ z=>q z.1).map λ z=>(z.2:Int)
theorem Afe {b:Aa} (h:Av b) (k i:Int):F83 b k i=some (ofL b λ x=>Lc k i x):=by
 have hb:=h.brl
 refine d7 ?_
 unfold F83
 refine Ok.andThen (A:=λ s=>s=ofL b λ x=>Lc k i x) (B:=λ (_:Unit)=>False) ?_ (λ s hs=>c9 hs) (λ _ h=>h.elim)
 refine cT (I:=λ j s=>s=((b.Ad.zipIdx.take j).filter λ z=>Lc k i z.1).map λ z=>(z.2:Int)) rfl (λ j x s hx hs=>?_) λ s hs=>?_
 ·have hj:=(aa.1 hx).1
  have hcnt:cnt 0 j=(j:Int):=Cv (by omega)
  have hz:b.Ad.zipIdx[j]? = some (x,j):=by rw [List.getElem?_zipIdx,hx];simp
  have hsl:s.length<=j:=by
   rw [hs,au]
   exact aH (bD _ _) (by simp;omega)
  unfold Aie
  rw [hcnt,Bi hz,bt,bI,←hs]
  refine cR (λ hq=>?_) (λ hq=>cS (by simp [hq]))
  exact (cW (by simp;omega)).bind λ y hy=>cS (by rw [hy];simp [hq])
 ·rw [hs,show b.Ad.length=b.Ad.zipIdx.length from by simp,aG];rfl
theorem Adb (q:Aj->Bool):∀ (l:List Aj) (k:Nat),((l.zipIdx k).filter λ z=>q z.1).length=(l.filter q).length
 | [],_=>rfl
 | x::l,k=>by
  simp only [List.zipIdx_cons,bp]
  split <;> simp [Adb q l (k+1)]
theorem Azq (b:Aa) (q:Aj->Bool):(ofL b q).length=(b.Ad.filter q).length:=by
 unfold ofL
 rw [au,Adb]
theorem Avs (k:Int) (hk:k≠1) (i:Int) (x:Aj):Lc k i x=(x.Kind==k&&x.B==i):=by
 unfold Lc
 have:(k==1)=false:=dE.2 hk
 rw [this];simp
theorem vD {b:Aa} {k:Int} (hk:k≠1) (i:Nat):(ofL b λ x=>Lc k (i:Int) x).length=(brs b.Ad k i).length:=by
 rw [Azq]
 unfold brs
 congr 1
 exact List.filter_congr λ x _=>Avs k hk i x
theorem Ae7 {b:Aa} (h:Av b):F59 b=some true:=by
 have hs:=h.sol
 have hc:=h.col
 have hb:=h.buses
 have hbl:=h.brl
 refine d7 ?_
 unfold F59
 rw [Da b.Ad 0 λ j x hj=>?_]
 ·rw [show ∀ (f:Unit->Option Bool),andThen (some (Ctl.next ()):Option (Ctl Unit Bool)) some f=f () from λ _=>rfl]
  refine Ok.andThen (A:=λ _=>True) (B:=λ (_:Bool)=>False) ?_ (λ _ _=>?_) (λ _ h=>h.elim)
  ·refine cU (λ s=>0<=s/\s<=(b.Ac.length:Int)) (λ s=>((b.Ac.length:Int)-s).toNat) _ (0:Int) (by omega) (by omega) ?_
   rintro i ⟨h1,h2⟩
   unfold Aix Atc
   refine cR (λ hq=>?_) (λ _=>d8 trivial)
   simp only [dA] at hq
   obtain⟨n,rfl⟩:∃ n:Nat,i=(n:Int):=⟨i.toNat,by omega⟩
   rw [Afe h]
   simp only [ac]
   have hone:=h.one n (by omega)
   rw [vD (by decide),hone,A9 (by omega)]
   refine cR (λ hc=>by simp at hc) (λ _=>cS ⟨by omega,by omega⟩)
  ·refine Ok.andThen (A:=λ _=>True) (B:=λ (_:Bool)=>False) ?_ (λ _ _=>c9 rfl) (λ _ h=>h.elim)
   refine cU (λ s=>0<=s/\s<=(b.Ae.length:Int)) (λ s=>((b.Ae.length:Int)-s).toNat) _ (0:Int) (by omega) (by omega) ?_
   rintro i ⟨h1,h2⟩
   unfold Aiw Atb
   refine cR (λ hq=>?_) (λ _=>d8 trivial)
   simp only [dA] at hq
   obtain⟨n,rfl⟩:∃ n:Nat,i=(n:Int):=⟨i.toNat,by omega⟩
   rw [Afe h]
   simp only [ac]
   have hany:=h.any n (by omega)
   have hpos:0<(brs b.Ad 3 n).length:=List.length_pos_iff.2 hany
   rw [vD (by decide),A9 (by omega)]
   refine cR (λ hc=>?_) (λ _=>cS ⟨by omega,by omega⟩)
   simp only [dA] at hc;omega
 ·have hjl := (aa.1 hj).1
  obtain⟨⟨a0,a1⟩,hk⟩:=h.br x (af hj)
  rw [aI]
  have hcnt:cnt 0 j=(j:Int):=Cv (by omega)
  have e1:w64 (b.An-1)=b.An-1:=A9 (by omega)
  have e2:w64 (x.A+1)=x.A+1:=A9 (by omega)
  have e3:w64 ((b.Ac.length:Int)-1)=(b.Ac.length:Int)-1:=A9 (by omega)
  have e4:w64 ((b.Ae.length:Int)-1)=(b.Ae.length:Int)-1:=A9 (by omega)
  unfold Aiy Ayy Ayx Ayw
  rw [e1,e2,e3,e4,hcnt,bet (x:=x.A) (by omega)]
  simp only [bj,cond_false]
  rcases hk with⟨hk,h1,h2⟩ | ⟨hk,h1,h2⟩ | ⟨hk,h1,h2⟩
  ·rw [hk,bet (x:=x.B) (lo:=x.A+1) (by omega)];rfl
  ·rw [hk,bet (x:=x.B) (lo:=0) (hi:=(b.Ac.length:Int)-1) (by omega)];rfl
  ·rw [hk, bet (x := x.B) (lo := 0) (hi := (b.Ae.length : Int) - 1) (by omega)]
   have hcut:cutI b.Ad 0 (j:Int)=some (b.Ad.take j):=by
    refine d7 ((Ok.cutI (by omega) (by omega) (by omega)).mono λ y hy=>?_)
    rw [hy];simp
   show ((cutI b.Ad 0 (j:Int)).bind λ y9=>andThen (foldI (qK x) y9 0 ()) (λ v=>some (Ctl.ret v)) λ z1=>some (Ctl.next ()))=some (Ctl.next ())
   rw [hcut]
   simp only [ac]
   rw [Da _ 0 λ m y hy=>?_]
   ·rfl
   ·have hml:m<j:=by
     have:=(aa.1 hy).1
     simp only [aU] at this;omega
    have hyb:b.Ad[m]? = some y:=by
     rw [ar,if_pos hml] at hy;exact hy
    unfold qK
    have hne:Aoc x y=false:=by
     unfold Aoc
     rw [cK]
     intro e
     simp only [bM,ae,dD] at e
     obtain⟨e1,e2,e3⟩:=e
     have hn:=h.nodup x.B.toNat
     have hsplit:b.Ad=b.Ad.take j++(x::b.Ad.drop (j+1)):=by
      conv=>lhs;rw [←cd j b.Ad]
      rw [cO hjl]
      have:b.Ad[j]=x:=by
       rw [ag hjl] at hj;cases hj;rfl
      rw [this]
     rw [hsplit,F_,bI] at hn
     have hBn:x.B=(x.B.toNat:Int):=by omega
     have hmem1:y.A∈(brs (b.Ad.take j) 3 x.B.toNat).map (·.A):=by
      refine am.2 ⟨y,?_,rfl⟩
      unfold brs
      refine aD.2 ⟨af hy,?_⟩
      rw [e1,hk,e3,←hBn];simp
     have hmem2:x.A∈(brs (x::b.Ad.drop (j+1)) 3 x.B.toNat).map (·.A):=by
      refine am.2 ⟨x,?_,rfl⟩
      unfold brs
      refine aD.2 ⟨aj,?_⟩
      rw [hk,←hBn];simp
     exact (List.nodup_append.1 hn).2.2 _ hmem1 _ hmem2 e2
    rw [hne];rfl
theorem Ajq {b:Aa} (h:Av b):F60 b=some true:=by
 unfold F60
 rw [Da b.Ac 0 λ j x hj=>?_]
 ·rfl
 ·obtain⟨h1,h2,h3⟩:=h.so x (af hj)
  unfold Aiv Ayv
  rw [bet h1,bet h2,bet h3];rfl
theorem Acd {b:Aa} (h:Av b):F61 b=some true:=by
 have hcl:=h.col
 unfold F61
 rw [Da b.Ae 0 λ j x hj=>?_]
 ·rfl
 ·obtain⟨h1,h2,h3,h4,h5,h6,h7⟩:=h.co j x hj
  have hjl:=(aa.1 hj).1
  rw [aI]
  have hcnt:cnt 0 j=(j:Int):=Cv (by omega)
  unfold Aiu Ayu
  rw [bet h1,bet h2,bet h3,bet h4]
  have hd:decide ((x.Needs.length:Int)>4)=false:=by simp;omega
  rw [hd]
  simp only [bj,Bool.or_false,cond_false]
  rw [Da x.Needs 0 λ m n hm=>?_]
  ·rfl
  ·have hml:=(aa.1 hm).1
   rw [aI]
   have hcm:cnt 0 m=(m:Int):=Cv (by omega)
   have hn:=h6 n (af hm)
   unfold Ait Ayt
   rw [hcnt,hcm,A9 (n:=(j:Int)-1) (by omega),bet (x:=n) (by omega)]
   cases m with
   | zero=>rfl
   | succ m=>
    obtain⟨a,ha⟩:∃ a,x.Needs[m]? = some a:=⟨_,ag (by omega)⟩
    have hlt:=h7 m a n ha hm
    have e:w64 (((m+1:Nat):Int)-1)=(m:Int):=by rw [A9 (by omega)];omega
    have hp:decide (((m+1:Nat):Int)>0)=true:=dF (by omega)
    have hq:decide (a>=n)=false:=by simp;omega
    rw [e,Bj ha,hp]
    simp [A4,Cz,hq]
theorem Avp {b:Aa} (h:Av b):F43 b=some 0:=by
 have h1:=h.buses
 have h2:=h.brl
 have h3:=h.sol
 have h4:=h.col
 have h5:=h.phase
 have h6:=h.freq
 unfold F43
 rw [Ae7 h,Ajq h,Acd h]
 have e:Aoe b=false:=by
  rw [cK];intro e
  simp [Aoe] at e;omega
 have e2:Aod b true true true=false:=by
  rw [cK];intro e
  simp [Aod] at e;omega
 rw [e]
 simp only [cond_false,ac]
 have g1:(A4 [(!true,false)] (some true) default:Option Bool)=some true:=rfl
 have g2:(A4 [(!true || !true,false)] (some true) default:Option Bool)=some true:=rfl
 rw [g1,ac,g2,ac,e2];rfl
theorem zS (i:Nat) (C:List Bool):∀ (l:List Aj) (c:List Bool) (k:Nat),C.drop k=c->l.length=c.length ->
  (((l.zipIdx k).filter λ z=>z.1.Kind==3&&z.1.B==(i:Int)).filter λ z=>C.getD z.2 false).length=(Cd l c i).length
 | [],_,_,_,_=>by simp [Cd]
 | x::l,[],_,_,h=>by simp at h
 | x::l,v::c,k,hd,h=>by
  have hv:C[k]? = some v:=by
   have:=congrArg (·[0]?) hd
   simpa [List.getElem?_drop] using this
  have hd':C.drop (k+1)=c:=by rw [←bV,hd];rfl
  have ih:=zS i C l c (k+1) hd' (by simpa using h)
  have hg:C.getD k false=v:=by simp [List.getD,hv]
  simp only [List.zipIdx_cons,bp,Cd,bJ] at ih ⊢
  cases hq:(x.Kind==3&&x.B==(i:Int)) with
  | false=>simpa only [Bool.false_and,bU,if_false] using ih
  | true=>
   simp only [if_true,bp,hg]
   cases v with
   | false=>simpa only [Bool.and_false,bU,if_false] using ih
   | true=>simpa only [cu,if_true,aP,Nat.add_right_cancel_iff] using ih
theorem L8 {b:Aa} (h:Av b) {p:Ab} (hp:Ax b p):F62 b p=some 0:=by
 have h3:=h.sol
 have h4:=h.col
 have hbl:=h.brl
 have hncl:=hp.ncl
 have hnso:=hp.nso
 have hnli:=hp.nli
 refine d7 ?_
 unfold F62
 rw [Avp h]
 simp only [ac]
 refine cR (λ hc=>by simp at hc) (λ _=>cR (λ hc=>?_) (λ _=>?_))
 ·simp [Ays,hncl,hnso,hnli] at hc
 rw [Da p.Ac 0 λ j x hj=>?_]
 ·rw [show ∀ (f : Unit -> Option Int), andThen (some (Ctl.next ()) : Option (Ctl Unit Int)) some f = f () from λ _ => rfl]
  rw [Da p.Aq 0 λ j x hj=>?_]
  ·rw [show ∀ (f : Unit -> Option Int), andThen (some (Ctl.next ()) : Option (Ctl Unit Int)) some f = f () from λ _ => rfl]
   have hlen:=hp.brk.len
   refine cR (λ hc=>?_) (λ _=>?_)
   ·simp only [dA] at hc;omega
   rw [Da p.Ao 0 λ j x hj=>?_]
   ·rw [show ∀ (f:Unit->Option Int),andThen (some (Ctl.next ()):Option (Ctl Unit Int)) some f=f () from λ _=>rfl]
    refine Ok.andThen (A:=λ _=>True) (B:=λ (_:Int)=>False) ?_ (λ _ _=>c9 rfl) (λ _ h=>h.elim)
    refine cU (λ s=>0<=s/\s<=(b.Ae.length:Int)) (λ s=>((b.Ae.length:Int)-s).toNat) _ (0:Int) (by omega) (by omega) ?_
    rintro i ⟨g1,g2⟩
    unfold Aip Ayp
    refine cR (λ hq=>?_) (λ _=>d8 trivial)
    simp only [dA] at hq
    obtain⟨n,rfl⟩:∃ n:Nat,i=(n:Int):=⟨i.toNat,by omega⟩
    rw [Afe h]
    simp only [ac]
    have hone:=hp.one n (by omega)
    have hz:ofL b (λ x=>Lc 3 (n:Int) x)=((b.Ad.zipIdx.filter λ z=>z.1.Kind==3&&z.1.B==(n:Int)).map λ z=>(z.2:Int)):=by
     unfold ofL
     congr 1
     exact List.filter_congr λ z _=>Avs 3 (by decide) n z.1
    have hzf:=zS n p.Ag b.Ad p.Ag 0 rfl (by omega)
    rw [hz]
    have hin:∀ z,z∈(b.Ad.zipIdx.filter λ z=>z.1.Kind==3&&z.1.B==(n:Int))->z.2<p.Ag.length:=by
     rintro⟨x,j⟩ hm
     have:=(aD.1 hm).1
     rw [cP] at this
     have:=(aa.1 this).1
     dsimp only;omega
    have hsz:(b.Ad.zipIdx.filter λ z=>z.1.Kind==3&&z.1.B==(n:Int)).length<=24:=aH (bD _ _) (by simpa using hbl)
    generalize hm:(b.Ad.zipIdx.filter λ z=>z.1.Kind==3&&z.1.B==(n:Int))=m at hin hsz hzf
    refine (cT (xs:=m.map λ z=>(z.2:Int)) (I:=λ j s=>s=(((m.take j).filter λ z=>p.Ag.getD z.2 false).length:Int)) (A:=λ s=>s=((m.filter λ z=>p.Ag.getD z.2 false).length:Int)) (B:=λ (_:Unit)=>False) rfl (λ j x s hx hs=>?_) λ s hs=>?_).inner (λ s hs=>?_) (λ _ h=>h.elim)
    ·rw [aw,Option.map_eq_some_iff] at hx
     obtain⟨z,hz,rfl⟩:=hx
     have hzl:=hin z (af hz)
     obtain⟨v,hv⟩:∃ v,p.Ag[z.2]? = some v:=⟨_,ag hzl⟩
     have hg:p.Ag.getD z.2 false=v:=by simp [List.getD,hv]
     have hle:((m.take j).filter λ z=>p.Ag.getD z.2 false).length<=24:=aH (bD _ _) (by simp;omega)
     unfold Aio
     rw [Bj hv,Bi hz,bt]
     simp only [ac]
     refine cR (λ hq=>cS ?_) (λ hq=>cS ?_)
     ·rw [hs,A9 (by omega),bp,hg,if_pos hq]
      simp
     ·rw [hs,bp,hg,if_neg (ff hq)]
      simp
    ·rw [au,aG] at hs;exact hs
    ·rw [hs,hzf,A9 (by omega)]
     refine cR (λ hc=>?_) (λ _=>cS ⟨by omega,by omega⟩)
     simp only [dA] at hc;omega
   ·have hjl:=(aa.1 hj).1
    rw [aI]
    have hcnt:cnt 0 j=(j:Int):=Cv (by omega)
    unfold Aiq Ayq
    rw [(Z7 h x).2 (hp.brk.mem x (af hj)),hcnt]
    cases j with
    | zero=>rfl
    | succ j=>
     obtain⟨a,ha⟩:∃ a,p.Ao[j]? = some a:=⟨_,ag (by omega)⟩
     have hlt:=hp.brk.asc j a x ha hj
     have e:w64 (((j+1:Nat):Int)-1)=(j:Int):=by rw [A9 (by omega)];omega
     have hpz:decide (((j+1:Nat):Int)>0)=true:=dF (by omega)
     have hb:F84 a x=true:=by
      unfold F84
      unfold O3 at hlt
      simp only [aO,ae,dA,dD]
      exact hlt
     rw [e,Bj ha,hpz]
     simp [A4,Cz,hb]
  ·have hjl:=(aa.1 hj).1
   rw [aI]
   have hcnt:cnt 0 j=(j:Int):=Cv (by omega)
   obtain⟨c,hc⟩:∃ c,b.Ae[j]? = some c:=⟨_,ag (by omega)⟩
   unfold Air
   rw [hcnt,Bj hc]
   simp only [ac]
   rw [bet (hp.lim j x c hj hc)];rfl
 ·have hr:=hp.run x (af hj)
  unfold Ais Ayr
  rw [bet hr.1,bet hr.2.1,bet hr.2.2.1,bet hr.2.2.2];rfl
theorem Asr {l:List Al} {n:Nat} {x:Al} (h:l[n]? = some x):Dt (l.take n++l.drop (n+1)) n x=l:=by
 have hn:=(aa.1 h).1
 have ht:(l.take n).length=n:=by simp;omega
 unfold Dt
 rw [cy (by omega),List.take_take,Nat.min_self,List.drop_append_of_le_length (by omega),List.drop_of_length_le (by omega),cL]
 conv=>rhs;rw [←cd n l]
 rw [cO hn]
 have:l[n]=x:=by rw [ag hn] at h;cases h;rfl
 rw [this]
theorem Km {l:List Al} {n j:Nat} (hn:n<l.length) {y:Al} (h:(l.take n++l.drop (n+1))[j]? = some y):(j<n/\l[j]? = some y)\/(n<=j/\l[j+1]? = some y):=by
 have ht:(l.take n).length=n:=by simp;omega
 rw [ch] at h
 split at h
 ·rename_i h1
  rw [ht] at h1
  rw [ar,if_pos h1] at h
  exact .inl ⟨h1,h⟩
 ·rename_i h1
  rw [ht] at h1 h
  rw [aq] at h
  refine .inr ⟨by omega,?_⟩
  rw [←h];congr 1;omega
theorem Awv {b:Aa} (h:Av b) {l:List Al} (hl:Dx b l) {n:Nat} (hn:n<l.length):Dx b (l.take n++l.drop (n+1)):=by
 have hs:=G0 h hl
 have hsm:∀ y,y∈l->Cf y:=λ y hy=>(hl.mem y hy).small h
 have hlen:=hl.len
 refine⟨by simp;omega,λ y hy=>?_,λ j y z hy hz=>?_⟩
 ·rcases az.1 hy with hy | hy
  ·exact hl.mem y (be hy)
  ·exact hl.mem y (ce hy)
 ·rcases Km hn hy with⟨a1,a2⟩ | ⟨a1,a2⟩ <;> rcases Km hn hz with⟨b1,b2⟩ | ⟨b1,b2⟩
  ·exact hl.asc j y z a2 b2
  ·exact (Acn (hsm y (af a2)) (hsm z (af b2))).2 (hs j (j+1+1) y z (by omega) a2 b2)
  ·omega
  ·exact hl.asc (j+1) y z a2 b2
theorem Aww {b:Aa} (h:Av b) {l:List Al} (hl:Dx b l) {n:Nat} {x:Al} (hx:l[n]? = some x):At (l.take n++l.drop (n+1)) x n/\(l.take n++l.drop (n+1))[n]? ≠ some x:=by
 have hs:=G0 h hl
 have hn:=(aa.1 hx).1
 refine⟨⟨by simp;omega,λ j y hj hy=>?_,λ j y hj hy=>?_⟩,λ e=>?_⟩
 ·rcases Km hn hy with⟨_,a2⟩ | ⟨a1,_⟩
  ·exact hs j n y x hj a2 hx
  ·omega
 ·rcases Km hn hy with⟨a1,_⟩ | ⟨_,a2⟩
  ·omega
  ·have:=hs n (j+1) x y (by omega) hx a2;omega
 ·rcases Km hn e with⟨a1,_⟩ | ⟨_,a2⟩
  ·omega
  ·have:=hs n (n+1) x x (by omega) hx a2;omega
theorem A0b {b:Aa} (h:Av b) {p:Ab} (hp:Ax b p) (t:Int) {x:Al} (hx:B5 b x) (v:Bool):Ok (Hc ⟨b,p,t⟩ x v) (Wa b):=by
 obtain⟨n,hat⟩:=A53 h hp.brk hx
 have hlen:=hp.brk.len
 have hsearch:=Na (G0 h hp.brk) (λ y hy=>(hp.brk.mem y hy).small h) (hx.small h) (by omega)
 have hbad:∀ (hv:(p.Ao[n]? = some x)↔v=true),Ok (Hc ⟨b,p,t⟩ x v) (Wa b):=by
  intro hv
  unfold Hc
  refine hsearch.bind λ y hy=>?_
  obtain⟨m,e1,hat2,hf⟩:=hy
  have e2:=hat.uniq hat2
  subst e2
  have:y.2=v:=by
   rw [bW];exact hf.trans hv
  rw [this]
  exact cR (λ _=>c9 (.inl (by simp))) (λ hc=>by simp at hc)
 by_cases hin:p.Ao[n]? = some x
 ·cases v with
  | true=>exact hbad ⟨λ _=>rfl,λ _=>hin⟩
  | false=>
   have hn:=(aa.1 hin).1
   have he:=Aww h hp.brk hin
   have hq:Ax b ⟨p.Ag,p.Ac,p.Aq,p.Ao.take n++p.Ao.drop (n+1)⟩:={ncl:=hp.ncl,nso:=hp.nso,nli:=hp.nli,run:=hp.run,lim:=hp.lim,one:=hp.one,brk:=Awv h hp.brk hn}
   have:=Azv h (p:=⟨p.Ag,p.Ac,p.Aq,p.Ao.take n++p.Ao.drop (n+1)⟩) hq.brk (q:=p) hx t he.1 he.2 (by simp;omega) (Asr hin).symm hp.nso
   rw [this]
   refine c9 (.inr ?_)
   exact I2 hq (S5 _ _ _) (Af8 hp.run (λ hk=>by have:=hp.nso;unfold B5 at hx;omega) (by omega))
 ·cases v with
  | false=>exact hbad ⟨λ e=>absurd e hin,λ e=>by cases e⟩
  | true=>
   by_cases hl:p.Ao.length<32
   ·rw [A0c h hp hx t hat hin hl]
    exact c9 (.inr (Anv h hp hx hat hin hl))
   ·unfold Hc
    refine hsearch.bind λ y _=>cR (λ _=>c9 (.inl (by simp))) (λ _=>cR (λ _=>c9 (.inl (by simp))) (λ hc=>?_))
    simp [Qf] at hc;omega
def A2u:Ab:=⟨[],[],[],[]⟩
theorem Awc {b:Aa} (a:Am):Ok (zQ b a) λ y=>y=true->((a.Kind=1\/a.Kind=2)->B5 b ⟨2,a.Unit⟩)/\((a.Kind=3\/a.Kind=4)->B5 b ⟨1,a.Unit⟩)/\(a.Kind=5->B5 b ⟨4,a.Unit⟩)/\((a.Kind=8\/a.Kind=9)->B5 b ⟨a.Value,a.Unit⟩):=by
 unfold zQ
 refine Ok.andThen (A:=λ z=>z=true↔(a.Kind=1\/a.Kind=2)) (B:=λ (_:Unit)=>False) ?_ (λ z hz=>?_) (λ _ h=>h.elim)
 ·unfold zP
  refine cR (λ hk=>d9 ?_) (λ hk=>d9 ?_)
  ·simp only [dD] at hk ⊢;omega
  ·simp only [dE,ne_eq] at hk
   simp only [dD];omega
 refine cR (λ hq=>c9 λ hk=>?_) (λ hq=>?_)
 ·have:=hz.1 hq
  have hk:=(Mb b _ _).1 hk
  exact⟨λ _=>hk,λ e=>by omega,λ e=>by omega,λ e=>by omega⟩
 have hn12:¬(a.Kind=1\/a.Kind=2):=λ e=>by rw [hz.2 e] at hq;cases hq
 refine Ok.andThen (A:=λ z=>z=true↔(a.Kind=3\/a.Kind=4)) (B:=λ (_:Unit)=>False) ?_ (λ z hz=>?_) (λ _ h=>h.elim)
 ·unfold zO
  refine cR (λ hk=>d9 ?_) (λ hk=>d9 ?_)
  ·simp only [dD] at hk ⊢;omega
  ·simp only [dE,ne_eq] at hk
   simp only [dD];omega
 refine cR (λ hq=>c9 λ hk=>?_) (λ hq=>?_)
 ·have:=hz.1 hq
  have hk:=(Mb b _ _).1 hk
  exact⟨λ e=>by omega,λ _=>hk,λ e=>by omega,λ e=>by omega⟩
 have hn34:¬(a.Kind=3\/a.Kind=4):=λ e=>by rw [hz.2 e] at hq;cases hq
 refine cR (λ hq=>c9 λ hk=>?_) (λ hq5=>cR (λ hq=>c9 λ _=>?_) (λ hq6=>cR (λ hq=>c9 λ hk=>?_) (λ hq8=>cR (λ hq=>c9 λ hk=>?_) (λ hq9=>c9 λ _=>?_))))
 ·simp only [dD] at hq
  have hk:=(Mb b _ _).1 hk
  exact⟨λ e=>by omega,λ e=>by omega,λ _=>hk,λ e=>by omega⟩
 ·simp only [dD] at hq
  exact⟨λ e=>by omega,λ e=>by omega,λ e=>by omega,λ e=>by omega⟩
 ·have hk:=(Mb b _ _).1 hk
  simp only [dD] at hq
  exact⟨λ e=>by omega,λ e=>by omega,λ e=>by omega,λ _=>hk⟩
 ·have hk:=(Mb b _ _).1 hk
  simp only [dD] at hq
  exact⟨λ e=>by omega,λ e=>by omega,λ e=>by omega,λ _=>hk⟩
 ·simp only [dE,ne_eq] at hq5 hq8 hq9
  exact⟨λ e=>by omega,λ e=>by omega,λ e=>by omega,λ e=>by omega⟩
theorem A5y {b:Aa} (h:Av b) {p:Ab} (hp:Ax b p) {t:Int} (ht:0<=t/\t<=2147483648) {a:Am} (hk:1<=a.Kind/\a.Kind<=9)
  (hw:((a.Kind=1\/a.Kind=2)->B5 b ⟨2,a.Unit⟩)/\((a.Kind=3\/a.Kind=4)->B5 b ⟨1,a.Unit⟩)/\(a.Kind=5->B5 b ⟨4,a.Unit⟩)/\((a.Kind=8\/a.Kind=9)->B5 b ⟨a.Value,a.Unit⟩)):Ok (Mz ⟨b,p,t⟩ a) (Wa b):=by
 obtain⟨w1,w2,w3,w4⟩:=hw
 unfold B5 at w2 w3
 dsimp only at w2 w3
 unfold Mz
 refine cR (λ _=>(Aw4 h hp _).bind λ y hy=>c9 hy) (λ q1=>?_)
 refine cR (λ _=>(Azo h hp _).bind λ y hy=>c9 hy) (λ q2=>?_)
 refine cR (λ _=>(Av4 h hp _ _).bind λ y hy=>c9 hy) (λ q6=>?_)
 refine cR (λ q=>?_) (λ q3=>?_)
 ·simp only [dD] at q
  exact (Avh h hp ht (by omega) (by omega)).bind λ y hy=>c9 hy
 refine cR (λ q=>?_) (λ q4=>?_)
 ·simp only [dD] at q
  exact (Azd h hp (by omega) (by omega)).bind λ y hy=>c9 hy
 refine cR (λ q=>?_) (λ q5=>?_)
 ·simp only [dD] at q
  exact (Av9 hp (by omega) (by omega)).bind λ y hy=>c9 hy
 refine cR (λ _=>(Aj9 h hp t).bind λ y hy=>c9 (.inr hy)) (λ q7=>?_)
 simp only [dE,ne_eq] at q1 q2 q3 q4 q5 q6 q7
 exact (A0b h hp t (w4 (by omega)) _).bind λ y hy=>c9 hy
theorem A4h {b:Aa} (h:Av b) {p:Ab} (hp:Ax b p) (t:Int) (a:Am):Ok (F78 b p t a) λ y=>(y.2≠0/\y.1=A2u)\/(y.2=0/\Ax b y.1):=by
 unfold F78
 rw [Dj h hp,Du h hp]
 simp only [ac]
 refine cR (λ hc=>by simp at hc) (λ _=>cR (λ _=>c9 (.inl ⟨by simp,rfl⟩)) (λ hr=>?_))
 simp only [Aoa,bG,dC] at hr
 refine (Awc a).bind λ y hy=>cR (λ _=>c9 (.inl ⟨by simp,rfl⟩)) (λ hk=>?_)
 simp only [Bool.not_eq_false'] at hk
 refine (A5y h hp (by omega) (by omega) (hy hk)).bind λ z hz=>cR (λ hc=>c9 (.inl ⟨by simpa using hc,rfl⟩)) (λ hc=>?_)
 simp only [dG] at hc
 rcases hz with hz | hz
 ·exact absurd hc hz
 ·exact c9 (.inr ⟨rfl,hz⟩)
theorem A4q {b:Aa} (h:Av b) {s:Ah} (hs:Bq s):Ok (qM s b) λ y=>Bq y.2:=by
 have hbu:=h.buses
 have hbl:=h.brl
 have hso:=h.sol
 have hco:=h.col
 unfold qM
 refine (Hb hs 1 9 (by omega) (by omega) (by omega)).bind λ y hy=>?_
 refine Ok.andThen (A:=λ _=>True) (B:=λ (_:Unit)=>False) ?_ (λ z _=>?_) (λ _ h=>h.elim)
 ·unfold Yo
  exact cR (λ _=>d9 trivial) (λ _=>d9 trivial)
 refine cR (λ _=>?_) (λ _=>?_)
 ·exact (Ts hy.1 _ (by rw [A9 (by omega)];omega)).bind λ u hu=>c9 hu.1
 refine Ok.andThen (A:=λ _=>True) (B:=λ (_:Unit)=>False) ?_ (λ z _=>?_) (λ _ h=>h.elim)
 ·unfold Yn
  exact cR (λ _=>d9 trivial) (λ _=>d9 trivial)
 refine cR (λ _=>?_) (λ _=>cR (λ _=>?_) (λ _=>cR (λ _=>?_) (λ _=>cR (λ _=>?_) (λ _=>cR (λ _=>?_) (λ _=>c9 hy.1)))))
 ·exact (Ts hy.1 _ (by rw [A9 (by omega)];omega)).bind λ u hu=>c9 hu.1
 ·exact (Ts hy.1 _ (by rw [A9 (by omega)];omega)).bind λ u hu=>(Dw hu.1 _ (by simp) (by simp)).bind λ v hv=>c9 hv.1
 ·exact (Ts hy.1 _ (by rw [A9 (by omega)];omega)).bind λ u hu=>(Ts hu.1 _ (by rw [A9 (by omega)];omega)).bind λ v hv=>c9 hv.1
 ·exact (Hb hy.1 1 4 (by omega) (by omega) (by omega)).bind λ u hu=>(Ts hu.1 _ (by omega)).bind λ v hv=>c9 hv.1
 ·exact (Hb hy.1 1 4 (by omega) (by omega) (by omega)).bind λ u hu=>(Ts hu.1 _ (by omega)).bind λ v hv=>c9 hv.1
abbrev C5:=List (Aj×Bool)
def Tie (L:C5) (i j:Nat):Prop:=∃ z,z∈L/\z.1.Kind=1/\z.2=true/\((z.1.A.toNat=i/\z.1.B.toNat=j)\/(z.1.A.toNat=j/\z.1.B.toNat=i))
theorem Tie.symm {L:C5} {i j:Nat} (h:Tie L i j):Tie L j i:=by
 obtain⟨z,h1,h2,h3,h4⟩:=h
 exact⟨z,h1,h2,h3,h4.symm⟩
inductive C6 (L:C5) (i:Nat):Nat->Nat->Prop
 | refl:C6 L i 0 i
 | stay {r j:Nat}:C6 L i r j->C6 L i (r+1) j
 | step {r j k:Nat}:C6 L i r j->Tie L j k->C6 L i (r+1) k
def E0 (L:C5) (i j:Nat):Prop:=∃ r,C6 L i r j
theorem E0.refl (L:C5) (i:Nat):E0 L i i:=⟨0,.refl⟩
theorem E0.tie {L:C5} {i j k:Nat} (h:E0 L i j) (t:Tie L j k):E0 L i k:=by
 obtain⟨r,h⟩:=h;exact⟨r+1,h.step t⟩
theorem E0.trans {L:C5} {i j k:Nat} (h:E0 L i j) (h2:E0 L j k):E0 L i k:=by
 obtain⟨r,h2⟩:=h2
 induction h2 with
 | refl=>exact h
 | stay _ ih=>exact ih
 | step _ t ih=>exact ih.tie t
theorem E0.symm {L:C5} {i j:Nat} (h:E0 L i j):E0 L j i:=by
 obtain⟨r,h⟩:=h
 induction h with
 | refl=>exact .refl L i
 | stay _ ih=>exact ih
 | step _ t ih=>exact (E0.tie (.refl L _) t.symm).trans ih
theorem C6.le {L:C5} {i j r s:Nat} (h:C6 L i r j) (hs:r<=s):C6 L i s j:=by
 induction s with
 | zero=>
  have:r=0:=by omega
  subst this;exact h
 | succ s ih=>
  by_cases e:r=s+1
  ·subst e;exact h
  ·exact (ih (by omega)).stay
open Classical in
noncomputable def cn (p:Nat->Prop):Nat->Nat
 | 0=>0
 | n+1=>cn p n+if p n then 1 else 0
theorem Ayg (p:Nat->Prop):∀ n,cn p n<=n
 | 0=>an _
 | n+1=>by have:=Ayg p n;unfold cn;split <;> omega
theorem yE {p q:Nat->Prop}:∀ n,(∀ k,k<n->p k->q k)->cn p n<=cn q n
 | 0,_=>an _
 | n+1,h=>by
  have:=yE n λ k hk=>h k (by omega)
  have h1:=h n (by omega)
  unfold cn
  by_cases hp:p n
  ·rw [if_pos hp,if_pos (h1 hp)];omega
  ·rw [if_neg hp];split <;> omega
theorem An7 {p q:Nat->Prop}:∀ n,(∀ k,k<n->p k->q k)->cn p n=cn q n->∀ k,k<n->q k->p k
 | 0,_,_,k,hk,_=>by omega
 | n+1,h,e,k,hk,hq=>by
  have hm:=yE n λ k hk=>h k (by omega)
  have h1:=h n (by omega)
  unfold cn at e
  by_cases hp:p n
  ·rw [if_pos hp,if_pos (h1 hp)] at e
   by_cases ek:k=n
   ·subst ek;exact hp
   ·exact An7 n (λ k hk=>h k (by omega)) (by omega) k (by omega) hq
  ·rw [if_neg hp] at e
   by_cases hqn:q n
   ·rw [if_pos hqn] at e;omega
   ·rw [if_neg hqn] at e
    by_cases ek:k=n
    ·subst ek;exact absurd hq hqn
    ·exact An7 n (λ k hk=>h k (by omega)) (by omega) k (by omega) hq
def Acv (L:C5) (n:Nat):Prop:=∀ i j,Tie L i j->i<n/\j<n
theorem jH {L:C5} {n i j:Nat} (hL:Acv L n) (_:i<n) (h:E0 L i j):C6 L i n j:=by
 have hst:∃ r,r<=n/\∀ k,k<n->C6 L i (r+1) k->C6 L i r k:=by
  by_cases hex:∃ r,r<=n/\∀ k,k<n->C6 L i (r+1) k->C6 L i r k
  ·exact hex
  exfalso
  have hgrow:∀ r,r<=n->cn (C6 L i r) n<cn (C6 L i (r+1)) n:=by
   intro r hr
   have hm:=yE (p:=C6 L i r) (q:=C6 L i (r+1)) n λ k _ h=>h.stay
   rcases Nat.lt_or_eq_of_le hm with h | h
   ·exact h
   ·exact absurd ⟨r,hr,An7 n (λ k _ h=>h.stay) h⟩ hex
  have hge:∀ r,r<=n+1->r<=cn (C6 L i r) n:=by
   intro r
   induction r with
   | zero=>intro _;omega
   | succ r ih=>intro hr;have:=ih (by omega);have:=hgrow r (by omega);omega
  have h1:=hge (n+1) (an _)
  have h2:=Ayg (C6 L i (n+1)) n
  omega
 obtain⟨r,hr,hs⟩:=hst
 obtain⟨s,h⟩:=h
 have key:∀ s k,C6 L i s k->C6 L i r k:=by
  intro s k h
  induction h with
  | refl=>exact C6.refl.le (by omega)
  | stay _ ih=>exact ih
  | step h0 t ih=>exact hs _ (hL _ _ t).2 (ih.step t)
 exact (key s j h).le hr
def Ch (b:Aa) (p:Ab):C5:=b.Ad.zip p.Ag
theorem uG {b:Aa} (h:Av b) (p:Ab):Acv (Ch b p) b.An.toNat:=by
 rintro i j ⟨z,hz,hk,_,he⟩
 have:=h.br z.1 (ci hz).1
 unfold Q6 at this
 omega
theorem A2n {s:List Int} {i:Nat} (h:i<s.length):s[i]? = some (s.getD i 0):=by
 rw [ag h];simp [List.getD,List.getElem?_eq_getElem h]
theorem Sq {s:List Int} {z:Aj×Bool} {i:Nat} (hi:i<s.length):(Em s z).getD i 0=if (z.1.Kind=1/\z.2=true)/\(i=z.1.A.toNat\/i=z.1.B.toNat) then min (s.getD z.1.A.toNat 0) (s.getD z.1.B.toNat 0) else s.getD i 0:=by
 unfold Em
 by_cases hk:z.1.Kind=1/\z.2=true
 ·rw [if_pos hk]
  by_cases hB:i=z.1.B.toNat
  ·rw [if_pos ⟨hk,.inr hB⟩]
   simp [List.getD,←hB,hi]
  ·by_cases hA:i=z.1.A.toNat
   ·rw [if_pos ⟨hk,.inl hA⟩]
    have h1:¬z.1.B.toNat=i:=λ e=>hB e.symm
    simp only [List.getD,aV h1]
    rw [←hA,bK hi];rfl
   ·rw [if_neg (λ e=>e.2.elim hA hB)]
    have h1:¬z.1.B.toNat=i:=λ e=>hB e.symm
    have h2:¬z.1.A.toNat=i:=λ e=>hA e.symm
    simp only [List.getD,aV h1,aV h2]
 ·rw [if_neg hk,if_neg (λ e=>hk e.1)]
def Lab (L:C5) (s:List Int):Prop:=∀ i,i<s.length->E0 L (s.getD i 0).toNat i
theorem Asd {L:C5} {s:List Int} (h:Lab L s) {z:Aj×Bool} (hz:z∈L) (hr:z.1.Kind=1->z.1.A.toNat<s.length/\z.1.B.toNat<s.length):Lab L (Em s z):=by
 intro i hi
 rw [D5] at hi
 rw [Sq hi]
 split
 ·rename_i hc
  obtain⟨⟨hk,hv⟩,hab⟩:=hc
  obtain⟨ha,hb⟩:=hr hk
  have tAB:Tie L z.1.A.toNat z.1.B.toNat:=⟨z,hz,hk,hv,.inl ⟨rfl,rfl⟩⟩
  have c1:=h _ ha
  have c2:=h _ hb
  rcases Int.le_total (s.getD z.1.A.toNat 0) (s.getD z.1.B.toNat 0) with e | e
  ·rw [Int.min_eq_left e]
   rcases hab with rfl | rfl
   ·exact c1
   ·exact c1.tie tAB
  ·rw [Int.min_eq_right e]
   rcases hab with rfl | rfl
   ·exact c2.tie tAB.symm
   ·exact c2
 ·exact h i hi
theorem P7 {L:C5} {n:Nat}:∀ (l:C5) (s:List Int),s.length=n->(∀ z,z∈l->z∈L/\(z.1.Kind=1->z.1.A.toNat<n/\z.1.B.toNat<n))->Lab L s->Lab L (C3 l s)
 | [],_,_,_,h=>h
 | z::l,s,hs,hz,h=>P7 l (Em s z) (by rw [D5];exact hs) (λ y hy=>hz y (ai _ hy)) (Asd h (hz z aj).1 (by rw [hs];exact (hz z aj).2))
theorem Sr {s:List Int} (z:Aj×Bool) {i:Nat} (hi:i<s.length):(Em s z).getD i 0<=s.getD i 0:=by
 rw [Sq hi]
 split
 ·rename_i hc
  rcases hc.2 with rfl | rfl
  ·exact Int.min_le_left _ _
  ·exact Int.min_le_right _ _
 ·exact Int.le_refl _
theorem P8:∀ (l:C5) (s:List Int) {i:Nat},i<s.length->(C3 l s).getD i 0<=s.getD i 0
 | [],_,_,_=>Int.le_refl _
 | z::l,s,i,hi=>Int.le_trans (P8 l (Em s z) (by rw [D5];exact hi)) (Sr z hi)
theorem Z4:∀ (l:C5) (s:List Int) {z:Aj×Bool},z∈l->z.1.Kind=1->z.2=true->z.1.A.toNat<s.length->z.1.B.toNat<s.length->∀ i,i=z.1.A.toNat\/i=z.1.B.toNat->(C3 l s).getD i 0<=min (s.getD z.1.A.toNat 0) (s.getD z.1.B.toNat 0)
 | [],_,_,h,_,_,_,_,_,_=>by cases h
 | y::l,s,z,hz,hk,hv,ha,hb,i,hi=>by
  show (C3 l (Em s y)).getD i 0<=_
  have hil:i<s.length:=by rcases hi with rfl | rfl <;> assumption
  by_cases e:z=y
  ·subst e
   refine Int.le_trans (P8 l _ (by rw [D5];exact hil)) ?_
   rw [Sq hil,if_pos ⟨⟨hk,hv⟩,hi⟩]
   exact Int.le_refl _
  ·have hz':z∈l:=by
    rcases ah.1 hz with h | h
    ·exact absurd h e
    ·exact h
   refine Int.le_trans (Z4 l (Em s y) hz' hk hv (by rw [D5];exact ha) (by rw [D5];exact hb) i hi) ?_
   have h1:=Sr y ha
   have h2:=Sr y hb
   omega
theorem Kf {n i:Nat} (h:i<n):(Ci n).getD i 0=(i:Int):=by
 simp [Ci,List.getD,List.getElem?_range h]
theorem Anq {L:C5} {n:Nat} (hL:Acv L n):∀ r i j,i<n->j<n->C6 L j r i->((List.range r).foldl (λ s _=>C3 L s) (Ci n)).getD i 0<=(j:Int):=by
 intro r
 have hlen:∀ r,((List.range r).foldl (λ s _=>C3 L s) (Ci n)).length=n:=by
  intro r
  induction r with
  | zero=>simp [Ci]
  | succ r ih=>rw [cj,aX];simp only [bQ,List.foldl_nil,E8];exact ih
 induction r with
 | zero=>
  intro i j hi hj h
  cases h
  show (Ci n).getD i 0<=_
  rw [Kf hi]
  exact Int.le_refl _
 | succ r ih=>
  intro i j hi hj h
  have hrl:=hlen r
  rw [cj,aX]
  simp only [bQ,List.foldl_nil]
  generalize (List.range r).foldl (λ s _=>C3 L s) (Ci n)=s at *
  cases h with
  | stay h=>exact Int.le_trans (P8 L s (by omega)) (ih i j hi hj h)
  | step h t=>
   rename_i k
   have hk:=hL _ _ t
   have h1:=ih k j hk.1 hj h
   obtain⟨z,hz,hz1,hz2,he⟩:=t
   have hA:z.1.A.toNat<s.length:=by omega
   have hB:z.1.B.toNat<s.length:=by omega
   have h2:=Z4 L s hz hz1 hz2 hA hB i (by omega)
   rcases he with⟨e1,e2⟩ | ⟨e1,e2⟩
   ·rw [e1] at h2;omega
   ·rw [e2] at h2;omega
theorem K_ {b:Aa} (h:Av b) (p:Ab) {i j:Nat} (hi:i<b.An.toNat) (hj:j<b.An.toNat):(A8 b p).getD i 0=(A8 b p).getD j 0↔E0 (Ch b p) i j:=by
 have hL:=uG h p
 have hlen:=H8 b p
 have hlab:Lab (Ch b p) (A8 b p):=by
  have hz:∀ z,z∈Ch b p->z∈Ch b p/\(z.1.Kind=1->z.1.A.toNat<b.An.toNat/\z.1.B.toNat<b.An.toNat):=by
   intro z hz
   refine⟨hz,λ hk=>?_⟩
   have:=h.br z.1 (ci hz).1
   unfold Q6 at this
   omega
  have key:∀ (xs:List Nat) (s:List Int),s.length=b.An.toNat->Lab (Ch b p) s->Lab (Ch b p) (xs.foldl (λ s _=>C3 (b.Ad.zip p.Ag) s) s):=by
   intro xs
   induction xs with
   | nil=>intro s _ h;exact h
   | cons x xs ih=>intro s hl h;exact ih _ (by rw [E8];exact hl) (P7 _ s hl hz h)
  refine key _ _ (by simp [Ci]) ?_
  intro k hk
  have hk':k<b.An.toNat:=by simpa [Ci] using hk
  rw [Kf hk']
  exact .refl _ k
 have hlow:∀ i j,i<b.An.toNat->j<b.An.toNat->E0 (Ch b p) j i->(A8 b p).getD i 0<=(j:Int):=λ i j hi hj hc=>Anq hL _ i j hi hj (jH hL hj hc)
 have hlo:=Ss h p
 have hrange:∀ i,i<b.An.toNat->0<=(A8 b p).getD i 0/\((A8 b p).getD i 0).toNat<b.An.toNat:=by
  intro i hi
  have:=hlo i _ (A2n (by omega))
  omega
 constructor
 ·intro e
  have c1:=hlab i (by omega)
  have c2:=hlab j (by omega)
  rw [e] at c1
  exact c1.symm.trans c2
 ·intro hc
  have r1:=hrange i hi
  have r2:=hrange j hj
  have c1:=hlab i (by omega)
  have c2:=hlab j (by omega)
  have l1:=hlow j _ hj r1.2 (c1.trans hc)
  have l2:=hlow i _ hi r2.2 (c2.trans hc.symm)
  omega
def Fl (s:List Bool) (z:Aj×Bool):List Bool:=
 if (z.1.Kind=1/\z.2=true)/\(s.getD z.1.A.toNat false || s.getD z.1.B.toNat false)=true then (s.set z.1.A.toNat true).set z.1.B.toNat true else s
theorem Ew (s:List Bool) (z:Aj×Bool):(Fl s z).length=s.length:=by unfold Fl;split <;> simp
def Gc (L:C5) (s:List Bool):List Bool:=L.foldl Fl s
theorem Kt:∀ (l:C5) (s:List Bool),(Gc l s).length=s.length
 | [],_=>rfl
 | z::l,s=>by show (Gc l (Fl s z)).length=_;rw [Kt l,Ew]
theorem Avn {s:List Bool} {m i:Nat} (hi:i<s.length):(s.set m true).getD i false=(decide (m=i) || s.getD i false):=by
 by_cases e:m=i
 ·subst e;simp [List.getD,hi]
 ·simp [List.getD,List.getElem?_set_ne e,e]
theorem Kd {s:List Bool} {z:Aj×Bool} {i:Nat} (hi:i<s.length):(Fl s z).getD i false=true↔s.getD i false=true\/(((z.1.Kind=1/\z.2=true)/\(s.getD z.1.A.toNat false || s.getD z.1.B.toNat false)=true)/\(i=z.1.A.toNat\/i=z.1.B.toNat)):=by
 unfold Fl
 split
 ·rename_i hc
  rw [Avn (by simpa using hi),Avn hi,aO,aO,decide_eq_true_iff,decide_eq_true_iff]
  constructor
  ·rintro (e | e | e)
   ·exact .inr ⟨hc,.inr e.symm⟩
   ·exact .inr ⟨hc,.inl e.symm⟩
   ·exact .inl e
  ·rintro (e | ⟨_,e | e⟩)
   ·exact .inr (.inr e)
   ·exact .inr (.inl e.symm)
   ·exact .inl e.symm
 ·rename_i hc
  exact⟨.inl,λ e=>e.elim id λ e=>absurd e.1 hc⟩
def Got (L:C5) (n:Nat) (s:List Bool):Prop:=∀ i,i<s.length->s.getD i false=true->E0 L n i
theorem Arl {L:C5} {n:Nat} {s:List Bool} (h:Got L n s) {z:Aj×Bool} (hz:z∈L) (hr:z.1.Kind=1->z.1.A.toNat<s.length/\z.1.B.toNat<s.length):Got L n (Fl s z):=by
 intro i hi e
 rw [Ew] at hi
 rcases (Kd hi).1 e with e | ⟨⟨⟨hk,hv⟩,ho⟩,hab⟩
 ·exact h i hi e
 ·obtain⟨ha,hb⟩:=hr hk
  have t:Tie L z.1.A.toNat z.1.B.toNat:=⟨z,hz,hk,hv,.inl ⟨rfl,rfl⟩⟩
  simp only [aO] at ho
  rcases ho with ho | ho
  ·have c:=h _ ha ho
   rcases hab with rfl | rfl
   ·exact c
   ·exact c.tie t
  ·have c:=h _ hb ho
   rcases hab with rfl | rfl
   ·exact c.tie t.symm
   ·exact c
theorem Zg {L:C5} {n m:Nat}:∀ (l:C5) (s:List Bool),s.length=m->(∀ z,z∈l->z∈L/\(z.1.Kind=1->z.1.A.toNat<m/\z.1.B.toNat<m))->Got L n s->Got L n (Gc l s)
 | [],_,_,_,h=>h
 | z::l,s,hs,hz,h=>Zg l (Fl s z) (by rw [Ew];exact hs) (λ y hy=>hz y (ai _ hy)) (Arl h (hz z aj).1 (by rw [hs];exact (hz z aj).2))
theorem Pt:∀ (l:C5) (s:List Bool) {i:Nat},i<s.length->s.getD i false=true->(Gc l s).getD i false=true
 | [],_,_,_,h=>h
 | z::l,s,_,hi,h=>Pt l (Fl s z) (by rw [Ew];exact hi) ((Kd hi).2 (.inl h))
theorem Zf:∀ (l:C5) (s:List Bool) {z:Aj×Bool},z∈l->z.1.Kind=1->z.2=true->z.1.A.toNat<s.length->z.1.B.toNat<s.length->(s.getD z.1.A.toNat false || s.getD z.1.B.toNat false)=true->∀ i,i=z.1.A.toNat\/i=z.1.B.toNat->(Gc l s).getD i false=true
 | [],_,_,h,_,_,_,_,_,_,_=>by cases h
 | y::l,s,z,hz,hk,hv,ha,hb,ho,i,hi=>by
  show (Gc l (Fl s y)).getD i false=true
  have hil:i<s.length:=by rcases hi with rfl | rfl <;> assumption
  by_cases e:z=y
  ·subst e
   exact Pt l _ (by rw [Ew];exact hil) ((Kd hil).2 (.inr ⟨⟨⟨hk,hv⟩,ho⟩,hi⟩))
  ·have hz':z∈l:=by
    rcases ah.1 hz with h | h
    ·exact absurd h e
    ·exact h
   refine Zf l (Fl s y) hz' hk hv (by rw [Ew];exact ha) (by rw [Ew];exact hb) ?_ i hi
   simp only [aO] at ho ⊢
   exact ho.imp (λ e=>(Kd ha).2 (.inl e)) (λ e=>(Kd hb).2 (.inl e))
def Ke (L:C5) (r:Nat) (s:List Bool):List Bool:=(List.range r).foldl (λ s _=>Gc L s) s
theorem J6 (L:C5) (r:Nat) (s:List Bool):Ke L (r+1) s=Gc L (Ke L r s):=by
 unfold Ke;rw [cj,aX];rfl
theorem Hd (L:C5) (s:List Bool):∀ r,(Ke L r s).length=s.length
 | 0=>rfl
 | r+1=>by rw [J6,Kt,Hd L s r]
theorem Amy {L:C5} {n m:Nat} (hL:Acv L m) {s:List Bool} (hs:s.length=m) (hn:s.getD n false=true):∀ r i,i<m->C6 L n r i->(Ke L r s).getD i false=true:=by
 intro r
 induction r with
 | zero=>intro i _ h;cases h;exact hn
 | succ r ih=>
  intro i hi h
  rw [J6]
  have hl:=Hd L s r
  cases h with
  | stay h=>exact Pt L _ (by omega) (ih i hi h)
  | step h t=>
   rename_i k
   have hk:=hL _ _ t
   have h1:=ih k hk.1 h
   obtain⟨z,hz,hz1,hz2,he⟩:=t
   refine Zf L _ hz hz1 hz2 (by omega) (by omega) ?_ i (by omega)
   rcases he with⟨e1,_⟩ | ⟨_,e2⟩
   ·rw [e1,h1];rfl
   ·rw [e2,h1];simp
def I4 (b:Aa) (p:Ab) (n:Nat):List Int:=((List.range b.An.toNat).filter λ i=>(A8 b p).getD i 0==(A8 b p).getD n 0).map λ (i:Nat)=>(i:Int)
theorem Avq {b:Aa} (h:Av b) {p:Ab} (hp:Ax b p) {n:Nat} (hn:n<b.An.toNat):Aja b p (n:Int)=some (I4 b p n):=by
 have hbu:=h.buses
 have hbl:=h.brl
 have hncl:=hp.ncl
 have hL:=uG h p
 refine d7 ?_
 unfold Aja
 refine (Ok.mkI (by omega) (by omega)).bind λ y hy=>?_
 have hyl:y.length=b.An.toNat:=by rw [hy];simp
 refine (db (by omega) (by omega)).bind λ _ _=>(d4 (by omega) (by omega)).bind λ z hz=>?_
 rw [aF] at hz
 have hzl:z.length=b.An.toNat:=by rw [hz];simpa using hyl
 have hzn:z.getD n false=true:=by rw [hz];simp [List.getD,hyl,hn]
 have hzg:Got (Ch b p) n z:=by
  intro i hi e
  have hiy:i<y.length:=by omega
  rw [hz,Avn hiy] at e
  simp only [aO,dA] at e
  rcases e with e | e
  ·subst e;exact .refl _ _
  ·rw [hy] at e;simp [List.getD,show i<b.An.toNat by omega] at e
 clear hz
 refine Ok.andThen (A:=λ s=>s=Ke (Ch b p) b.An.toNat z) (B:=λ (_:Unit)=>False) ?_ (λ s hs=>?_) (λ _ h=>h.elim)
 ·refine cT (I:=λ j s=>s=Ke (Ch b p) j z) rfl (λ j x s hx hs=>?_) λ s hs=>by rw [hs,hzl]
  unfold zE
  have hsl:s.length=b.An.toNat:=by rw [hs,Hd,hzl]
  refine (cT (I:=λ k r=>r=Gc ((Ch b p).take k) s) (A:=λ r=>r=Gc (Ch b p) s) (B:=λ (_:Unit)=>False) rfl (λ k u r hu hr=>?_) λ r hr=>?_).inner (λ r hr=>cS (by rw [hr,hs,J6])) (λ _ h=>h.elim)
  ·have hk:=(aa.1 hu).1
   have hcnt:cnt 0 k=(k:Int):=Cv (by omega)
   have hrl:r.length=b.An.toNat:=by rw [hr,Kt,hsl]
   obtain⟨⟨a0,a1⟩,hkind⟩:=h.br u (af hu)
   obtain⟨v,hv⟩:∃ v,p.Ag[k]? = some v:=⟨_,ag (by omega)⟩
   have hzk:(Ch b p)[k]? = some (u,v):=by unfold Ch;rw [List.getElem?_zip_eq_some];exact⟨hu,hv⟩
   have hnext:Gc ((Ch b p).take (k+1)) s=Fl r (u,v):=by
    rw [Bi hzk,Gc,aX,hr];rfl
   rw [hnext]
   have hB:u.Kind=1->0<=u.B/\u.B<b.An:=λ e=>by omega
   unfold zD
   rw [hcnt,Bj hv]
   by_cases k1:u.Kind=1
   ·have h2:=hB k1
    obtain⟨ga,hga⟩:∃ ga,r[u.A.toNat]? = some ga:=⟨_,ag (by omega)⟩
    obtain⟨gb,hgb⟩:∃ gb,r[u.B.toNat]? = some gb:=⟨_,ag (by omega)⟩
    have hda:r.getD u.A.toNat false=ga:=by simp [List.getD,hga]
    have hdb:r.getD u.B.toNat false=gb:=by simp [List.getD,hgb]
    have ea:getI r u.A=some ga:=by have:=Bj hga;rwa [bP a0] at this
    have eb:getI r u.B=some gb:=by have:=Bj hgb;rwa [bP h2.1] at this
    rw [dD.2 k1]
    refine Ok.bind (P:=λ w=>w=v) (cX (λ _=>c9 rfl) λ hn=>(hn ⟨rfl,trivial⟩).elim) λ w hw=>?_
    subst hw
    cases w with
    | false=>
     refine Ok.bind (P:=λ _=>True) (de (λ _=>db a0 (by omega)) λ _=>trivial) λ _ _=>?_
     refine Ok.bind (P:=λ _=>True) (de (λ _=>db h2.1 (by omega)) λ _=>trivial) λ _ _=>?_
     refine cR (λ hq=>by simp [Tg] at hq) (λ _=>cS ?_)
     unfold Fl
     rw [if_neg (by simp)]
    | true=>
     rw [ea,eb]
     refine Ok.bind (P:=λ w=>w=ga) (cX (λ _=>c9 rfl) λ hn=>(hn ⟨rfl,trivial⟩).elim) λ w hw=>?_
     subst hw
     refine Ok.bind (P:=λ x=>(w || x)=(w || gb)) (cX (λ _=>c9 rfl) λ hn=>?_) λ x hx=>?_
     ·cases w with
      | true=>rfl
      | false=>exact (hn ⟨rfl,rfl,trivial⟩).elim
     have hc8:Tg u true w x=(w || gb):=by
      unfold Tg
      rw [hx,dD.2 k1];rfl
     rw [hc8]
     refine cR (λ hq=>?_) (λ hq=>cS ?_)
     ·refine Ok.bind (P:=λ _=>True) (dg rfl) λ _ _=>(d4 a0 (by omega)).bind λ r1 e1=>?_
      refine (db h2.1 (by rw [e1];simp;omega)).bind λ _ _=>(d4 h2.1 (by rw [e1];simp;omega)).bind λ r2 e2=>cS ?_
      rw [e2,e1]
      unfold Fl
      rw [if_pos ⟨⟨k1,rfl⟩,by rw [hda,hdb];exact hq⟩]
     ·unfold Fl
      rw [if_neg (λ e=>by have:=e.2;rw [hda,hdb,hq] at this;cases this)]
   ·have k0:(u.Kind==1)=false:=dE.2 k1
    rw [k0]
    refine Ok.bind (P:=λ _=>True) (cX (λ hg=>absurd hg.1 (by simp)) λ _=>trivial) λ y7 _=>?_
    refine Ok.bind (P:=λ _=>True) (cX (λ hg=>absurd hg.1 (by simp)) λ _=>trivial) λ y9 _=>?_
    refine Ok.bind (P:=λ _=>True) (cX (λ hg=>absurd hg.1 (by simp)) λ _=>trivial) λ y11 _=>?_
    refine cR (λ hq=>by simp [Tg,k0] at hq) (λ _=>cS ?_)
    unfold Fl
    rw [if_neg (λ e=>k1 e.1.1)]
  ·have:b.Ad.length=(Ch b p).length:=by unfold Ch;rw [List.length_zip];omega
   rw [hr,this,aG]
 ·have hsl:s.length=b.An.toNat:=by rw [hs,Hd,hzl]
  have hval:∀ i,i<b.An.toNat->s.getD i false=((A8 b p).getD i 0==(A8 b p).getD n 0):=by
   intro i hi
   rw [bW,dD,K_ h p hi hn]
   have hg:∀ r,Got (Ch b p) n (Ke (Ch b p) r z):=by
    intro r
    induction r with
    | zero=>exact hzg
    | succ r ih=>
     rw [J6]
     refine Zg (m:=b.An.toNat) _ _ (by rw [Hd,hzl]) (λ y hy=>⟨hy,λ hk=>?_⟩) ih
     have:=h.br y.1 (ci hy).1
     unfold Q6 at this
     omega
   constructor
   ·intro e
    rw [hs] at e
    exact (hg _ i (by rw [Hd,hzl];exact hi) e).symm
   ·intro c
    rw [hs]
    exact Amy hL hzl hzn _ i hi (jH hL hn c.symm)
  refine Ok.andThen (A:=λ y=>y=I4 b p n) (B:=λ (_:Unit)=>False) ?_ (λ y hy=>c9 hy) (λ _ h=>h.elim)
  refine cT (I:=λ j y=>y=((List.range j).filter λ i=>(A8 b p).getD i 0==(A8 b p).getD n 0).map λ (i:Nat)=>(i:Int)) rfl (λ j x y hx hy=>?_) λ y hy=>?_
  ·have hj:=(aa.1 hx).1
   have hcnt:cnt 0 j=(j:Int):=Cv (by omega)
   have hv:=hval j (by omega)
   have hxd:s.getD j false=x:=by simp [List.getD,hx]
   rw [hxd] at hv
   have hyl2:y.length<=j:=by rw [hy];exact C9 _ j
   rw [Fd,←hy]
   unfold zC
   refine cR (λ hq=>?_) (λ hq=>cS ?_)
   ·refine (cW (by simp;omega)).bind λ w hw=>cS ?_
    rw [hw,hcnt,if_pos (by rw [←hv];exact hq)]
   ·rw [if_neg (by rw [←hv,hq];simp),aW]
  ·rw [hy,hsl];rfl
def ofZ (b:Aa) (k i:Int):List (Aj×Nat):=b.Ad.zipIdx.filter λ z=>z.1.Kind==k&&z.1.B==i
theorem Am7 {b:Aa} {k:Int} (hk:k≠1) (i:Int):(ofL b λ x=>Lc k i x)=(ofZ b k i).map λ z=>(z.2:Int):=by
 unfold ofL ofZ
 congr 1
 exact List.filter_congr λ z _=>Avs k hk i z.1
theorem U7 {b:Aa} {k i:Int} {z:Aj×Nat} (h:z∈ofZ b k i):b.Ad[z.2]? = some z.1:=by
 have:=(aD.1 h).1
 rwa [cP] at this
theorem Ada (q:Aj->Bool) (C:List Bool):∀ (l:List Aj) (c:List Bool) (k:Nat),C.drop k=c->l.length=c.length ->
  (((l.zipIdx k).filter λ z=>q z.1).find? λ z=>C.getD z.2 false).map (·.1)=((l.zip c).find? λ z=>q z.1&&z.2).map (·.1)
 | [],_,_,_,_=>by simp
 | x::l,[],_,_,h=>by simp at h
 | x::l,v::c,k,hd,h=>by
  have hv:C[k]? = some v:=by
   have:=congrArg (·[0]?) hd
   simpa [List.getElem?_drop] using this
  have hd':C.drop (k+1)=c:=by rw [←bV,hd];rfl
  have ih:=Ada q C l c (k+1) hd' (by simpa using h)
  have hg:C.getD k false=v:=by simp [List.getD,hv]
  simp only [List.zipIdx_cons,bp,bJ,cJ]
  cases hq:q x with
  | false=>simpa only [Bool.false_and,bU,if_false] using ih
  | true=>
   simp only [if_true,cJ,hg,bk]
   cases v with
   | false=>exact ih
   | true=>rfl
theorem Afs {b:Aa} {p:Ab} (hc:p.Ag.length=b.Ad.length) (k i:Int):Ee b p k i=((ofZ b k i).find? λ z=>p.Ag.getD z.2 false).map (·.1.A):=by
 have:=Ada (λ x=>x.Kind==k&&x.B==i) p.Ag b.Ad p.Ag 0 rfl (by omega)
 unfold Ee ofZ
 have h2:=congrArg (Option.map (·.A)) this
 simp only [Option.map_map] at h2
 exact h2.symm
theorem jJ {b:Aa} {p:Ab} (hc:p.Ag.length=b.Ad.length) {k i:Int} {z:Aj×Nat} (h:z∈ofZ b k i):p.Ag[z.2]? = some (p.Ag.getD z.2 false):=by
 have:=(aa.1 (U7 h)).1
 rw [ag (by omega)]
 simp [List.getD,List.getElem?_eq_getElem (show z.2<p.Ag.length by omega)]
theorem yD {b:Aa} (h:Av b) {p:Ab} (hp:Ax b p) (i:Int):Ai9 b p i=some (Fw (D7 b p i)):=by
 have hn:=hp.nso
 have hc:=hp.ncl
 refine d7 ?_
 unfold Ai9
 rw [L8 h hp]
 simp only [ac]
 by_cases hi:0<=i/\i<b.Ac.length
 ·obtain⟨x,hx⟩:∃ x,p.Ac[i.toNat]? = some x:=⟨_,ag (by omega)⟩
  have hg:getI p.Ac i=some x:=by have:=Bj hx;rwa [bP hi.1] at this
  have hd:p.Ac.getD i.toNat default=x:=by simp [List.getD,hx]
  have hcond:((((0:Int) != 0) || (decide (i<0))) || (decide (i>=(b.Ac.length:Int))))=false:=by
   rw [cK];intro e;simp at e;omega
  rw [hcond,hg]
  refine Ok.bind (P:=λ y=>y=x) (cX (λ _=>c9 rfl) λ hn=>(hn ⟨rfl,trivial⟩).elim) λ y hy=>?_
  subst hy
  refine cR (λ hq=>c9 ?_) (λ hq=>?_)
  ·simp only [jP,hcond,bh,bne_iff_ne,ne_eq] at hq
   unfold D7
   rw [if_neg (λ e=>by rw [hd] at e;exact hq e.2.2)];rfl
  ·simp only [jP,hcond,bh,dG] at hq
   have hcon:D7 b p i=Ee b p 2 i:=by
    unfold D7
    rw [if_pos ⟨hi.1,by omega,by rw [hd];exact hq⟩]
   rw [Afe h,Am7 (by decide),hcon,Afs hc]
   simp only [ac]
   obtain⟨n,rfl⟩:∃ n:Nat,i=(n:Int):=⟨i.toNat,by omega⟩
   have hlen:=vD (b:=b) (k:=2) (by decide) n
   rw [Am7 (by decide),h.one n (by omega),au] at hlen
   obtain⟨z,hz⟩:=List.length_eq_one_iff.1 hlen
   have hzm:z∈ofZ b 2 (n:Int):=by rw [hz];exact aj
   have hcz:=jJ hc hzm
   have hbz:=U7 hzm
   rw [hz]
   show Ok ((getI [(z.2:Int)] 0).bind _) _
   rw [show getI [(z.2:Int)] 0=some (z.2:Int) from rfl]
   simp only [ac,Bj hcz,cJ,List.find?_nil]
   cases hv:p.Ag.getD z.2 false with
   | false=>exact c9 rfl
   | true=>
    simp only [bj,cond_false,Bj hbz,ac]
    exact c9 rfl
 ·refine Ok.bind (P:=λ _=>True) (cX (λ hg=>?_) λ _=>trivial) λ y _=>?_
  ·have:=hg.1
   simp at this;omega
  refine cR (λ hq=>c9 ?_) (λ hq=>?_)
  ·unfold D7
   rw [if_neg (λ e=>hi (by omega))];rfl
  ·simp [jP] at hq;omega
theorem Awu {b:Aa} (h:Av b) {p:Ab} (hp:Ax b p) {i:Int} (h0:0<=i) (h1:i<b.Ae.length):Ai8 b p i=some (Fw (Ee b p 3 i)):=by
 have hc:=hp.ncl
 refine d7 ?_
 unfold Ai8
 rw [L8 h hp]
 simp only [ac]
 refine cR (λ hq=>?_) (λ _=>?_)
 ·simp [Atf] at hq;omega
 rw [Afe h,Am7 (by decide),Afs hc]
 simp only [ac]
 have key:∀ (m:List (Aj×Nat)) (k:Nat),(∀ z,z∈m->b.Ad[z.2]? = some z.1/\p.Ag[z.2]? = some (p.Ag.getD z.2 false)) ->
   foldI (V4 b p) (m.map λ z=>(z.2:Int)) k ()=match m.find? λ z=>p.Ag.getD z.2 false with
    | some z=>some (.ret (z.1.A,true))
    | none=>some (.next ()):=by
  intro m
  induction m with
  | nil=>intro k _;rfl
  | cons z m ih=>
   intro k hm
   obtain⟨e1,e2⟩:=hm z aj
   simp only [bO,foldI,V4,Bj e1,Bj e2,ac,cJ]
   cases p.Ag.getD z.2 false with
   | true=>rfl
   | false=>exact ih (k+1) λ y hy=>hm y (ai _ hy)
 rw [key _ 0 λ z hz=>⟨U7 hz,jJ hc hz⟩]
 cases (ofZ b 3 i).find? λ z=>p.Ag.getD z.2 false with
 | none=>exact c9 rfl
 | some z=>exact c9 rfl
theorem Asb (l:List Int) (x:Int):zA l x=some (l.any (· == x)):=by
 unfold zA
 have:∀ (l:List Int) (k:Nat),foldI (V5 x) l k ()=bif l.any (· == x) then some (.ret true) else some (.next ()):=by
  intro l
  induction l with
  | nil=>intro k;rfl
  | cons y l ih=>
   intro k
   simp only [foldI,V5,List.any_cons]
   cases hy:(y==x) with
   | true=>rfl
   | false=>simp only [cond_false,bh];exact ih (k+1)
 rw [this]
 cases l.any (· == x) <;> rfl
theorem Aei {b:Aa} {p:Ab} {n:Nat} {a:Int} (h0:0<=a) (h1:a<b.An):(I4 b p n).any (· == a)=((A8 b p).getD a.toNat 0==(A8 b p).getD n 0):=by
 rw [bW,List.any_eq_true]
 constructor
 ·rintro⟨x,hx,e⟩
  rw [dD] at e;subst e
  obtain⟨i,hi,rfl⟩:=am.1 hx
  rw [aF]
  exact (aD.1 hi).2
 ·intro e
  refine⟨a,am.2 ⟨a.toNat,aD.2 ⟨aZ.2 (by omega),e⟩,by omega⟩,by simp⟩
theorem G9 {b:Aa} (h:Av b) (p:Ab) {n:Nat} (hn:n<b.An.toNat):0<=(A8 b p).getD n 0/\((A8 b p).getD n 0).toNat<=n/\(((A8 b p).getD n 0).toNat:Int)=(A8 b p).getD n 0:=by
 have:=Ss h p n _ (A2n (by rw [H8];exact hn))
 omega
theorem Azr {b:Aa} (h:Av b) {p:Ab} (hp:Ax b p) {n:Nat} (hn:n<b.An.toNat):Aji b p (n:Int)=some (isl b p ((A8 b p).getD n 0).toNat,true):=by
 have hso:=h.sol
 have hco:=h.col
 have hg:=G9 h p hn
 refine d7 ?_
 unfold Aji
 rw [L8 h hp]
 simp only [ac]
 refine cR (λ hc=>?_) (λ _=>?_)
 ·simp [Ato] at hc;omega
 rw [Avq h hp hn]
 simp only [ac]
 refine Ok.andThen (A:=λ s=>s.2=Fa b p b.Ac.length ((A8 b p).getD n 0).toNat) (B:=λ (_:Unit)=>False) ?_ (λ s hs=>?_) (λ _ h=>h.elim)
 ·refine cU (λ s=>(0<=s.1/\s.1<=(b.Ac.length:Int))/\s.2=Fa b p s.1.toNat ((A8 b p).getD n 0).toNat) (λ s=>((b.Ac.length:Int)-s.1).toNat) _ _ ?_ ?_ ?_
  ·exact⟨by dsimp only;omega,rfl⟩
  ·dsimp only;omega
  ·rintro⟨i,s⟩ ⟨⟨g1,g2⟩,g3⟩
   dsimp only at g1 g2 g3
   unfold zN Atn
   dsimp only
   have hsl:s.length<=i.toNat:=by rw [g3];exact C9 _ _
   refine cR (λ hq=>?_) (λ hq=>d8 ?_)
   ·simp only [dA] at hq
    have e1:w64 (i+1)=i+1:=A9 (by omega)
    have e2:(i+1).toNat=i.toNat+1:=by omega
    have e3:((i.toNat:Nat):Int)=i:=by omega
    rw [e1,yD h hp]
    simp only [ac,Asb]
    have hnext:Fa b p (i.toNat+1) ((A8 b p).getD n 0).toNat=s++if (Fc b p (D7 b p i)==some (((A8 b p).getD n 0).toNat:Int))=true then [i] else []:=by
     unfold Fa at g3 ⊢
     rw [Fd,←g3,e3]
    have hskip:(Fc b p (D7 b p i)==some (((A8 b p).getD n 0).toNat:Int))=false->Ok (some (.next (i+1,s)):Option (Ctl (Int×List Int) Unit)) (Gq (λ s'=>((0<=s'.1/\s'.1<=(b.Ac.length:Int))/\s'.2=Fa b p s'.1.toNat ((A8 b p).getD n 0).toNat)/\((b.Ac.length:Int)-s'.1).toNat<((b.Ac.length:Int)-i).toNat) (λ s=>s.2=Fa b p b.Ac.length ((A8 b p).getD n 0).toNat) (λ _=>False)):=by
     intro hf
     refine cS ⟨⟨by dsimp only;omega,?_⟩,by dsimp only;omega⟩
     dsimp only
     rw [e2,hnext,hf];simp
    cases hco:D7 b p i with
    | none=>
     refine Ok.bind (P:=λ _=>True) (cX (λ hg=>absurd hg.1 (by simp [Fw])) λ _=>trivial) λ y _=>?_
     refine cR (λ hq=>by simp [Fw] at hq) (λ _=>hskip (by rw [hco];rfl))
    | some a=>
     have ha:=Mq h hco
     refine Ok.bind (P:=λ y=>y=(I4 b p n).any (· == a)) (cX (λ _=>c9 rfl) λ hn=>(hn ⟨rfl,trivial⟩).elim) λ y hy=>?_
     rw [Aei ha.1 ha.2] at hy
     have hgr:(Fc b p (D7 b p i)==some (((A8 b p).getD n 0).toNat:Int))=((A8 b p).getD a.toNat 0==(A8 b p).getD n 0):=by
      rw [hco,hg.2.2];rfl
     refine cR (λ hq=>?_) (λ hq=>?_)
     ·simp only [Fw,bk] at hq
      refine (cW (by simp;omega)).bind λ w hw=>cS ⟨⟨by dsimp only;omega,?_⟩,by dsimp only;omega⟩
      dsimp only
      rw [e2,hnext,hgr,←hy,hq,hw];rfl
     ·simp only [Fw,bk] at hq
      exact hskip (by rw [hgr,←hy,hq])
   ·simp only [dC] at hq
    dsimp only
    rw [g3]
    have:i.toNat=b.Ac.length:=by omega
    rw [this]
 ·refine Ok.andThen (A:=λ s=>s.2=Gf b p b.Ae.length ((A8 b p).getD n 0).toNat) (B:=λ (_:Unit)=>False) ?_ (λ t ht=>c9 ?_) (λ _ h=>h.elim)
  ·refine cU (λ s=>(0<=s.1/\s.1<=(b.Ae.length:Int))/\s.2=Gf b p s.1.toNat ((A8 b p).getD n 0).toNat) (λ s=>((b.Ae.length:Int)-s.1).toNat) _ _ ?_ ?_ ?_
   ·exact⟨by dsimp only;omega,rfl⟩
   ·dsimp only;omega
   ·rintro⟨i,s⟩ ⟨⟨g1,g2⟩,g3⟩
    dsimp only at g1 g2 g3
    unfold zM Atm
    dsimp only
    have hsl:s.length<=i.toNat:=by rw [g3];exact C9 _ _
    refine cR (λ hq=>?_) (λ hq=>d8 ?_)
    ·simp only [dA] at hq
     have e1:w64 (i+1)=i+1:=A9 (by omega)
     have e2:(i+1).toNat=i.toNat+1:=by omega
     have e3:((i.toNat:Nat):Int)=i:=by omega
     rw [e1,Awu h hp g1 hq]
     simp only [ac,Asb]
     have hnext:Gf b p (i.toNat+1) ((A8 b p).getD n 0).toNat=s++if (Fc b p (Ee b p 3 i)==some (((A8 b p).getD n 0).toNat:Int))=true then [i] else []:=by
      unfold Gf at g3 ⊢
      rw [Fd,←g3,e3]
     have hskip:(Fc b p (Ee b p 3 i)==some (((A8 b p).getD n 0).toNat:Int))=false->Ok (some (.next (i+1,s)):Option (Ctl (Int×List Int) Unit)) (Gq (λ s'=>((0<=s'.1/\s'.1<=(b.Ae.length:Int))/\s'.2=Gf b p s'.1.toNat ((A8 b p).getD n 0).toNat)/\((b.Ae.length:Int)-s'.1).toNat<((b.Ae.length:Int)-i).toNat) (λ s=>s.2=Gf b p b.Ae.length ((A8 b p).getD n 0).toNat) (λ _=>False)):=by
      intro hf
      refine cS ⟨⟨by dsimp only;omega,?_⟩,by dsimp only;omega⟩
      dsimp only
      rw [e2,hnext,hf];simp
     cases hco:Ee b p 3 i with
     | none=>
      refine Ok.bind (P:=λ _=>True) (cX (λ hg=>absurd hg.1 (by simp [Fw])) λ _=>trivial) λ y _=>?_
      refine cR (λ hq=>by simp [Fw] at hq) (λ _=>hskip (by rw [hco];rfl))
     | some a=>
      have ha:=Xl h hco
      refine Ok.bind (P:=λ y=>y=(I4 b p n).any (· == a)) (cX (λ _=>c9 rfl) λ hn=>(hn ⟨rfl,trivial⟩).elim) λ y hy=>?_
      rw [Aei ha.1 ha.2] at hy
      have hgr:(Fc b p (Ee b p 3 i)==some (((A8 b p).getD n 0).toNat:Int))=((A8 b p).getD a.toNat 0==(A8 b p).getD n 0):=by
       rw [hco,hg.2.2];rfl
      refine cR (λ hq=>?_) (λ hq=>?_)
      ·simp only [Fw,bk] at hq
       refine (cW (by simp;omega)).bind λ w hw=>cS ⟨⟨by dsimp only;omega,?_⟩,by dsimp only;omega⟩
       dsimp only
       rw [e2,hnext,hgr,←hy,hq,hw];rfl
      ·simp only [Fw,bk] at hq
       exact hskip (by rw [hgr,←hy,hq])
    ·simp only [dC] at hq
     dsimp only
     rw [g3]
     have:i.toNat=b.Ae.length:=by omega
     rw [this]
  ·rw [hs,ht]
   unfold isl Dv I4
   rw [hg.2.2]
def G7 (b:Aa) (p:Ab) (f:Nat):Bool:=(A8 b p).getD f 0==(f:Int)
theorem Hr {b:Aa} (h:Av b) (p:Ab) {n:Nat} (hn:n<b.An.toNat):G7 b p ((A8 b p).getD n 0).toNat=true:=by
 have hg:=G9 h p hn
 unfold G7
 rw [dD,hg.2.2]
 have hm:((A8 b p).getD n 0).toNat<b.An.toNat:=by omega
 have hL:=uG h p
 have hself:E0 (Ch b p) ((A8 b p).getD n 0).toNat n:=by
  have hlab:∀ (xs:List Nat) (s:List Int),s.length=b.An.toNat->Lab (Ch b p) s->Lab (Ch b p) (xs.foldl (λ s _=>C3 (b.Ad.zip p.Ag) s) s):=by
   intro xs
   induction xs with
   | nil=>intro s _ h;exact h
   | cons x xs ih=>
    intro s hl h2
    refine ih _ (by rw [E8];exact hl) (P7 _ s hl (λ z hz=>⟨hz,λ hk=>?_⟩) h2)
    have:=h.br z.1 (ci hz).1
    unfold Q6 at this
    omega
  refine hlab (List.range b.An.toNat) (Ci b.An.toNat) (by simp [Ci]) ?_ n ?_
  ·intro k hk
   rw [Kf (by simpa [Ci] using hk)]
   exact .refl _ k
  ·have:=H8 b p
   unfold A8 at this
   rw [this];exact hn
 exact (K_ h p hm hn).2 hself
theorem Awr {b:Aa} (h:Av b) (p:Ab) {f:Nat} (hf:f<b.An.toNat):Ik (isl b p f)=G7 b p f:=by
 rw [bW]
 unfold Ik isl Dv
 simp only [bo,dE,ne_eq,au]
 constructor
 ·intro e
  have hne:(List.range b.An.toNat).filter (λ i=>(A8 b p).getD i 0==(f:Int))≠[]:=λ e2=>e (by rw [e2];rfl)
  obtain⟨i,hi⟩:=List.exists_mem_of_ne_nil _ hne
  obtain⟨h1,h2⟩:=aD.1 hi
  rw [dD] at h2
  have:=Hr h p (aZ.1 h1)
  rw [h2,aF] at this
  exact this
 ·intro e e2
  have hm:f∈(List.range b.An.toNat).filter (λ i=>(A8 b p).getD i 0==(f:Int)):=aD.2 ⟨aZ.2 hf,e⟩
  have:=List.length_pos_iff.2 (List.ne_nil_of_mem hm)
  omega
def J9 (b:Aa) (p:Ab) (n:Nat):List Nat:=(List.range n).filter (G7 b p)
theorem Ge {b:Aa} (h:Av b) (p:Ab):Bk b p=(J9 b p b.An.toNat).map (isl b p):=by
 unfold Bk J9
 rw [List.filter_map]
 congr 1
 exact List.filter_congr λ f hf=>Awr h p (aZ.1 hf)
theorem Aqd {b:Aa} (h:Av b) (p:Ab) {n:Nat} (hn:n<b.An.toNat):∃ m:Nat,(I4 b p n)[0]? = some (m:Int)/\(m=n↔G7 b p n=true):=by
 have hg:=G9 h p hn
 have hm:((A8 b p).getD n 0).toNat<b.An.toNat:=by omega
 have hgg:=Hr h p hn
 unfold G7 at hgg
 rw [dD,hg.2.2] at hgg
 have hfind:(List.range b.An.toNat).find? (λ i=>(A8 b p).getD i 0==(A8 b p).getD n 0)=some ((A8 b p).getD n 0).toNat:=by
  rw [List.find?_range_eq_some]
  refine⟨by rw [dD];exact hgg,aZ.2 hm,λ j hj=>?_⟩
  simp only [bo,dE,ne_eq]
  intro e
  have:=G9 h p (n:=j) (by omega)
  omega
 refine⟨((A8 b p).getD n 0).toNat,?_,?_⟩
 ·unfold I4
  rw [aw,←List.head?_eq_getElem?,List.head?_filter,hfind];rfl
 ·unfold G7
  rw [dD];omega
theorem Afw {b:Aa} (h:Av b) {p:Ab} (hp:Ax b p):F85 b p=some (Bk b p):=by
 have hbu:=h.buses
 rw [Ge h]
 refine d7 ?_
 unfold F85
 rw [L8 h hp]
 simp only [ac]
 refine cR (λ hc=>by simp at hc) (λ _=>?_)
 refine Ok.andThen (A:=λ s=>s.2=(J9 b p b.An.toNat).map (isl b p)) (B:=λ (_:Unit)=>False) ?_ (λ s hs=>c9 hs) (λ _ h=>h.elim)
 refine cU (λ s=>(0<=s.1/\s.1<=b.An)/\s.2=(J9 b p s.1.toNat).map (isl b p)) (λ s=>(b.An-s.1).toNat) _ _ ?_ ?_ ?_
 ·exact⟨by dsimp only;omega,rfl⟩
 ·dsimp only;omega
 ·rintro⟨i,s⟩ ⟨⟨g1,g2⟩,g3⟩
  dsimp only at g1 g2 g3
  unfold Aid
  dsimp only
  refine cR (λ hq=>?_) (λ hq=>d8 ?_)
  ·simp only [dA] at hq
   obtain⟨n,rfl⟩:∃ n:Nat,i=(n:Int):=⟨i.toNat,by omega⟩
   have hn:n<b.An.toNat:=by omega
   have e1:w64 ((n:Int)+1)=(n:Int)+1:=A9 (by omega)
   have e2:((n:Int)+1).toNat=n+1:=by omega
   have hg:=G9 h p hn
   obtain⟨m,hm,hmn⟩:=Aqd h p hn
   have hbuses:(isl b p ((A8 b p).getD n 0).toNat).An=I4 b p n:=by
    unfold isl Dv I4
    rw [hg.2.2]
   rw [aF] at g3
   have hsl:s.length<=n:=by
    rw [g3,au]
    exact aH (bD _ _) (by simp)
   have hnext:J9 b p (n+1)=J9 b p n++if G7 b p n=true then [n] else []:=by
    unfold J9
    rw [cj,bt]
    congr 1
    cases hq:G7 b p n <;> simp [hq]
   rw [e1,Azr h hp hn]
   simp only [ac,hbuses]
   have hg0:getI (I4 b p n) 0=some (m:Int):=Bj (j:=0) hm
   rw [hg0]
   simp only [ac]
   refine cR (λ hq=>?_) (λ hq=>cS ⟨⟨by dsimp only;omega,?_⟩,by dsimp only;omega⟩)
   ·simp only [dD] at hq
    have hle:=hmn.1 (by omega)
    refine (cW (by simp;omega)).bind λ w hw=>cS ⟨⟨by dsimp only;omega,?_⟩,by dsimp only;omega⟩
    dsimp only
    have hgn:((A8 b p).getD n 0).toNat=n:=by
     unfold G7 at hle
     rw [dD] at hle;omega
    rw [e2,hnext,if_pos hle,hw,g3,bI,hgn];rfl
   ·simp only [dE,ne_eq] at hq
    have hle:¬G7 b p n=true:=λ e=>hq (by rw [hmn.2 e])
    dsimp only
    rw [e2,hnext,if_neg hle,aW,g3]
  ·simp only [dC] at hq
   dsimp only
   have:i.toNat=b.An.toNat:=by omega
   rw [g3,this]
theorem Ajv {b:Aa} (h:Av b) {p:Ab} (hp:Ax b p):F45 b p=some (⟨p.Ag,D9 b p,p.Aq,p.Ao⟩,0):=by
 have hn:=hp.nso
 refine d7 ?_
 unfold F45
 rw [L8 h hp]
 simp only [ac]
 refine cR (λ hc=>by simp at hc) (λ _=>?_)
 refine Ok.bind (P:=λ y=>y=⟨p.Ag,D9 b p,p.Aq,p.Ao⟩) ?_ λ y hy=>c9 (by rw [hy])
 unfold F63
 rw [A0j h hp,Afw h hp]
 simp only [ac]
 refine Ok.andThen (A:=λ s=>s=D9 b p) (B:=λ (_:Unit)=>False) ?_ (λ s hs=>c9 (by rw [hs])) (λ _ h=>h.elim)
 refine cT (I:=λ j s=>s=((Bk b p).take j).foldl (Cq p) p.Ac) rfl (λ j x s hx hs=>?_) λ s hs=>?_
 ·have hi:=Oq (af hx)
  have hl:s.length=p.Ac.length:=by rw [hs,J_]
  have hnext:((Bk b p).take (j+1)).foldl (Cq p) p.Ac=Cq p s x:=by rw [Bi hx,aX,←hs];rfl
  rw [hnext]
  unfold Ain
  cases hsrc:x.Ac with
  | nil=>exact cS (by unfold Cq;rw [hsrc])
  | cons m l=>
   have hm:=hi m (by rw [hsrc];exact aj)
   obtain⟨u,hu⟩:∃ u,p.Ac[m.toNat]? = some u:=⟨_,ag (by omega)⟩
   have hgu:getI p.Ac m=some u:=by have:=Bj hu;rwa [bP hm.1] at this
   have hd:p.Ac.getD m.toNat default=u:=by simp [List.getD,hu]
   have hf:Cq p s x=Eb u (m::l) s:=by unfold Cq;rw [hsrc];simp only [hd]
   rw [hf]
   have hin:∀ k,k∈m::l->0<=k/\k<p.Ac.length:=λ k hk=>by
    have:=hi k (by rw [hsrc];exact hk)
    omega
   refine (cT (I:=λ k r=>r=Eb u ((m::l).take k) s) (A:=λ r=>r=Eb u (m::l) s) (B:=λ (_:Unit)=>False) rfl (λ k n r hk hr=>?_) λ r hr=>by rw [hr,aG]).inner (λ r hr=>cS hr) (λ _ h=>h.elim)
   have hnk:=hin n (af hk)
   have hrl:r.length=p.Ac.length:=by rw [hr,Gl,hl]
   unfold Aim
   rw [hsrc,show getI (m::l) 0=some m from rfl]
   simp only [ac,hgu]
   refine (cV hnk.1 (by omega)).bind λ v hv=>(d4 hnk.1 (by omega)).bind λ r1 e1=>?_
   have hvg:r1[n.toNat]? = some (⟨v.State,v.Since,u.Ap,v.Phase⟩:Af):=by rw [e1,bK (by omega)]
   refine Ok.bind (P:=λ w=>w=(⟨v.State,v.Since,u.Ap,v.Phase⟩:Af)) ((cV hnk.1 (by rw [e1];simp;omega)).mono λ w hw=>by rw [hvg] at hw;cases hw;rfl) λ w hw=>?_
   refine (d4 hnk.1 (by rw [e1];simp;omega)).bind λ r2 e2=>cS ?_
   have hdv:r.getD n.toNat default=v:=by simp [List.getD,hv]
   rw [Aac hk,←hr,hdv,e2,e1,hw,List.set_set];rfl
 ·rw [aG] at hs;exact hs
theorem Avk {ss:List Af} {n:Nat} (h:n<ss.length):ss.set n (ss.getD n default)=ss:=by
 apply bE
 intro i
 rw [ax]
 split
 ·rename_i e;subst e
  simp [List.getD,List.getElem?_eq_getElem h]
 ·rfl
theorem Aad {B1:Af}:∀ (idx:List Int) (ss:List Af),(∀ i,i∈idx->i.toNat<ss.length/\Wq B1 (ss.getD i.toNat default)=ss.getD i.toNat default)->Eb B1 idx ss=ss
 | [],_,_=>rfl
 | i::idx,ss,h=>by
  obtain⟨h1,h2⟩:=h i aj
  show Eb B1 idx (ss.set i.toNat (Wq B1 (ss.getD i.toNat default)))=ss
  rw [h2,Avk h1]
  exact Aad idx ss λ j hj=>h j (ai _ hj)
theorem Xp {ss:List Af} {m n:Nat} {y:Af}:(ss.set m y).getD n default=if m=n/\m<ss.length then y else ss.getD n default:=by
 unfold List.getD
 rw [ax]
 by_cases e:m=n
 ·subst e
  by_cases hl:m<ss.length
  ·simp [hl]
  ·simp [hl]
 ·simp [e]
theorem Zb (B1:Af):∀ (idx:List Int) (ss:List Af) (n:Nat),((Eb B1 idx ss).getD n default).State=(ss.getD n default).State
 | [],_,_=>rfl
 | i::idx,ss,n=>by
  show ((Eb B1 idx _).getD n default).State=_
  rw [Zb B1 idx,Xp]
  split
  ·rename_i e;rw [←e.1];rfl
  ·rfl
theorem W_ {B1:Af}:∀ (idx:List Int) (ss:List Af) {n:Nat},(∀ i,i∈idx->i.toNat≠n)->(Eb B1 idx ss).getD n default=ss.getD n default
 | [],_,_,_=>rfl
 | i::idx,ss,n,h=>by
  show (Eb B1 idx _).getD n default=_
  rw [W_ idx _ (λ j hj=>h j (ai _ hj)),Xp,if_neg (λ e=>h i aj e.1)]
theorem Aki {B1:Af}:∀ (idx:List Int) (ss:List Af) {n:Nat},n<ss.length->(∃ i,i∈idx/\i.toNat=n)->((Eb B1 idx ss).getD n default).Ap=B1.Ap/\((Eb B1 idx ss).getD n default).Phase=B1.Phase
 | [],_,_,_,h=>by obtain⟨_,h,_⟩:=h;cases h
 | i::idx,ss,n,hn,h=>by
  by_cases hr:∃ j,j∈idx/\j.toNat=n
  ·exact Aki idx _ (by simpa using hn) hr
  ·have hi:i.toNat=n:=by
    obtain⟨j,hj,e⟩:=h
    rcases ah.1 hj with rfl | hj
    ·exact e
    ·exact absurd ⟨j,hj,e⟩ hr
   have:(Eb B1 (i::idx) ss).getD n default=Wq B1 (ss.getD i.toNat default):=by
    show (Eb B1 idx _).getD n default=_
    rw [W_ idx _ (λ j hj e=>hr ⟨j,hj,e⟩),Xp,if_pos ⟨hi,by omega⟩]
   rw [this];exact⟨rfl,rfl⟩
def Fh (b:Aa) (p:Ab):Prop:=∀ x,x∈Bk b p->∀ i j,i∈x.Ac->j∈x.Ac ->
 (p.Ac.getD i.toNat default).Ap=(p.Ac.getD j.toNat default).Ap/\(p.Ac.getD i.toNat default).Phase=(p.Ac.getD j.toNat default).Phase
theorem Sy {b:Aa} {p:Ab} (hn:p.Ac.length=b.Ac.length) (h:Fh b p):D9 b p=p.Ac:=by
 have key:∀ l:List Ai,(∀ x,x∈l->x∈Bk b p)->l.foldl (Cq p) p.Ac=p.Ac:=by
  intro l
  induction l with
  | nil=>intro _;rfl
  | cons x l ih=>
   intro hl
   have hx:=hl x aj
   have hst:Cq p p.Ac x=p.Ac:=by
    unfold Cq
    split
    ·rfl
    ·rename_i i r e
     refine Aad _ _ λ j hj=>?_
     have hj2:=Oq hx j hj
     have ha:=h x hx i j (by rw [e];exact aj) hj
     refine⟨by omega,?_⟩
     unfold Wq
     rw [ha.1,ha.2]
   rw [bQ,hst]
   exact ih λ y hy=>hl y (ai _ hy)
 exact key _ λ _ hx=>hx
theorem Aju (p:Ab) (s:List Af) (x:Ai) (n:Nat):((Cq p s x).getD n default).State=(s.getD n default).State:=by
 unfold Cq
 split
 ·rfl
 ·exact Zb _ _ _ _
theorem Acg (b:Aa) (p:Ab) (n:Nat):((D9 b p).getD n default).State=(p.Ac.getD n default).State:=by
 have key:∀ (l:List Ai) (s:List Af),((l.foldl (Cq p) s).getD n default).State=(s.getD n default).State:=by
  intro l
  induction l with
  | nil=>intro s;rfl
  | cons x l ih=>intro s;rw [bQ,ih,Aju]
 exact key _ _
theorem Acf {b:Aa} {p q:Ab} (hc:q.Ag=p.Ag) (hl:q.Ac.length=p.Ac.length) (hs:∀ n:Nat,(q.Ac.getD n default).State=(p.Ac.getD n default).State):Bk b q=Bk b p:=by
 have hled:∀ k i,Ee b q k i=Ee b p k i:=λ k i=>by unfold Ee;rw [hc]
 have hgr:A8 b q=A8 b p:=by unfold A8;rw [hc]
 have hcon:∀ i,D7 b q i=D7 b p i:=λ i=>by unfold D7;rw [hled,hl,hs]
 have hgo:∀ o,Fc b q o=Fc b p o:=λ o=>by unfold Fc;rw [hgr]
 have hisl:isl b q=isl b p:=by
  funext f
  unfold isl Dv Fa Gf
  simp only [hgr,hled,hcon,hgo]
 unfold Bk
 rw [hisl]
theorem Jk {b:Aa} {p:Ab} {f:Nat} {i:Int}:i∈(isl b p f).Ac↔∃ k:Nat,i=(k:Int)/\k<b.Ac.length/\Fc b p (D7 b p (k:Int))=some (f:Int):=by
 constructor
 ·intro h
  obtain⟨k,hk,e⟩:=am.1 h
  obtain⟨h1,h2⟩:=aD.1 hk
  exact⟨k,e.symm,aZ.1 h1,by rwa [dD] at h2⟩
 ·rintro⟨k,e,h1,h2⟩
  exact am.2 ⟨k,aD.2 ⟨aZ.2 h1,by rw [dD];exact h2⟩,e.symm⟩
theorem Avi {b:Aa} {p:Ab} {f g:Nat} (hfg:f≠g) {i j:Int} (hi:i∈(isl b p f).Ac) (hj:j∈(isl b p g).Ac):i.toNat≠j.toNat:=by
 obtain⟨k,rfl,_,e1⟩:=Jk.1 hi
 obtain⟨m,rfl,_,e2⟩:=Jk.1 hj
 rw [aF,aF]
 intro e;subst e
 rw [e1] at e2
 have:=bH e2
 exact hfg (by omega)
def Aco (b:Aa) (p:Ab) (f:Nat):Af:=p.Ac.getD ((isl b p f).Ac.headD 0).toNat default
theorem Af3 {b:Aa} {p:Ab} {n:Nat}:∀ (fs:List Nat) (s:List Af),(∀ f,f∈fs->∀ i,i∈(isl b p f).Ac->i.toNat≠n)->((fs.map (isl b p)).foldl (Cq p) s).getD n default=s.getD n default
 | [],_,_=>rfl
 | f::fs,s,h=>by
  rw [bO,bQ,Af3 fs _ (λ g hg=>h g (ai _ hg))]
  have hf:=h f aj
  unfold Cq
  split
  ·rfl
  ·exact W_ _ _ hf
theorem vY {b:Aa} {p:Ab} (hn:p.Ac.length=b.Ac.length):∀ (fs:List Nat) (s:List Af),s.length=p.Ac.length->fs.Nodup->∀ f,f∈fs->∀ i,i∈(isl b p f).Ac ->
  (((fs.map (isl b p)).foldl (Cq p) s).getD i.toNat default).Ap=(Aco b p f).Ap/\(((fs.map (isl b p)).foldl (Cq p) s).getD i.toNat default).Phase=(Aco b p f).Phase
 | [],_,_,_,_,h,_,_=>by cases h
 | g::fs,s,hs,hnd,f,hf,i,hi=>by
  obtain⟨h1,h2⟩:=List.nodup_cons.1 hnd
  rw [bO,bQ]
  by_cases e:f=g
  ·subst e
   rw [Af3 fs _ (λ k hk j hj=>Avi (λ e=>h1 (by rw [←e];exact hk)) hj hi)]
   obtain⟨k,rfl,hk,_⟩:=Jk.1 hi
   unfold Cq
   split
   ·rename_i e;rw [e] at hi;cases hi
   ·rename_i m r e
    have:Aco b p f=p.Ac.getD m.toNat default:=by unfold Aco;rw [e];rfl
    rw [this]
    exact Aki _ _ (by rw [aF];omega) ⟨_,hi,rfl⟩
  ·rcases ah.1 hf with h | hf
   ·exact absurd h e
   ·exact vY hn fs _ (by rw [Mm];exact hs) h2 f hf i hi
theorem Jv {b:Aa} (h:Av b) {p:Ab} (hn:p.Ac.length=b.Ac.length):Fh b ⟨p.Ag,D9 b p,p.Aq,p.Ao⟩:=by
 have hisl:Bk b ⟨p.Ag,D9 b p,p.Aq,p.Ao⟩=Bk b p:=Acf rfl (Ht b p) (Acg b p)
 intro x hx i j hi hj
 rw [hisl,Ge h] at hx
 obtain⟨f,hf,rfl⟩:=am.1 hx
 have hnd:(J9 b p b.An.toNat).Nodup:=(List.nodup_range).sublist List.filter_sublist
 have hfl:D9 b p=((J9 b p b.An.toNat).map (isl b p)).foldl (Cq p) p.Ac:=by
  rw [←Ge h];rfl
 have e1:=vY hn _ p.Ac rfl hnd f hf i hi
 have e2:=vY hn _ p.Ac rfl hnd f hf j hj
 dsimp only
 rw [hfl]
 exact⟨e1.1.trans e2.1.symm,e1.2.trans e2.2.symm⟩
def Anj (b:Aa) (p:Ab) (n:Nat):Bool:=decide (((isl b p ((A8 b p).getD n 0).toNat).Ac.length:Int)>0)
theorem Atr {b:Aa} {p:Ab} {n f:Nat} (hn:n<b.An.toNat):(isl b p f).An.any ((n:Int) == ·)=((A8 b p).getD n 0==(f:Int)):=by
 rw [bW,List.any_eq_true]
 constructor
 ·rintro⟨x,hx,e⟩
  rw [dD] at e;subst e
  obtain⟨i,hi,e⟩:=am.1 hx
  have:i=n:=by omega
  subst this
  exact (aD.1 hi).2
 ·intro e
  exact⟨n,am.2 ⟨n,aD.2 ⟨aZ.2 hn,e⟩,rfl⟩,by simp⟩
theorem of_eq {b:Aa} (h:Av b) {p:Ab} (hp:Ax b p) {n:Nat} (hn:n<b.An.toNat):Gb b p (n:Int)=some (isl b p ((A8 b p).getD n 0).toNat,true):=by
 have hg:=G9 h p hn
 have hbu:=h.buses
 unfold Gb
 rw [Hp h hp,Ge h]
 simp only [ac]
 have key:∀ (fs:List Nat) (k:Nat),foldI (Lw (n:Int)) (fs.map (isl b p)) k ()=if ((A8 b p).getD n 0).toNat∈fs then some (.ret (isl b p ((A8 b p).getD n 0).toNat,true)) else some (.next ()):=by
  intro fs
  induction fs with
  | nil=>intro k;rfl
  | cons f fs ih=>
   intro k
   have hbl:(isl b p f).An.length<=9223372036854775807:=by
    have:=C9 (λ i=>(A8 b p).getD i 0==(f:Int)) b.An.toNat
    simp only [isl,Dv]
    omega
   simp only [bO,foldI,Lw,Dm _ _ hbl,ac,Atr hn]
   by_cases e:(A8 b p).getD n 0=(f:Int)
   ·have e2:((A8 b p).getD n 0).toNat=f:=by omega
    rw [dD.2 e,e2,if_pos aj];rfl
   ·have e2:((A8 b p).getD n 0).toNat≠f:=by omega
    rw [dE.2 e]
    simp only [cond_false]
    rw [ih]
    by_cases hm:((A8 b p).getD n 0).toNat∈fs
    ·rw [if_pos hm,if_pos (ai _ hm)]
    ·rw [if_neg hm,if_neg (λ hh=>(ah.1 hh).elim e2 hm)]
 have hm:((A8 b p).getD n 0).toNat∈J9 b p b.An.toNat:=aD.2 ⟨aZ.2 (by omega),Hr h p hn⟩
 rw [key,if_pos hm]
 rfl
theorem vS {b:Aa} (h:Av b) {p:Ab} (hp:Ax b p) {n:Nat} (hn:n<b.An.toNat):Yv b p (n:Int)=some (Anj b p n):=by
 unfold Yv
 rw [of_eq h hp hn]
 simp [Anj]
theorem Aj7 {b:Aa} (h:Av b) {s:Ah} (hs:Bq s):Ok (qN s b) λ y=>(Ax b y.1/\Fh b y.1/\y.1.Ao.length<=4)/\Bq y.2:=by
 unfold qN
 refine (Axp h hs).bind λ y hy=>?_
 rw [Ajv h hy.1.1]
 exact c9 ⟨⟨I2 hy.1.1 (Ht b _) (Qb hy.1.1),Jv h hy.1.1.nso,hy.1.2⟩,hy.2⟩
theorem Axq {b:Aa} (h:Av b) {s:Ah} (hs:Bq s):Ok (qX s b) λ y=>((∀ t,Fz b t y.1)/\(5<=y.1.Time/\y.1.Time<=20)/\y.1.Bc=[]/\y.1.Power.Ao.length<=4)/\Bq y.2:=by
 have hbu:=h.buses
 unfold qX
 refine (Hb hs 5 20 (by omega) (by omega) (by omega)).bind λ y hy=>(Aj7 h hy.1).bind λ z hz=>?_
 refine Ok.andThen (A:=λ s=>Bq ⟨s.2.1,s.2.2.1⟩/\s.2.2.2.length=b.An.toNat/\∀ x,x∈s.2.2.2->(-1<=x.High/\x.High<=4) /\ -1<=x.Low/\x.Low<=4) (B:=λ (_:Unit)=>False) ?_ (λ s hs=>?_) (λ _ h=>h.elim)
 ·refine cU (λ s=>(0<=s.1/\s.1<=b.An)/\Bq ⟨s.2.1,s.2.2.1⟩/\(s.2.2.2.length:Int)=s.1/\∀ x,x∈s.2.2.2->(-1<=x.High/\x.High<=4) /\ -1<=x.Low/\x.Low<=4) (λ s=>(b.An-s.1).toNat) _ _ ?_ ?_ ?_
  ·exact⟨by dsimp only;omega,hz.2,by simp,λ x hx=>by cases hx⟩
  ·dsimp only;omega
  ·rintro⟨i,L,a,l⟩ ⟨⟨g1,g2⟩,g3,g4,g5⟩
   dsimp only at g1 g2 g3 g4 g5
   unfold Yu
   dsimp only
   refine cR (λ hq=>?_) (λ hq=>d8 ?_)
   ·simp only [dA] at hq
    have e1:w64 (i+1)=i+1:=A9 (by omega)
    rw [e1]
    refine (Hb g3 (-1) 4 (by omega) (by omega) (by omega)).bind λ u hu=>(Hb hu.1 (-1) 4 (by omega) (by omega) (by omega)).bind λ v hv=>(cW (by simp;omega)).bind λ w hw=>cS ?_
    refine⟨⟨by dsimp only;omega,hv.1,by rw [hw];simp;omega,λ x hx=>?_⟩,by dsimp only;omega⟩
    rw [hw] at hx
    rcases az.1 hx with hx | hx
    ·exact g5 x hx
    ·simp only [bA] at hx
     subst hx
     exact⟨hu.2,hv.2⟩
   ·simp only [dC] at hq
    exact⟨g3,by dsimp only;omega,g5⟩
 ·refine c9 ⟨⟨λ t=>?_,hy.2,rfl,hz.1.2.2⟩,hs.1⟩
  exact {
   st:=hz.1.1
   fol:=Sy hz.1.1.nso hz.1.2.1
   time:=by have:=hy.2;dsimp only;omega
   nro:=hs.2.1
   ros:=λ x hx=>by
    have:=hs.2.2 x hx
    have:=hy.2
    unfold Eo
    dsimp only
    omega}
theorem F6 {b:Aa} {i:Nat} (h:i<b.Ae.length):b.Ae[i]? = some (b.Ae.getD i default):=by
 rw [ag h];simp [List.getD,List.getElem?_eq_getElem h]
theorem Ali {p:Ab} {i:Nat} (h:i<p.Aq.length):p.Aq[i]? = some (p.Aq.getD i 0):=by
 rw [ag h];simp [List.getD,List.getElem?_eq_getElem h]

theorem Tf {b:Aa} {p:Ab} (hp:Ax b p) {j:Nat} (hj:j<b.Ad.length):p.Ag[j]? = some (p.Ag.getD j false):=by
 have:=hp.ncl
 rw [ag (by omega)];simp [List.getD,List.getElem?_eq_getElem (show j<p.Ag.length by omega)]
theorem Ats {b:Aa} {j:Nat} {x:Aj} (hx:b.Ad[j]? = some x):b.Ad.getD j default=x:=by simp [List.getD,hx]
def Dl (p:Ab) (x:Aj):Bool:=
 brk p.Ao 3 x.A || (if x.Kind=1 then brk p.Ao 3 x.B else if x.Kind=2 then brk p.Ao 1 x.B || ((p.Ac.getD x.B.toNat default).State != 2) else brk p.Ao 4 x.B)
theorem A0q {b:Aa} {p:Ab} (hp:Ax b p) (k n:Int) (acts:List Am):Kp k n ⟨b,p,acts⟩=some (brk p.Ao k n,⟨b,p,acts⟩):=by
 have:=hp.brk.len
 unfold Kp
 rw [Et (by dsimp only;omega)];rfl
theorem As5 {b:Aa} (h:Av b) {p:Ab} (hp:Ax b p) (acts:List Am) {x:Aj} (hx:x∈b.Ad):Ua ⟨b,p,acts⟩ x=some (Dl p x,⟨b,p,acts⟩):=by
 have hbr:=(h.br x hx).2
 have hns:=hp.nso
 unfold Ua Dl
 simp only [A0q hp,ac]
 cases brk p.Ao 3 x.A with
 | true=>rfl
 | false=>
  simp only [cond_false,bh]
  rcases hbr with⟨hk,_⟩ | ⟨hk,h0,h1⟩ | ⟨hk,_⟩
  ·rw [hk];rfl
  ·rw [hk]
   have e:p.Ac[x.B.toNat]? = some (p.Ac.getD x.B.toNat default):=by
    rw [ag (by omega)];simp [List.getD,List.getElem?_eq_getElem (show x.B.toNat<p.Ac.length by omega)]
   have e2:getI p.Ac x.B=some (p.Ac.getD x.B.toNat default):=by
    unfold getI;rw [dF h0];exact e
   rw [e2]
   cases brk p.Ao 1 x.B <;> rfl
  ·rw [hk];rfl
def C4 (b:Aa) (C:List Bool) (q:Aj->Bool) (n:Nat):List Int:=((List.range n).filter λ i=>C.getD i false&&q (b.Ad.getD i default)).map λ (i:Nat)=>(i:Int)
theorem Hs {b:Aa} {C:List Bool} {q:Aj->Bool} {n:Nat} {i:Int}:i∈C4 b C q n↔∃ k:Nat,i=(k:Int)/\k<n/\C.getD k false=true/\q (b.Ad.getD k default)=true:=by
 unfold C4
 simp only [am,aD,aZ,ae]
 constructor
 ·rintro⟨k,⟨h1,h2,h3⟩,rfl⟩;exact⟨k,rfl,h1,h2,h3⟩
 ·rintro⟨k,rfl,h1,h2,h3⟩;exact⟨k,⟨h1,h2,h3⟩,rfl⟩
theorem F4 (b:Aa) (C:List Bool) (q:Aj->Bool) (n:Nat):(C4 b C q n).length<=n:=C9 _ n
def F3 (C:List Bool) (l:List Int):List Bool:=l.foldl (λ c i=>c.set i.toNat false) C
def K6 (l:List Int):List Am:=l.map λ i=>⟨2,i,0⟩
theorem Ng:∀ (l:List Int) (C:List Bool),(F3 C l).length=C.length
 | [],_=>rfl
 | i::l,C=>by
  show (F3 (C.set i.toNat false) l).length=_
  rw [Ng l];simp
theorem Am5 (C:List Bool) (l:List Int) (i:Int):F3 C (l++[i])=(F3 C l).set i.toNat false:=by
 unfold F3;rw [aX];rfl
theorem Aa2:∀ (l:List Int) (C:List Bool) (k:Nat),(F3 C l).getD k false=(C.getD k false && !l.any λ i=>i.toNat==k)
 | [],_,_=>by simp [F3]
 | i::l,C,k=>by
  show (F3 (C.set i.toNat false) l).getD k false=_
  rw [Aa2 l]
  simp only [List.any_cons]
  by_cases e:i.toNat=k
  ·subst e
   have:(C.set i.toNat false).getD i.toNat false=false:=by
    simp only [List.getD,ax]
    by_cases hl:i.toNat<C.length
    ·simp [hl]
    ·simp [hl]
   rw [this];simp
  ·have:(C.set i.toNat false).getD k false=C.getD k false:=by
    simp only [List.getD,ax,if_neg e]
   rw [this]
   have e2:(i.toNat==k)=false:=by simpa using e
   rw [e2,bh]
theorem Afd {b:Aa}:∀ (l:List Int) {p:Ab},Ax b p->Ax b ⟨F3 p.Ag l,p.Ac,p.Aq,p.Ao⟩
 | [],_,hp=>hp
 | i::l,p,hp=>Afd l (p:=⟨p.Ag.set i.toNat false,p.Ac,p.Aq,p.Ao⟩) (Am6 hp i.toNat)
theorem Avz {b:Aa} {p:Ab} {acts:List Am} (ha:acts.length<=1000000) {i:Int} (h0:0<=i) (h1:i<p.Ag.length):Mx ⟨b,p,acts⟩ i=some ⟨b,⟨p.Ag.set i.toNat false,p.Ac,p.Aq,p.Ao⟩,acts++[⟨2,i,0⟩]⟩:=by
 refine d7 ?_
 unfold Mx
 refine (cV h0 h1).bind λ _ _=>(d4 h0 h1).bind λ y hy=>(cW (by simp;omega)).bind λ z hz=>c9 ?_
 rw [hy,hz]
theorem Xg {b:Aa} {p:Ab} {acts:List Am} {l:List Int} (ha:acts.length+l.length<=1000000) (hl:∀ i,i∈l->0<=i/\i<p.Ag.length) :
  Ok (foldI Nv l 0 (b.An,b.Ad,b.Ac,b.Ae,b.Phase,b.Ap,p.Ag,p.Ac,p.Aq,p.Ao,acts)) (Dd (λ s=>s=(b.An,b.Ad,b.Ac,b.Ae,b.Phase,b.Ap,F3 p.Ag l,p.Ac,p.Aq,p.Ao,acts++K6 l)) λ (_:Unit)=>False):=by
 refine cT (I:=λ j s=>s=(b.An,b.Ad,b.Ac,b.Ae,b.Phase,b.Ap,F3 p.Ag (l.take j),p.Ac,p.Aq,p.Ao,acts++K6 (l.take j))) (by simp [F3,K6]) (λ j i s hi hs=>?_) λ s hs=>?_
 ·have hj:=(aa.1 hi).1
  have hin:=hl i (af hi)
  subst hs
  unfold Nv
  have e:=Avz (b:=b) (p:=⟨F3 p.Ag (l.take j),p.Ac,p.Aq,p.Ao⟩) (acts:=acts++K6 (l.take j)) (by simp [K6];omega) hin.1 (by rw [Ng];exact hin.2)
  refine Ok.bind (P:=λ y=>y=_) (cY e rfl) λ y hy=>cS ?_
  subst hy
  rw [Bi hi,Am5]
  simp [K6]
 ·rw [aG] at hs;exact hs
def acA (b:Aa) (C:List Bool) (q:Aj->Bool):List Am:=K6 (C4 b C q b.Ad.length)
def acC (b:Aa) (C:List Bool) (q:Aj->Bool):List Bool:=F3 C (C4 b C q b.Ad.length)
theorem Vr (b:Aa) (C:List Bool) (q:Aj->Bool):(acA b C q).length<=b.Ad.length:=by
 unfold acA K6
 rw [au];exact F4 b C q _
theorem Ag8 {b:Aa} {p:Ab} (hp:Ax b p) (q:Aj->Bool):Ax b ⟨acC b p.Ag q,p.Ac,p.Aq,p.Ao⟩:=Afd _ hp
theorem A0w (b:Aa) (C:List Bool) (q:Aj->Bool) {k:Nat} (hk:k<b.Ad.length):(acC b C q).getD k false=(C.getD k false && !q (b.Ad.getD k default)):=by
 unfold acC
 rw [Aa2]
 cases hc:C.getD k false with
 | false=>rfl
 | true=>
  rw [bk,bk]
  congr 1
  rw [bW,List.any_eq_true]
  constructor
  ·rintro⟨i,hi,e⟩
   obtain⟨m,rfl,_,_,hq⟩:=Hs.1 hi
   have:m=k:=by simpa using e
   subst this;exact hq
  ·intro hq
   exact⟨(k:Int),Hs.2 ⟨k,rfl,hk,hc,hq⟩,by simp⟩
theorem P_ {b:Aa} {C:List Bool} {q:Aj->Bool} {j:Nat} {x:Aj} (hx:b.Ad[j]? = some x):C4 b C q (j+1)=C4 b C q j++if (C.getD j false&&q x)=true then [(j:Int)] else []:=by
 unfold C4
 rw [Fd,Ats hx]
theorem Ap5 {b:Aa} (h:Av b) {p:Ab} (hp:Ax b p) {acts:List Am} (ha:acts.length<=1000):Ug ⟨b,p,acts⟩=some ⟨b,⟨acC b p.Ag (Dl p),p.Ac,p.Aq,p.Ao⟩,acts++acA b p.Ag (Dl p)⟩:=by
 have hbl:=h.brl
 have hnc:=hp.ncl
 refine d7 ?_
 unfold Ug
 refine Ok.andThen (A:=λ s=>s=(b.An,b.Ad,b.Ac,b.Ae,b.Phase,b.Ap,C4 b p.Ag (Dl p) b.Ad.length,p.Ag,p.Ac,p.Aq,p.Ao,acts)) (B:=λ (_:Unit)=>False) ?_ (λ s hs=>?_) (λ _ h=>h.elim)
 ·refine cT (I:=λ j s=>s=(b.An,b.Ad,b.Ac,b.Ae,b.Phase,b.Ap,C4 b p.Ag (Dl p) j,p.Ag,p.Ac,p.Aq,p.Ao,acts)) rfl (λ j x s hx hs=>?_) λ s hs=>hs
  have hj:j<b.Ad.length:=(aa.1 hx).1
  have hfl:=F4 b p.Ag (Dl p) j
  have hfs:=P_ (C:=p.Ag) (q:=Dl p) hx
  subst hs
  unfold Uf
  rw [Cv (by omega),Bj (Tf hp hj)]
  simp only [ac]
  have hd:=As5 h hp acts (af hx)
  cases hC:p.Ag.getD j false with
  | false=>
   rw [hC] at hfs
   refine cS ?_
   rw [hfs];simp
  | true=>
   rw [hC] at hfs
   refine Ok.bind (P:=λ y=>y=(Dl p x,(⟨b,p,acts⟩:Ay))) (cY hd rfl) λ y hy=>?_
   subst hy
   cases hq:Dl p x with
   | false=>
    rw [hq] at hfs
    refine cS ?_
    rw [hfs];simp
   | true=>
    rw [hq] at hfs
    refine Ok.bind (P:=λ y=>y=C4 b p.Ag (Dl p) j++[(j:Int)]) (cW (by simp;omega)) λ y hy=>cS ?_
    rw [hy,hfs];simp
 ·subst hs
  have hfl:=F4 b p.Ag (Dl p) b.Ad.length
  refine Ok.andThen (Xg (b:=b) (p:=p) (acts:=acts) (l:=C4 b p.Ag (Dl p) b.Ad.length) (by omega) λ i hi=>?_) (λ s hs=>?_) (λ _ h=>h.elim)
  ·obtain⟨k,rfl,hk,_⟩:=Hs.1 hi
   omega
  ·subst hs
   exact c9 rfl
def Ff (b:Aa) (p:Ab) (x:Aj):Bool:=x.Kind==3 && !Anj b p x.A.toNat
theorem A0i {b:Aa} (h:Av b) {p:Ab} (hp:Ax b p) (acts:List Am) {x:Aj} (hx:x∈b.Ad):T_ x ⟨b,p,acts⟩=some (Ff b p x,⟨b,p,acts⟩):=by
 have hA:=(h.br x hx).1
 have hl:=vS h hp (n:=x.A.toNat) (by omega)
 rw [bP hA.1] at hl
 unfold T_ Ff
 rw [hl]
 cases x.Kind==3 <;> rfl
theorem Ap4 {b:Aa} (h:Av b) {p:Ab} (hp:Ax b p) {acts:List Am} (ha:acts.length<=1000):Ue ⟨b,p,acts⟩=some ⟨b,⟨acC b p.Ag (Ff b p),p.Ac,p.Aq,p.Ao⟩,acts++acA b p.Ag (Ff b p)⟩:=by
 have hbl:=h.brl
 have hnc:=hp.ncl
 refine d7 ?_
 unfold Ue
 refine Ok.andThen (A:=λ s=>s=(b.An,b.Ad,b.Ac,b.Ae,b.Phase,b.Ap,C4 b p.Ag (Ff b p) b.Ad.length,p.Ag,p.Ac,p.Aq,p.Ao,acts)) (B:=λ (_:Unit)=>False) ?_ (λ s hs=>?_) (λ _ h=>h.elim)
 ·refine cT (I:=λ j s=>s=(b.An,b.Ad,b.Ac,b.Ae,b.Phase,b.Ap,C4 b p.Ag (Ff b p) j,p.Ag,p.Ac,p.Aq,p.Ao,acts)) rfl (λ j x s hx hs=>?_) λ s hs=>hs
  have hj:j<b.Ad.length:=(aa.1 hx).1
  have hfl:=F4 b p.Ag (Ff b p) j
  have hfs:=P_ (C:=p.Ag) (q:=Ff b p) hx
  subst hs
  unfold Ud
  rw [Cv (by omega),Bj (Tf hp hj)]
  simp only [ac]
  have hd:=A0i h hp acts (af hx)
  cases hC:p.Ag.getD j false with
  | false=>
   rw [hC] at hfs
   refine cS ?_
   rw [hfs];simp
  | true=>
   rw [hC] at hfs
   refine Ok.bind (P:=λ y=>y=(Ff b p x,(⟨b,p,acts⟩:Ay))) (cY hd rfl) λ y hy=>?_
   subst hy
   cases hq:Ff b p x with
   | false=>
    rw [hq] at hfs
    refine cS ?_
    rw [hfs];simp
   | true=>
    rw [hq] at hfs
    refine Ok.bind (P:=λ y=>y=C4 b p.Ag (Ff b p) j++[(j:Int)]) (cW (by simp;omega)) λ y hy=>cS ?_
    rw [hy,hfs];simp
 ·subst hs
  have hfl:=F4 b p.Ag (Ff b p) b.Ad.length
  refine Ok.andThen (Xg (b:=b) (p:=p) (acts:=acts) (l:=C4 b p.Ag (Ff b p) b.Ad.length) (by omega) λ i hi=>?_) (λ s hs=>?_) (λ _ h=>h.elim)
  ·obtain⟨k,rfl,hk,_⟩:=Hs.1 hi
   omega
  ·subst hs
   exact c9 rfl
def Te (b:Aa) (p:Ab):Ab:=⟨acC b p.Ag (Dl p),p.Ac,p.Aq,p.Ao⟩
def Aw3 (b:Aa) (p:Ab):Ab:=⟨acC b (Te b p).Ag (Ff b (Te b p)),p.Ac,p.Aq,p.Ao⟩
def Jw (b:Aa) (p:Ab):Ab:=⟨(Aw3 b p).Ag,D9 b (Aw3 b p),p.Aq,p.Ao⟩
def Td (b:Aa) (p:Ab):List Am:=acA b p.Ag (Dl p)++acA b (Te b p).Ag (Ff b (Te b p))
theorem Alq {b:Aa} {p:Ab} (hp:Ax b p):Ax b (Te b p):=Ag8 hp _
theorem Vo {b:Aa} {p:Ab} (hp:Ax b p):Ax b (Aw3 b p):=Ag8 (Alq hp) _
theorem Vn {b:Aa} {p:Ab} (hp:Ax b p):Ax b (Jw b p):=I2 (Vo hp) (Ht b _) (Qb (Vo hp))
theorem An8 {b:Aa} (h:Av b) {p:Ab} (hp:Ax b p):Fh b (Jw b p):=Jv h (Vo hp).nso
theorem Agp (b:Aa) (p:Ab):(Td b p).length<=2*b.Ad.length:=by
 have h1:=Vr b p.Ag (Dl p)
 have h2:=Vr b (Te b p).Ag (Ff b (Te b p))
 unfold Td
 rw [aA];omega
theorem Aw5 {b:Aa} (h:Av b) {p:Ab} (hp:Ax b p):Uo ⟨b,p,[]⟩=some ⟨b,Jw b p,Td b p⟩:=by
 have hbl:=h.brl
 have hl:=Vr b p.Ag (Dl p)
 unfold Uo
 rw [Ap5 h hp (by simp)]
 simp only [ac,cL]
 have e2:=Ap4 h (Alq hp) (acts:=acA b p.Ag (Dl p)) (by omega)
 have e3:=Sx h (Vo hp)
 refine d7 ?_
 refine Ok.bind (P:=λ y=>y=_) (cY e2 rfl) λ y hy=>?_
 subst hy
 refine Ok.bind (P:=λ y=>y=_) (cY e3 rfl) λ y hy=>?_
 subst hy
 exact c9 rfl
def key (b:Aa) (c:Int):Int:=(b.Ae.getD c.toNat default).Bl*100+c
theorem Sv {l:List Int} {m k:Nat} {v:Int}:(l.set m v).getD k 0=if m=k/\m<l.length then v else l.getD k 0:=by
 simp only [List.getD,ax]
 by_cases e:m=k
 ·subst e
  by_cases hl:m<l.length
  ·simp [hl]
  ·simp [hl]
 ·simp [e]
theorem Su {l:List Int} {k:Nat} (h:k<l.length):getI l (k:Int)=some (l.getD k 0):=Bj (by
 rw [ag h];simp [List.getD,List.getElem?_eq_getElem h])
structure Srt (b:Aa) (n i:Nat) (d:List Int):Prop where
 len:d.length=n
 low:∀ k,k<i->k<n->0<=d.getD k 0/\d.getD k 0<(i:Int)
 asc:∀ k m,k<m->m<i->m<n->key b (d.getD k 0)<key b (d.getD m 0)
 rest:∀ k,i<=k->k<n->d.getD k 0=(k:Int)
 mem:∀ v,v<n->∃ k,k<n/\d.getD k 0=(v:Int)
structure Ins (b:Aa) (n i j:Nat) (d:List Int):Prop where
 len:d.length=n
 here:d.getD j 0=(i:Int)
 low:∀ k,k<=i->k≠j->0<=d.getD k 0/\d.getD k 0<(i:Int)
 asc:∀ k m,k<m->m<=i->k≠j->m≠j->key b (d.getD k 0)<key b (d.getD m 0)
 big:∀ k,j<k->k<=i->key b (i:Int)<key b (d.getD k 0)
 rest:∀ k,i<k->k<n->d.getD k 0=(k:Int)
 mem:∀ v,v<n->∃ k,k<n/\d.getD k 0=(v:Int)
theorem Srt.ins {b:Aa} {n i:Nat} {d:List Int} (h:Srt b n i d) (hi:i<n):Ins b n i i d where
 len:=h.len
 here:=h.rest i (an _) hi
 low k hk hne:=h.low k (by omega) (by omega)
 asc k m hkm hm hk hm2:=h.asc k m hkm (by omega) (by omega)
 big k h1 h2:=by omega
 rest k h1 h2:=h.rest k (by omega) h2
 mem:=h.mem
theorem Ins.done {b:Aa} {n i j:Nat} {d:List Int} (h:Ins b n i j d) (hj:j<=i) (hk:0<j->key b (d.getD (j-1) 0)<key b (i:Int)):Srt b n (i+1) d:=by
 refine⟨h.len,λ k h1 h2=>?_,λ k m hkm hm hn=>?_,λ k h1 h2=>h.rest k (by omega) h2,h.mem⟩
 ·by_cases e:k=j
  ·rw [e,h.here];omega
  ·have:=h.low k (by omega) e
   omega
 ·have lo:∀ k,k<j->key b (d.getD k 0)<key b (i:Int):=λ k hkj=>by
   have h3:=hk (by omega)
   by_cases e:k=j-1
   ·rw [e];exact h3
   ·have:=h.asc k (j-1) (by omega) (by omega) (by omega) (by omega)
    omega
  by_cases e:k=j
  ·subst e
   rw [h.here]
   exact h.big m hkm (by omega)
  ·by_cases e2:m=j
   ·subst e2
    rw [h.here]
    exact lo k hkm
   ·exact h.asc k m hkm (by omega) e e2
theorem Ins.step {b:Aa} {n i j:Nat} {d:List Int} (h:Ins b n i j d) (hj:j<=i) (h0:0<j) (hi:i<n) (hk:key b (i:Int)<key b (d.getD (j-1) 0)):Ins b n i (j-1) ((d.set j (d.getD (j-1) 0)).set (j-1) (i:Int)):=by
 have hl:=h.len
 have ev:∀ k,((d.set j (d.getD (j-1) 0)).set (j-1) (i:Int)).getD k 0=if k=j-1 then (i:Int) else if k=j then d.getD (j-1) 0 else d.getD k 0:=λ k=>by
  rw [Sv,Sv,bL]
  by_cases e1:k=j-1
  ·have c1:j-1=k/\j-1<d.length:=⟨e1.symm,by omega⟩
   rw [if_pos c1,if_pos e1]
  ·have c1:¬(j-1=k/\j-1<d.length):=λ hh=>e1 hh.1.symm
   rw [if_neg c1,if_neg e1]
   by_cases e2:k=j
   ·have c2:j=k/\j<d.length:=⟨e2.symm,by omega⟩
    rw [if_pos c2,if_pos e2]
   ·have c2:¬(j=k/\j<d.length):=λ hh=>e2 hh.1.symm
    rw [if_neg c2,if_neg e2]
 refine⟨by simp [hl],?_,λ k h1 h2=>?_,λ k m hkm hm hk1 hm1=>?_,λ k h1 h2=>?_,λ k h1 h2=>?_,λ v hv=>?_⟩
 ·rw [ev,if_pos rfl]
 ·rw [ev,if_neg h2]
  split
  ·exact h.low (j-1) (by omega) (by omega)
  ·exact h.low k h1 (by omega)
 ·rw [ev,ev,if_neg hk1,if_neg hm1]
  by_cases e1:k=j
  ·rw [if_pos e1,if_neg (by omega)]
   subst e1
   exact h.asc (k-1) m (by omega) hm (by omega) (by omega)
  ·rw [if_neg e1]
   by_cases e2:m=j
   ·rw [if_pos e2]
    exact h.asc k (j-1) (by omega) (by omega) e1 (by omega)
   ·rw [if_neg e2]
    exact h.asc k m hkm hm e1 e2
 ·rw [ev,if_neg (by omega)]
  split
  ·exact hk
  ·exact h.big k (by omega) h2
 ·rw [ev,if_neg (by omega),if_neg (by omega)]
  exact h.rest k h1 h2
 ·obtain⟨k,hk1,hk2⟩:=h.mem v hv
  by_cases e1:k=j
  ·refine⟨j-1,by omega,?_⟩
   rw [ev,if_pos rfl,←hk2,e1,h.here]
  ·by_cases e2:k=j-1
   ·refine⟨j,by omega,?_⟩
    rw [ev,if_neg (by omega),if_pos rfl,←hk2,e2]
   ·refine⟨k,hk1,?_⟩
    rw [ev,if_neg e2,if_neg e1];exact hk2
theorem Ars {b:Aa} {x y:Nat} (hx:x<b.Ae.length) (hy:y<b.Ae.length):Mw (x:Int) (y:Int) b=some (if (b.Ae.getD x default).Bl<(b.Ae.getD y default).Bl then -1 else if (b.Ae.getD x default).Bl>(b.Ae.getD y default).Bl then 1 else 0):=by
 unfold Mw
 rw [Bj (F6 hx),Bj (F6 hy)]
 simp only [ac,Ago]
theorem Awm {b:Aa} (h:Av b) {i:Nat} (hi:i<b.Ae.length) {d:List Int} (hd:Ins b b.Ae.length i i d) :
  Ok (whileN (Nr 0 b) 1152921504606846976 ((i:Int),d)) (Dd (λ s=>Srt b b.Ae.length (i+1) s.2) λ (_:Unit)=>False):=by
 have hcl:=h.col
 refine cU (λ s=>∃ j:Nat,s.1=(j:Int)/\j<=i/\Ins b b.Ae.length i j s.2) (λ s=>s.1.toNat) _ _ ⟨i,rfl,an _,hd⟩ (by dsimp only;omega) ?_
 rintro⟨z,d⟩ ⟨j,hz,hj,hI⟩
 dsimp only at hz hI
 subst hz
 have hl:=hI.len
 unfold Nr
 dsimp only
 by_cases h0:0<j
 ·have e1:decide ((j:Int)>0)=true:=dF (by omega)
  have e2:w64 ((j:Int)-1)=((j-1:Nat):Int):=by rw [A9 (by omega)];omega
  have hlow:=hI.low (j-1) (by omega) (by omega)
  obtain⟨v,hv⟩:∃ v:Nat,d.getD (j-1) 0=(v:Int):=⟨(d.getD (j-1) 0).toNat,by omega⟩
  have hvi:v<i:=by omega
  have ec:=Ars (b:=b) hi (show v<b.Ae.length by omega)
  have g1:A4 [(decide ((j:Int)>0),true)] (getI d (j:Int)) default=some (i:Int):=by
   rw [e1,Su (by omega),hI.here];rfl
  have g2:A4 [(decide ((j:Int)>0),true)] (getI d (w64 ((j:Int)-1))) default=some (v:Int):=by
   rw [e1,e2,Su (by omega),hv];rfl
  rw [g1,g2]
  simp only [ac]
  have g3:A4 [(decide ((j:Int)>0),true)] (Mw (i:Int) (v:Int) b) default=Mw (i:Int) (v:Int) b:=by rw [e1];rw [ec];rfl
  rw [g3,ec]
  simp only [ac]
  have hci:=h.co i _ (F6 hi)
  have hcv:=h.co v _ (F6 (show v<b.Ae.length by omega))
  have ki:key b (i:Int)=(b.Ae.getD i default).Bl*100+(i:Int):=by unfold key;rw [aF]
  have kv:key b (v:Int)=(b.Ae.getD v default).Bl*100+(v:Int):=by unfold key;rw [aF]
  refine cR (λ hq=>?_) (λ hq=>?_)
  ·simp only [Xy,ae,dA] at hq
   have hlt:(b.Ae.getD i default).Bl<(b.Ae.getD v default).Bl:=by
    have:=hq.2
    split at this
    ·assumption
    ·split at this <;> omega
   have e3:getI d (w64 ((j:Int)-1))=some (d.getD (j-1) 0):=by rw [e2,Su (by omega)]
   have e4:getI d (j:Int)=some (i:Int):=by rw [Su (by omega),hI.here]
   rw [e3,e4]
   simp only [ac]
   rw [e2,L4 (by omega)]
   simp only [ac]
   rw [Su (by rw [bL];omega)]
   simp only [ac]
   rw [L4 (by rw [bL];omega)]
   simp only [ac]
   refine cS ⟨⟨j-1,rfl,by omega,hI.step hj h0 hi ?_⟩,by dsimp only;omega⟩
   rw [hv,ki,kv];omega
  ·refine d8 (hI.done hj λ _=>?_)
   simp only [Xy,Bool.and_eq_false_iff,dC] at hq
   have hge:¬(b.Ae.getD i default).Bl<(b.Ae.getD v default).Bl:=by
    intro hlt
    rw [if_pos hlt] at hq
    omega
   rw [hv,ki,kv];omega
 ·have h00:j=0:=by omega
  subst h00
  exact d8 (hI.done hj λ hh=>by omega)
theorem Azf {b:Aa} (h:Av b) {d:List Int} (hd:Srt b b.Ae.length 0 d):Ok (Ty d b) λ y=>Srt b b.Ae.length b.Ae.length y.1:=by
 have hcl:=h.col
 have hl:=hd.len
 unfold Ty qQ
 rw [hl]
 refine Ok.bind (P:=λ y=>Srt b b.Ae.length b.Ae.length y.1) ?_ λ y hy=>c9 hy
 refine Ok.andThen (A:=λ s=>s=((0:Int),(20:Int),d,b.An,b.Ad,b.Ac,b.Ae,b.Phase,b.Ap)) (B:=λ (_:Unit)=>False) ?_ (λ s hs=>?_) (λ _ h=>h.elim)
 ·refine cU (λ s=>s=((0:Int),(20:Int),d,b.An,b.Ad,b.Ac,b.Ae,b.Phase,b.Ap)) (λ _=>0) _ _ rfl (by omega) ?_
  intro s hs
  subst hs
  unfold Tw
  dsimp only
  refine cR (λ hq=>?_) (λ _=>d8 rfl)
  simp only [dA] at hq
  omega
 ·subst hs
  dsimp only
  refine Ok.bind (P:=λ y=>Srt b b.Ae.length b.Ae.length y.1) ?_ λ y hy=>?_
  ·unfold Tu
   have e1:w64 (0+1)=1:=by rw [A9 (by omega)];rfl
   rw [e1]
   refine Ok.andThen (A:=λ s=>Srt b b.Ae.length b.Ae.length s.2) (B:=λ (_:Unit)=>False) ?_ (λ s hs=>c9 hs) (λ _ h=>h.elim)
   refine cU (λ s=>∃ i:Nat,s.1=(i:Int)/\1<=i/\(i<=b.Ae.length\/b.Ae.length=0)/\Srt b b.Ae.length i s.2) (λ s=>(100-s.1).toNat) _ _ ⟨1,rfl,by omega,by omega,?_⟩ (by dsimp only;omega) ?_
   ·refine⟨hl,λ k h1 h2=>?_,λ k m h1 h2 h3=>by omega,λ k h1 h2=>hd.rest k (by omega) h2,hd.mem⟩
    have:k=0:=by omega
    subst this
    have:=hd.rest 0 (an _) h2
    dsimp only
    rw [this];omega
   ·rintro⟨z,d'⟩ ⟨i,hz,h1,h2,hS⟩
    dsimp only at hz hS
    subst hz
    unfold Tt
    dsimp only
    refine cR (λ hq=>?_) (λ hq=>d8 ?_)
    ·simp only [dA] at hq
     have hin:i<b.Ae.length:=by omega
     refine Ok.inner (Awm h hin (hS.ins hin)) (λ s hs=>?_) (λ _ h=>h.elim)
     have e2:w64 ((i:Int)+1)=((i+1:Nat):Int):=by rw [A9 (by omega)];omega
     rw [e2]
     exact cS ⟨⟨i+1,rfl,by omega,by omega,hs⟩,by dsimp only;omega⟩
    ·simp only [dC] at hq
     dsimp only
     have hge:b.Ae.length<=i:=by omega
     refine⟨hS.len,λ k g1 g2=>?_,λ k m g1 g2 g3=>hS.asc k m g1 (by omega) g3,λ k g1 g2=>by omega,hS.mem⟩
     obtain⟨w1,w2⟩:=hS.low k (by omega) g2
     exact⟨w1,by omega⟩
  ·refine Ok.andThen (A:=λ _=>True) (B:=λ (_:Unit)=>False) ?_ (λ s hs=>c9 hy) (λ _ h=>h.elim)
   refine cU (λ _=>True) (λ _=>0) _ _ trivial (by omega) ?_
   intro s _
   unfold Tv
   refine cR (λ hq=>?_) (λ _=>d8 trivial)
   simp only [dA] at hq
   omega
def Mc (b:Aa):List Int:=(Yr b).getD []
theorem Xf {b:Aa} (h:Av b):Yr b=some (Mc b)/\Srt b b.Ae.length b.Ae.length (Mc b):=by
 have hcl:=h.col
 have key:Ok (Yr b) λ y=>Srt b b.Ae.length b.Ae.length y:=by
  unfold Yr
  rw [Agq h]
  simp only [ac]
  refine cR (λ hc=>by simp at hc) (λ _=>?_)
  refine Ok.andThen (A:=λ s=>s.2=Ci b.Ae.length) (B:=λ (_:Unit)=>False) ?_ (λ s hs=>?_) (λ _ h=>h.elim)
  ·refine cU (λ s=>∃ i:Nat,s.1=(i:Int)/\i<=b.Ae.length/\s.2=Ci i) (λ s=>(100-s.1).toNat) _ _ ⟨0,rfl,by omega,rfl⟩ (by dsimp only;omega) ?_
   rintro⟨z,d⟩ ⟨i,hz,h1,h2⟩
   dsimp only at hz h2
   subst hz
   subst h2
   unfold yZ Ate
   dsimp only
   refine cR (λ hq=>?_) (λ hq=>d8 ?_)
   ·simp only [dA] at hq
    refine (cW (by simp [Ci];omega)).bind λ y hy=>?_
    have e2:w64 ((i:Int)+1)=((i+1:Nat):Int):=by rw [A9 (by omega)];omega
    rw [e2]
    refine cS ⟨⟨i+1,rfl,by omega,?_⟩,by dsimp only;omega⟩
    dsimp only
    rw [hy]
    unfold Ci
    rw [cj,bI];rfl
   ·simp only [dC] at hq
    have:i=b.Ae.length:=by omega
    subst this;rfl
  ·rw [hs]
   refine (Azf h ?_).bind λ y hy=>c9 hy
   refine⟨by simp [Ci],λ k h1=>by omega,λ k m _ h1=>by omega,λ k _ h2=>Kf h2,λ v hv=>⟨v,hv,Kf hv⟩⟩
 obtain⟨r,e,hr⟩:=key
 have:Mc b=r:=by unfold Mc;rw [e];rfl
 rw [this]
 exact⟨e,hr⟩
theorem A1b {b:Aa} (h:Av b) {c:Int} (hc:c∈Mc b):0<=c/\c<b.Ae.length:=by
 have hs:=(Xf h).2
 obtain⟨k,hk⟩:=List.mem_iff_getElem?.1 hc
 have hlt:=(aa.1 hk).1
 have:=hs.low k (by have:=hs.len;omega) (by have:=hs.len;omega)
 have e:(Mc b).getD k 0=c:=by simp [List.getD,hk]
 rwa [e] at this
theorem Ala {b:Aa} (h:Av b):(Mc b).length=b.Ae.length:=(Xf h).2.len
def Rk (L:List Int) (l:List Int):Int:=l.foldl (λ s c=>s+L.getD c.toNat 0) 0
theorem zW (L:List Int) (l:List Int) (c:Int):Rk L (l++[c])=Rk L l+L.getD c.toNat 0:=by
 unfold Rk;rw [aX];rfl
def Gt (b:Aa) (p:Ab) (n:Nat):Nat:=((A8 b p).getD n 0).toNat
def Gy (b:Aa) (p:Ab) (n:Nat):Int:=if 0<(isl b p (Gt b p n)).Ac.length then Rk p.Aq (isl b p (Gt b p n)).Ae else 0
def Ack (b:Aa):List Int:=b.Ac.map (·.Rating)
def L9 (b:Aa) (p:Ab) (n:Nat):Int:=Rk (Ack b) (isl b p (Gt b p n)).Ac
theorem Azz {b:Aa} {p:Ab} {f:Nat} {i:Int} (hi:i∈(isl b p f).Ae):0<=i/\i<b.Ae.length:=by
 obtain⟨k,hk,rfl⟩:=am.1 hi
 have:=aZ.1 (aD.1 hk).1
 omega
theorem Vf {b:Aa} {p:Ab} {f:Nat} {i:Int} (hi:i∈(isl b p f).Ac):0<=i/\i<b.Ac.length:=by
 obtain⟨k,hk,rfl⟩:=am.1 hi
 have:=aZ.1 (aD.1 hk).1
 omega
theorem Afq {b:Aa} (h:Av b) {p:Ab} (hp:Ax b p) {c:Int} (h0:0<=c) (h1:c<b.Ae.length):getI p.Aq c=some (p.Aq.getD c.toNat 0)/\0<=p.Aq.getD c.toNat 0/\p.Aq.getD c.toNat 0<=(b.Ae.getD c.toNat default).Load/\p.Aq.getD c.toNat 0<=50000:=by
 have hn:=hp.nli
 obtain⟨k,rfl⟩:∃ k:Nat,c=(k:Int):=⟨c.toNat,by omega⟩
 rw [aF]
 have hg:=F6 (b:=b) (i:=k) (by omega)
 have hl:=hp.lim k _ _ (Ali (p:=p) (by omega)) hg
 have hc:=(h.co k _ hg).1
 exact⟨Bj (Ali (by omega)),hl.1,hl.2,by omega⟩
theorem A8h {b:Aa} {c:Int} (h0:0<=c) (h1:c<b.Ae.length):getI b.Ae c=some (b.Ae.getD c.toNat default):=by
 obtain⟨k,rfl⟩:∃ k:Nat,c=(k:Int):=⟨c.toNat,by omega⟩
 rw [aF]
 exact Bj (F6 (by omega))
theorem Vd {b:Aa} (h:Av b) {p:Ab} (hp:Ax b p) {n:Nat} (hn:n<b.An.toNat):T3 b p (n:Int)=some (Gy b p n)/\0<=Gy b p n/\Gy b p n<=800000:=by
 have hcl:=h.col
 have hlen:(isl b p (Gt b p n)).Ae.length<=b.Ae.length:=C9 _ _
 have key:Ok (T3 b p (n:Int)) λ y=>y=Gy b p n/\0<=Gy b p n/\Gy b p n<=800000:=by
  unfold T3
  have hof:Gb b p (n:Int)=some (isl b p (Gt b p n),true):=of_eq h hp hn
  rw [hof]
  simp only [ac]
  refine Ok.andThen (A:=λ s=>s=Gy b p n/\0<=Gy b p n/\Gy b p n<=800000) (B:=λ (_:Unit)=>False) ?_ (λ s hs=>c9 hs) (λ _ h=>h.elim)
  by_cases hs:0<(isl b p (Gt b p n)).Ac.length
  ·refine cT (I:=λ j s=>s=Rk p.Aq ((isl b p (Gt b p n)).Ae.take j)/\0<=s/\s<=50000*(j:Int)) ⟨rfl,by omega,by omega⟩ (λ j c s hc hI=>?_) λ s hI=>?_
   ·obtain⟨h1,h2,h3⟩:=hI
    have hj:j<(isl b p (Gt b p n)).Ae.length:=(aa.1 hc).1
    have hcm:=Azz (af hc)
    obtain⟨g1,g2,g3,g4⟩:=Afq h hp hcm.1 hcm.2
    unfold V3
    have e:decide (((isl b p (Gt b p n)).Ac.length:Int)>0)=true:=dF (by omega)
    show Ok (bif decide (((isl b p (Gt b p n)).Ac.length:Int)>0) then _ else _) _
    rw [e,g1]
    simp only [cond_true,ac]
    rw [A9 (by omega)]
    refine cS ⟨?_,by omega,by omega⟩
    rw [Bi hc,zW,h1]
   ·rw [aG] at hI
    have e:Gy b p n=Rk p.Aq (isl b p (Gt b p n)).Ae:=by unfold Gy;rw [if_pos hs]
    rw [e,←hI.1]
    exact⟨rfl,hI.2.1,by omega⟩
  ·have e:Gy b p n=0:=by unfold Gy;rw [if_neg hs]
   rw [e]
   refine cT (I:=λ _ s=>s=0) rfl (λ j c s hc hI=>?_) λ s hI=>⟨hI,by omega,by omega⟩
   unfold V3
   have e:decide (((isl b p (Gt b p n)).Ac.length:Int)>0)=false:=decide_eq_false (by omega)
   show Ok (bif decide (((isl b p (Gt b p n)).Ac.length:Int)>0) then _ else _) _
   rw [e]
   exact cS hI
 obtain⟨r,e,h1,h2⟩:=key
 rw [h1] at e
 exact⟨e,h2⟩
theorem Nd {b:Aa} (h:Av b) {p:Ab} (hp:Ax b p) {n:Nat} (hn:n<b.An.toNat):T4 b p (n:Int)=some (L9 b p n)/\0<=L9 b p n/\L9 b p n<=400000:=by
 have hcl:=h.sol
 have hlen:(isl b p (Gt b p n)).Ac.length<=b.Ac.length:=C9 _ _
 have key:Ok (T4 b p (n:Int)) λ y=>y=L9 b p n/\0<=L9 b p n/\L9 b p n<=400000:=by
  unfold T4
  have hof:Gb b p (n:Int)=some (isl b p (Gt b p n),true):=of_eq h hp hn
  rw [hof]
  simp only [ac]
  refine Ok.andThen (A:=λ s=>s=L9 b p n/\0<=L9 b p n/\L9 b p n<=400000) (B:=λ (_:Unit)=>False) ?_ (λ s hs=>c9 hs) (λ _ h=>h.elim)
  refine cT (I:=λ j s=>s=Rk (Ack b) ((isl b p (Gt b p n)).Ac.take j)/\0<=s/\s<=50000*(j:Int)) ⟨rfl,by omega,by omega⟩ (λ j c s hc hI=>?_) λ s hI=>?_
  ·obtain⟨h1,h2,h3⟩:=hI
   have hj:j<(isl b p (Gt b p n)).Ac.length:=(aa.1 hc).1
   have hcm:=Vf (af hc)
   unfold yY
   refine (cV hcm.1 hcm.2).bind λ y hy=>?_
   have hr:=(h.so y (af hy)).1
   have e:(Ack b).getD c.toNat 0=y.Rating:=by simp [Ack,List.getD,hy]
   rw [A9 (by omega)]
   refine cS ⟨?_,by omega,by omega⟩
   rw [Bi hc,zW,h1,e]
  ·rw [aG] at hI
   unfold L9
   rw [←hI.1]
   exact⟨rfl,hI.2.1,by omega⟩
 obtain⟨r,e,h1,h2⟩:=key
 rw [h1] at e
 exact⟨e,h2⟩
def Mn (b:Aa) (p:Ab) (n:Nat):Int:=max 0 (Gy b p n-L9 b p n)
theorem Aa6 {b:Aa} (h:Av b) {p:Ab} (hp:Ax b p) (acts:List Am) {n:Nat} (hn:n<b.An.toNat):O5 ⟨b,p,acts⟩ (n:Int)=some (Mn b p n):=by
 obtain⟨h1,h2,h3⟩:=Vd h hp hn
 obtain⟨h4,h5,h6⟩:=Nd h hp hn
 unfold O5
 simp only [h1,h4,ac]
 rw [A9 (by omega)];rfl
theorem A0d {b:Aa} (h:Av b) {p:Ab} (hp:Ax b p) {n:Nat} (hn:n<b.An.toNat):0<=Mn b p n/\Mn b p n<=800000:=by
 obtain⟨h1,h2,h3⟩:=Vd h hp hn
 obtain⟨h4,h5,h6⟩:=Nd h hp hn
 unfold Mn
 omega
def Bz (p:Ab) (L:List Int):Ab:=⟨p.Ag,p.Ac,L,p.Ao⟩
def Dy (p:Ab) (C:List Bool):Ab:=⟨C,p.Ac,p.Aq,p.Ao⟩
def Gz (b:Aa) (p:Ab) (n:Nat) (c:Int):Int:=min (Mn b p n) (p.Aq.getD c.toNat 0-(b.Ae.getD c.toNat default).Least)
def N2 (b:Aa) (p:Ab) (n:Nat) (z:List Int×List Am) (c:Int):List Int×List Am:=
 if 0<Gz b (Bz p z.1) n c then (z.1.set c.toNat (z.1.getD c.toNat 0-Gz b (Bz p z.1) n c),z.2++[⟨5,c,z.1.getD c.toNat 0-Gz b (Bz p z.1) n c⟩]) else z
def Ig (b:Aa) (p:Ab) (n:Nat) (l:List Int) (z:List Int×List Am):List Int×List Am:=l.foldl (N2 b p n) z
theorem Aab {b:Aa} {p:Ab} (hp:Ax b p) {c:Nat} {v:Int} (hv:0<=v/\v<=(b.Ae.getD c default).Load):Ax b (Bz p (p.Aq.set c v)) where
 ncl:=hp.ncl
 nso:=hp.nso
 nli:=by simp [Bz,hp.nli]
 run:=hp.run
 lim i n x hn hx:=by
  simp only [Bz,ax] at hn
  by_cases e:c=i
  ·subst e
   have ex:b.Ae.getD c default=x:=by simp [List.getD,hx]
   rw [ex] at hv
   rw [if_pos rfl] at hn
   split at hn
   ·cases hn;exact hv
   ·cases hn
  ·rw [if_neg e] at hn
   exact hp.lim i n x hn hx
 one:=hp.one
 brk:=hp.brk
theorem Alh {b:Aa} (h:Av b) {p:Ab} {n:Nat} {z:List Int×List Am} (hz:Ax b (Bz p z.1)) {c:Int} (h0:0<=c) (h1:c<b.Ae.length):Ax b (Bz p (N2 b p n z c).1):=by
 unfold N2
 split
 ·rename_i hl
  obtain⟨_,g2,g3,_⟩:=Afq h hz h0 h1
  have hco:=(h.co c.toNat _ (F6 (b:=b) (i:=c.toNat) (by omega))).2.1
  have hm:Gz b (Bz p z.1) n c<=z.1.getD c.toNat 0-(b.Ae.getD c.toNat default).Least:=Int.min_le_right _ _
  exact Aab (p:=Bz p z.1) hz (c:=c.toNat) ⟨by omega,by
   have:(Bz p z.1).Aq.getD c.toNat 0=z.1.getD c.toNat 0:=rfl
   omega⟩
 ·exact hz
theorem Afp {b:Aa} (h:Av b) {p:Ab} (hp:Ax b p) {acts:List Am} {l:List Int} (hl:∀ c,c∈l->0<=c/\c<b.Ae.length) (ha:acts.length+l.length<=100000) {n:Nat} (hn:n<b.An.toNat) :
  O8 ⟨b,p,acts⟩ l (n:Int)=some ⟨b,Bz p (Ig b p n l (p.Aq,acts)).1,(Ig b p n l (p.Aq,acts)).2⟩/\Ax b (Bz p (Ig b p n l (p.Aq,acts)).1)/\(Ig b p n l (p.Aq,acts)).2.length<=acts.length+l.length:=by
 have key : Ok (O8 ⟨b, p, acts⟩ l (n : Int)) λ y => y = ⟨b, Bz p (Ig b p n l (p.Aq, acts)).1, (Ig b p n l (p.Aq, acts)).2⟩ /\ Ax b (Bz p (Ig b p n l (p.Aq, acts)).1) /\ (Ig b p n l (p.Aq, acts)).2.length <= acts.length + l.length := by
  unfold O8
  refine Ok.andThen (A:=λ s=>s=Ig b p n l (p.Aq,acts)/\Ax b (Bz p s.1)/\s.2.length<=acts.length+l.length) (B:=λ (_:Unit)=>False) ?_ (λ s hs=>?_) (λ _ h=>h.elim)
  ·refine cT (I:=λ j s=>s=Ig b p n (l.take j) (p.Aq,acts)/\Ax b (Bz p s.1)/\s.2.length<=acts.length+j) ⟨rfl,hp,by simp⟩ (λ j c s hc hI=>?_) λ s hI=>?_
   ·obtain⟨h1,h2,h3⟩:=hI
    have hj:j<l.length:=(aa.1 hc).1
    have hin:=hl c (af hc)
    obtain⟨g1,g2,g3,g4⟩:=Afq h h2 hin.1 hin.2
    have hco:=(h.co c.toNat _ (F6 (b:=b) (i:=c.toNat) (by omega))).2.1
    have hcl:=(h.co c.toNat _ (F6 (b:=b) (i:=c.toNat) (by omega))).1
    have hex:=A0d h h2 hn
    have hE:=Aa6 h h2 s.2 hn
    have hsucc:Ig b p n (l.take (j+1)) (p.Aq,acts)=N2 b p n s c:=by
     rw [Bi hc,h1];unfold Ig;rw [aX];rfl
    have hok:=Alh (n:=n) h h2 hin.1 hin.2
    have hless:w64 ((Bz p s.1).Aq.getD c.toNat 0-(b.Ae.getD c.toNat default).Least)=(Bz p s.1).Aq.getD c.toNat 0-(b.Ae.getD c.toNat default).Least:=A9 (by omega)
    have hlen:s.1.length=b.Ae.length:=h2.nli
    unfold T7
    refine Ok.bind (P:=λ y=>y=Mn b (Bz p s.1) n) (cY hE rfl) λ y hy=>?_
    subst hy
    refine Ok.bind (P:=λ y=>y=(Bz p s.1).Aq.getD c.toNat 0) (cY g1 rfl) λ y hy=>?_
    subst hy
    refine Ok.bind (P:=λ y=>y=b.Ae.getD c.toNat default) (cY (A8h hin.1 hin.2) rfl) λ y hy=>?_
    subst hy
    have em:min (Mn b (Bz p s.1) n) (w64 ((Bz p s.1).Aq.getD c.toNat 0-(b.Ae.getD c.toNat default).Least))=Gz b (Bz p s.1) n c:=by rw [hless];rfl
    have hlb:0<Gz b (Bz p s.1) n c->0<=(Bz p s.1).Aq.getD c.toNat 0-Gz b (Bz p s.1) n c/\(Bz p s.1).Aq.getD c.toNat 0-Gz b (Bz p s.1) n c<=50000:=λ hh=>by
     have hm:Gz b (Bz p s.1) n c<=(Bz p s.1).Aq.getD c.toNat 0-(b.Ae.getD c.toNat default).Least:=Int.min_le_right _ _
     omega
    refine cR (λ hq=>?_) (λ hq=>?_)
    ·simp only [Xz,em,dA,gt_iff_lt] at hq
     have hb2:=hlb hq
     rw [em,A9 (by omega)]
     have eS:N2 b p n s c=(s.1.set c.toNat (s.1.getD c.toNat 0-Gz b (Bz p s.1) n c),s.2++[⟨5,c,s.1.getD c.toNat 0-Gz b (Bz p s.1) n c⟩]):=by unfold N2;rw [if_pos hq]
     refine (d4 hin.1 (by omega)).bind λ y hy=>?_
     subst hy
     refine Ok.bind (P:=λ v=>v=s.1.getD c.toNat 0-Gz b (Bz p s.1) n c) ?_ λ v hv=>?_
     ·refine (cV hin.1 (by rw [bL];omega)).mono λ v hv=>?_
      rw [bK (by omega)] at hv
      cases hv;rfl
     ·subst hv
      refine (cW (by simp;omega)).bind λ w hw=>cS ?_
      subst hw
      rw [hsucc,eS]
      rw [eS] at hok
      exact⟨rfl,hok,by simp;omega⟩
    ·simp only [Xz,em,dC,gt_iff_lt] at hq
     have eS:N2 b p n s c=s:=by unfold N2;rw [if_neg hq]
     refine cS ?_
     rw [hsucc,eS]
     exact⟨rfl,h2,by show s.2.length<=_;omega⟩
   ·rw [aG] at hI
    exact hI
  ·obtain⟨h1,h2,h3⟩:=hs
   subst h1
   exact c9 ⟨rfl,h2,h3⟩
 obtain⟨r,e,h1,h2⟩:=key
 rw [h1] at e
 exact⟨e,h2⟩
def isC (c:Int) (x:Aj):Bool:=x.Kind==3&&x.B==c
theorem Ap3 {b:Aa} (h:Av b) {p:Ab} (hp:Ax b p) {acts:List Am} (ha:acts.length<=100000) (c:Int):Uc ⟨b,p,acts⟩ c=some (⟨b,Dy p (acC b p.Ag (isC c)),acts++acA b p.Ag (isC c)⟩,c):=by
 have hbl:=h.brl
 have hnc:=hp.ncl
 refine d7 ?_
 unfold Uc
 refine Ok.andThen (A:=λ s=>s=C4 b p.Ag (isC c) b.Ad.length) (B:=λ (_:Unit)=>False) ?_ (λ s hs=>?_) (λ _ h=>h.elim)
 ·refine cT (I:=λ j s=>s=C4 b p.Ag (isC c) j) rfl (λ j x s hx hs=>?_) λ s hs=>hs
  have hj:j<b.Ad.length:=(aa.1 hx).1
  have hfl:=F4 b p.Ag (isC c) j
  have hfs:=P_ (C:=p.Ag) (q:=isC c) hx
  subst hs
  unfold Ub
  rw [Cv (by omega),Bj (Tf hp hj)]
  simp only [ac]
  have e:Tx x c=isC c x:=rfl
  rw [e,hfs]
  cases (p.Ag.getD j false&&isC c x) with
  | false=>refine cS ?_;simp
  | true=>
   refine Ok.bind (P:=λ y=>y=C4 b p.Ag (isC c) j++[(j:Int)]) (cW (by simp;omega)) λ y hy=>cS ?_
   rw [hy];simp
 ·subst hs
  have hfl:=F4 b p.Ag (isC c) b.Ad.length
  refine Ok.andThen (Xg (b:=b) (p:=p) (acts:=acts) (l:=C4 b p.Ag (isC c) b.Ad.length) (by omega) λ i hi=>?_) (λ s hs=>?_) (λ _ h=>h.elim)
  ·obtain⟨k,rfl,hk,_⟩:=Hs.1 hi
   omega
  ·subst hs
   exact c9 rfl
def H7 (b:Aa) (p:Ab) (n:Nat) (z:List Bool×List Am) (c:Int):List Bool×List Am:=
 if 0<p.Aq.getD c.toNat 0/\0<Mn b (Dy p z.1) n then (acC b z.1 (isC c),z.2++acA b z.1 (isC c)) else z
def E1 (b:Aa) (p:Ab) (n:Nat) (l:List Int) (z:List Bool×List Am):List Bool×List Am:=l.foldl (H7 b p n) z
theorem Akc {b:Aa} (h:Av b) {p:Ab} (hp:Ax b p) {acts:List Am} {l:List Int} (hl:∀ c,c∈l->0<=c/\c<b.Ae.length) (ha:acts.length+24*l.length<=100000) {n:Nat} (hn:n<b.An.toNat) :
  O7 ⟨b,p,acts⟩ l (n:Int)=some ⟨b,Dy p (E1 b p n l (p.Ag,acts)).1,(E1 b p n l (p.Ag,acts)).2⟩/\Ax b (Dy p (E1 b p n l (p.Ag,acts)).1)/\(E1 b p n l (p.Ag,acts)).2.length<=acts.length+24*l.length:=by
 have hbl:=h.brl
 have key : Ok (O7 ⟨b, p, acts⟩ l (n : Int)) λ y => y = ⟨b, Dy p (E1 b p n l (p.Ag, acts)).1, (E1 b p n l (p.Ag, acts)).2⟩ /\ Ax b (Dy p (E1 b p n l (p.Ag, acts)).1) /\ (E1 b p n l (p.Ag, acts)).2.length <= acts.length + 24 * l.length := by
  unfold O7
  refine Ok.andThen (A:=λ s=>∃ z:List Bool×List Am,s=(b.An,b.Ad,b.Ac,b.Ae,b.Phase,b.Ap,z.1,p.Ac,p.Aq,p.Ao,z.2)/\z=E1 b p n l (p.Ag,acts)/\Ax b (Dy p z.1)/\z.2.length<=acts.length+24*l.length) (B:=λ (_:Unit)=>False) ?_ (λ s hs=>?_) (λ _ h=>h.elim)
  ·refine cT (I:=λ j s=>∃ z:List Bool×List Am,s=(b.An,b.Ad,b.Ac,b.Ae,b.Phase,b.Ap,z.1,p.Ac,p.Aq,p.Ao,z.2)/\z=E1 b p n (l.take j) (p.Ag,acts)/\Ax b (Dy p z.1)/\z.2.length<=acts.length+24*j) ⟨(p.Ag,acts),rfl,rfl,hp,by simp⟩ (λ j c s hc hI=>?_) λ s hI=>?_
   ·obtain⟨z,h0,h1,h2,h3⟩:=hI
    subst h0
    have hj:j<l.length:=(aa.1 hc).1
    have hin:=hl c (af hc)
    obtain⟨g1,g2,g3,g4⟩:=Afq h hp hin.1 hin.2
    have hE:=Aa6 h h2 z.2 hn
    have hsucc:E1 b p n (l.take (j+1)) (p.Ag,acts)=H7 b p n z c:=by
     rw [Bi hc,h1];unfold E1;rw [aX];rfl
    unfold T6
    refine Ok.bind (P:=λ y=>y=p.Aq.getD c.toNat 0) (cY g1 rfl) λ y hy=>?_
    subst hy
    have stay:¬(0<p.Aq.getD c.toNat 0/\0<Mn b (Dy p z.1) n)->∃ w:List Bool×List Am,(b.An,b.Ad,b.Ac,b.Ae,b.Phase,b.Ap,z.1,p.Ac,p.Aq,p.Ao,z.2)=(b.An,b.Ad,b.Ac,b.Ae,b.Phase,b.Ap,w.1,p.Ac,p.Aq,p.Ao,w.2)/\w=E1 b p n (l.take (j+1)) (p.Ag,acts)/\Ax b (Dy p w.1)/\w.2.length<=acts.length+24*(j+1):=λ hh=>by
     have eS:H7 b p n z c=z:=by unfold H7;rw [if_neg hh]
     exact⟨z,rfl,by rw [hsucc,eS],h2,by omega⟩
    cases hq:decide (p.Aq.getD c.toNat 0>0) with
    | false=>
     simp only [dC] at hq
     exact cS (stay λ hh=>hq hh.1)
    | true=>
     simp only [dA] at hq
     refine Ok.bind (P:=λ y=>y=Mn b (Dy p z.1) n) (cY hE rfl) λ y hy=>?_
     subst hy
     cases hq2:decide (Mn b (Dy p z.1) n>0) with
     | false=>
      simp only [dC] at hq2
      exact cS (stay λ hh=>hq2 hh.2)
     | true=>
      simp only [dA] at hq2
      have hS:=Ap3 h h2 (acts:=z.2) (by omega) c
      refine Ok.bind (P:=λ y=>y=_) (cY hS rfl) λ y hy=>cS ?_
      subst hy
      have eS:H7 b p n z c=(acC b z.1 (isC c),z.2++acA b z.1 (isC c)):=by unfold H7;rw [if_pos ⟨hq,hq2⟩]
      refine⟨(acC b z.1 (isC c),z.2++acA b z.1 (isC c)),rfl,by rw [hsucc,eS],Ag8 h2 (isC c),?_⟩
      have:=Vr b z.1 (isC c)
      show (z.2++acA b z.1 (isC c)).length<=_
      rw [aA];omega
   ·rw [aG] at hI
    exact hI
  ·obtain⟨z,h0,h1,h2,h3⟩:=hs
   subst h0;subst h1
   exact c9 ⟨rfl,h2,h3⟩
 obtain⟨r,e,h1,h2⟩:=key
 rw [h1] at e
 exact⟨e,h2⟩
def Hn (x:Ai) (c:Int):Bool:=x.Ae.any (c == ·)
theorem Ax7 {x:Ai} (hx:x.Ae.length<=1000) (c:Int):O9 c x=some (!Hn x c):=by
 unfold O9
 rw [Dm _ _ (by omega)];rfl
theorem Abb {x:Ai} (hx:x.Ae.length<=1000):∀ (l:List Int) (k:Nat),foldI (Ns x) l k ()=match l.findIdx? λ c=>!Hn x c with
  | some j=>some (.ret (cnt 0 (k+j),x))
  | none=>some (.next ())
 | [],_=>rfl
 | c::l,k=>by
  simp only [foldI,Ns,Ax7 hx,ac,List.findIdx?_cons]
  cases hq:(!Hn x c) with
  | true=>rfl
  | false=>
   simp only [cond_false,bU,if_false]
   rw [Abb hx l (k+1)]
   cases l.findIdx? λ c=>!Hn x c with
   | none=>rfl
   | some j=>
    have e:k+1+j=k+(j+1):=by omega
    simp only [bS,e]
theorem A0h {x:Ai} (hx:x.Ae.length<=1000) (l:List Int) (hl:l.length<=1000):T9 l x=some (l.filter (Hn x),x):=by
 refine d7 ?_
 unfold T9 qR
 rw [Abb hx]
 cases hf:l.findIdx? λ c=>!Hn x c with
 | none=>
  rw [cM] at hf
  refine c9 ?_
  have:l.filter (Hn x)=l:=by
   rw [cI]
   intro c hc
   have:=hf c hc
   simpa using this
  rw [this]
 | some i=>
  rw [cN] at hf
  obtain⟨hi,hp,hn⟩:=hf
  have e0:cnt 0 (0+i)=(i:Int):=by rw [aI];exact Cv (by omega)
  simp only [e0,andThen,ac]
  refine cR (λ hc=>?_) (λ _=>?_)
  ·simp only [dD] at hc;omega
  have e1:w64 ((i:Int)+1)=(i:Int)+1:=A9 (by omega)
  rw [e1]
  refine Ok.andThen (A:=λ s=>0<=s.1/\s.1<=(l.length:Int)/\s.2.2.length=l.length/\s.2.2.take s.1.toNat=l.filter (Hn x)) (B:=λ (_:Unit)=>False) ?_ ?_ (λ _ h=>h.elim)
  ·refine cU (λ s=>(0<=s.1/\s.1<s.2.1/\s.2.1<=(l.length:Int))/\s.2.2.length=l.length/\s.2.2.take s.1.toNat=(l.take s.2.1.toNat).filter (Hn x)/\s.2.2.drop s.2.1.toNat=l.drop s.2.1.toNat) (λ s=>((l.length:Int)-s.2.1).toNat) _ _ ?_ ?_ ?_
   ·refine⟨by dsimp only;omega,rfl,?_,rfl⟩
    dsimp only
    have e2:((i:Int)+1).toNat=i+1:=by omega
    rw [e2,aF,Bi (ag hi),bt]
    have h1:(l.take i).filter (Hn x)=l.take i:=by
     rw [cI]
     intro c hc
     obtain⟨j,hj,rfl⟩:=cD hc
     simp only [aU] at hj
     rw [List.getElem_take]
     have:=hn j (by omega)
     simpa using this
    have h2:Hn x l[i]=false:=by simpa using hp
    rw [h1]
    simp [h2]
   ·dsimp only;omega
   ·rintro⟨a,j,m⟩ ⟨⟨h1,h2,h3⟩,h4,h5,h6⟩
    dsimp only at h1 h2 h3 h4 h5 h6
    unfold T8 Agu
    dsimp only
    refine cR (λ hq=>?_) (λ hq=>?_)
    ·simp only [dA] at hq
     have e1:w64 (j+1)=j+1:=A9 (by omega)
     have e2:w64 (a+1)=a+1:=A9 (by omega)
     have e3:(j+1).toNat=j.toNat+1:=by omega
     have e4:(a+1).toNat=a.toNat+1:=by omega
     refine (cV (by omega) (by omega)).bind λ y hy=>?_
     have hyl:l[j.toNat]? = some y:=by
      have:=congrArg (·[0]?) h6
      simp only [aq,ck] at this
      rw [←this];exact hy
     have hdrop:∀ (q:List Int),q.drop j.toNat=l.drop j.toNat->q.drop (j.toNat+1)=l.drop (j.toNat+1):=λ q hq=>by
      rw [←bV,hq,bV]
     rw [Ax7 hx]
     simp only [ac,Bool.not_not]
     refine cR (λ hf=>?_) (λ hf=>?_)
     ·refine (cV (by omega) (by omega)).bind λ _ _=>(d4 (by omega) (by omega)).bind λ z hz=>?_
      rw [e1,e2]
      subst hz
      refine cS ⟨⟨by dsimp only;omega,by simpa using h4,?_,?_⟩,by dsimp only;omega⟩
      ·dsimp only
       rw [e3,e4,Bi hyl,bt,←h5]
       rw [Bi (x:=y) (by rw [bK (by omega)])]
       simp [hf,List.take_set_of_le]
      ·dsimp only
       rw [e3,List.drop_set_of_lt (by omega)]
       exact hdrop m h6
     ·rw [e1]
      refine cS ⟨⟨by dsimp only;omega,h4,?_,?_⟩,by dsimp only;omega⟩
      ·dsimp only
       rw [e3,Bi hyl,bt,←h5]
       simp [hf]
      ·dsimp only
       rw [e3];exact hdrop m h6
    ·simp only [dC] at hq
     have e:j.toNat=l.length:=by omega
     refine d8 ⟨h1,by dsimp only;omega,h4,?_⟩
     dsimp only
     rw [h5,e,aG]
  ·rintro⟨a,j,m⟩ ⟨h1,h2,h3,h4⟩
   dsimp only at h1 h2 h3 h4 ⊢
   have hc:(F7 m a.toNat ((Int.toNat (m.length:Int))-a.toNat) (0:Int)).length=l.length:=by
    simp [F7];omega
   refine (Ok.bndI h1 (by omega) (by omega)).bind λ _ _=>(Ok.bndI (by omega) h1 (by rw [hc];omega)).bind λ _ _=>c9 ?_
   rw [←h4]
   unfold F7
   rw [Nat.sub_zero,cy (by simp;omega),List.take_take,Nat.min_self]
def H1 (b:Aa) (x:Ai):List Int:=(Mc b).filter (Hn x)
theorem Oj {b:Aa} (h:Av b) {x:Ai} {c:Int} (hc:c∈H1 b x):0<=c/\c<b.Ae.length:=A1b h (aD.1 hc).1
theorem Afc {b:Aa} (h:Av b) (x:Ai):(H1 b x).length<=16:=by
 have h1:=bD (Hn x) (Mc b)
 have h2:=Ala h
 have h3:=h.col
 unfold H1;omega
def Qg (x:Ai):Nat:=(x.An.headD 0).toNat
def Gr (b:Aa) (x:Ai) (z:Ab×List Am):List Int×List Am:=Ig b z.1 (Qg x) (H1 b x) (z.1.Aq,z.2)
def Pu (b:Aa) (x:Ai) (z:Ab×List Am):List Bool×List Am:=E1 b (Bz z.1 (Gr b x z).1) (Qg x) (H1 b x) (z.1.Ag,(Gr b x z).2)
def G3 (b:Aa) (z:Ab×List Am) (x:Ai):Ab×List Am:=
 if 0<x.Ac.length then (Dy (Bz z.1 (Gr b x z).1) (Pu b x z).1,(Pu b x z).2) else z
def G4 (b:Aa) (l:List Ai) (z:Ab×List Am):Ab×List Am:=l.foldl (G3 b) z
structure Ac7 (b:Aa) (x:Ai):Prop where
 cons:x.Ae.length<=16
 ne:x.An≠[]
 bus:∀ n,n∈x.An->0<=n/\n<b.An
theorem Afx {b:Aa} (h:Av b) {p:Ab} {x:Ai} (hx:x∈Bk b p):Ac7 b x:=by
 have hcl:=h.col
 unfold Bk at hx
 obtain⟨h1,h2⟩:=aD.1 hx
 obtain⟨f,hf,rfl⟩:=am.1 h1
 have hc:(isl b p f).Ae.length<=b.Ae.length:=C9 _ _
 refine⟨by omega,λ e=>?_,λ n hn=>?_⟩
 ·unfold Ik at h2
  rw [e] at h2;simp at h2
 ·obtain⟨k,hk,rfl⟩:=am.1 hn
  have:=aZ.1 (aD.1 hk).1
  omega
theorem X1 {b:Aa} {x:Ai} (hx:Ac7 b x):getI x.An 0=some ((Qg x:Nat):Int)/\Qg x<b.An.toNat:=by
 unfold Qg
 cases hb:x.An with
 | nil=>exact absurd hb hx.ne
 | cons n l=>
  have:=hx.bus n (by rw [hb];exact aj)
  simp only [List.headD_cons]
  refine⟨?_,by omega⟩
  have e:(n.toNat:Int)=n:=by omega
  rw [e];rfl
theorem Azh {b:Aa} (h:Av b) {p:Ab} (hp:Ax b p) {acts:List Am} (ha:acts.length<=1000) :
  O_ ⟨b,p,acts⟩=some ⟨b,(G4 b (Bk b p) (p,acts)).1,(G4 b (Bk b p) (p,acts)).2⟩/\Ax b (G4 b (Bk b p) (p,acts)).1/\(G4 b (Bk b p) (p,acts)).2.length<=10000:=by
 have hil:=Ho b p
 have hbu:=h.buses
 have hcl:=h.col
 have hol:=Ala h
 have key:Ok (O_ ⟨b,p,acts⟩) λ y=>y=⟨b,(G4 b (Bk b p) (p,acts)).1,(G4 b (Bk b p) (p,acts)).2⟩/\Ax b (G4 b (Bk b p) (p,acts)).1/\(G4 b (Bk b p) (p,acts)).2.length<=10000:=by
  unfold O_
  simp only [(Xf h).1,ac]
  have hi:F67 b p=some (Bk b p):=Hp h hp
  refine Ok.bind (P:=λ y=>y=Bk b p) (cY hi rfl) λ y hy=>?_
  subst hy
  refine Ok.andThen (A:=λ s=>∃ z:Ab×List Am,s=(b.An,b.Ad,b.Ac,b.Ae,b.Phase,b.Ap,z.1.Ag,z.1.Ac,z.1.Aq,z.1.Ao,z.2)/\z=G4 b (Bk b p) (p,acts)/\Ax b z.1/\z.2.length<=10000) (B:=λ (_:Unit)=>False) ?_ (λ s hs=>?_) (λ _ h=>h.elim)
  ·refine cT (I:=λ j s=>∃ z:Ab×List Am,s=(b.An,b.Ad,b.Ac,b.Ae,b.Phase,b.Ap,z.1.Ag,z.1.Ac,z.1.Aq,z.1.Ao,z.2)/\z=G4 b ((Bk b p).take j) (p,acts)/\Ax b z.1/\z.2.length<=1000+400*j) ⟨(p,acts),rfl,rfl,hp,by simpa using ha⟩ (λ j x s hx hI=>?_) λ s hI=>?_
   ·obtain⟨z,h0,h1,h2,h3⟩:=hI
    subst h0
    have hj:j<(Bk b p).length:=(aa.1 hx).1
    have hin:=Afx h (af hx)
    have hsucc:G4 b ((Bk b p).take (j+1)) (p,acts)=G3 b z x:=by
     rw [Bi hx,h1];unfold G4;rw [aX];rfl
    have hc:=hin.cons
    have hol2:=Afc h x
    obtain⟨e0,hb0⟩:=X1 hin
    unfold Un
    have ecl:F95 (Mc b)=some (Mc b):=by
     unfold F95
     rw [K1 (by omega)]
    rw [ecl]
    simp only [ac]
    rw [A0h (by omega) _ (by omega)]
    simp only [ac]
    refine cR (λ hq=>?_) (λ hq=>?_)
    ·simp only [dA] at hq
     rw [e0]
     simp only [ac]
     obtain⟨l1,l2,l3⟩:=Afp h h2 (acts:=z.2) (l:=H1 b x) (λ c hc=>Oj h hc) (by omega) hb0
     refine Ok.bind (P:=λ y=>y=_) (cY l1 rfl) λ y hy=>?_
     subst hy
     obtain⟨t1,t2,t3⟩:=Akc h l2 (acts:=(Gr b x z).2) (l:=H1 b x) (λ c hc=>Oj h hc) (by unfold Gr;omega) hb0
     refine Ok.bind (P:=λ y=>y=_) (cY t1 rfl) λ y hy=>cS ?_
     subst hy
     have eS:G3 b z x=(Dy (Bz z.1 (Gr b x z).1) (Pu b x z).1,(Pu b x z).2):=by unfold G3;rw [if_pos (by omega)]
     refine⟨(Dy (Bz z.1 (Gr b x z).1) (Pu b x z).1,(Pu b x z).2),rfl,by rw [hsucc,eS],t2,?_⟩
     have t4:(Pu b x z).2.length<=(Gr b x z).2.length+24*(H1 b x).length:=t3
     have l4:(Gr b x z).2.length<=z.2.length+(H1 b x).length:=l3
     show (Pu b x z).2.length<=_
     omega
    ·simp only [dC] at hq
     have eS:G3 b z x=z:=by unfold G3;rw [if_neg (by omega)]
     exact cS ⟨z,rfl,by rw [hsucc,eS],h2,by omega⟩
   ·rw [aG] at hI
    obtain⟨z,h0,h1,h2,h3⟩:=hI
    exact⟨z,h0,h1,h2,by omega⟩
  ·obtain⟨z,h0,h1,h2,h3⟩:=hs
   subst h0;subst h1
   exact c9 ⟨rfl,h2,h3⟩
 obtain⟨r,e,h1,h2⟩:=key
 rw [h1] at e
 exact⟨e,h2⟩
def A09 (b:Aa) (p:Ab):Ab×List Am:=G4 b (Bk b (Jw b p)) (Jw b p,Td b p)
def Ma (b:Aa) (p:Ab):Ab:=(A09 b p).1
def Ej (b:Aa) (p:Ab):List Am:=(A09 b p).2
theorem I5 {b:Aa} (h:Av b) {p:Ab} (hp:Ax b p):Ajl b p=some (Ma b p,Ej b p,0)/\Ax b (Ma b p)/\(Ej b p).length<=10000:=by
 have hbl:=h.brl
 have hcl:=Agp b p
 obtain⟨s1,s2,s3⟩:=Azh h (Vn hp) (acts:=Td b p) (by omega)
 refine⟨?_,s2,s3⟩
 unfold Ajl qZ qY
 rw [Dj h hp,Du h hp]
 simp only [ac,dH,cond_false]
 rw [Aw5 h hp]
 simp only [ac]
 rw [s1]
 rfl
theorem Nl {α:Type} {f:Nat->α->Unit->Option (Ctl Unit Bool)} {l m:List α} {e:α->α->Bool} (he:∀ x y,e x y=true->x=y)
  (hf:∀ (j:Nat) x y,l[j]? = some x->m[j]? = some y->f j x ()=bif !e x y then some (.ret false) else some (.next ())) (hl:l.length=m.length) :
  Ok (andThen (foldI f l 0 ()) some λ _=>some true) λ v=>v=true->l=m:=by
 refine Ok.andThen (A:=λ _=>l=m) (B:=λ v=>v=false) ?_ (λ _ hs=>c9 λ _=>hs) (λ v hv=>c9 λ hh=>by rw [hv] at hh;cases hh)
 refine cT (I:=λ j _=>l.take j=m.take j) rfl (λ j x _ hx hI=>?_) λ _ hI=>?_
 ·have hj:=(aa.1 hx).1
  have hy:m[j]? = some (m[j]'(by omega)):=ag (by omega)
  rw [hf j x _ hx hy]
  refine cR (λ _=>Ok.ret rfl) (λ hq=>cS ?_)
  have:=he _ _ (by simpa using hq)
  rw [Bi hx,Bi hy,hI,←this]
 ·rw [aG] at hI
  rw [hI,hl,aG]
theorem A2t {l m:List Bool} (h:l.length<=1000):Ok (F69 l m) λ v=>v=true->l=m:=by
 unfold F69
 refine cR (λ _=>c9 λ hh=>by cases hh) (λ hq=>?_)
 have hl:l.length=m.length:=by simp only [dG] at hq;omega
 refine Nl (e:=λ x y=>x==y) (λ x y hh=>by simpa using hh) (λ j x y hx hy=>?_) hl
 have hj:=(aa.1 hx).1
 unfold qJ
 rw [Cv (by omega),Bj hy];rfl
theorem A2s {l m:List Int} (h:l.length<=1000):Ok (F71 l m) λ v=>v=true->l=m:=by
 unfold F71
 refine cR (λ _=>c9 λ hh=>by cases hh) (λ hq=>?_)
 have hl:l.length=m.length:=by simp only [dG] at hq;omega
 refine Nl (e:=λ x y=>x==y) (λ x y hh=>by simpa using hh) (λ j x y hx hy=>?_) hl
 have hj:=(aa.1 hx).1
 unfold qH
 rw [Cv (by omega),Bj hy];rfl
theorem A2q {l m:List Af} (h:l.length<=1000):Ok (F70 l m) λ v=>v=true->l=m:=by
 unfold F70
 refine cR (λ _=>c9 λ hh=>by cases hh) (λ hq=>?_)
 have hl:l.length=m.length:=by simp only [dG] at hq;omega
 refine Nl (e:=λ x y=>(x.State==y.State)&&((x.Since==y.Since)&&((x.Ap==y.Ap)&&((x.Phase==y.Phase)&&true)))) (λ x y hh=>?_) (λ j x y hx hy=>?_) hl
 ·simp only [ae,dD] at hh
  obtain⟨h1,h2,h3,h4,_⟩:=hh
  cases x;cases y;simp_all
 ·have hj:=(aa.1 hx).1
  unfold qI
  rw [Cv (by omega),Bj hy];rfl
theorem A2r {l m:List Al} (h:l.length<=1000):Ok (F72 l m) λ v=>v=true->l=m:=by
 unfold F72
 refine cR (λ _=>c9 λ hh=>by cases hh) (λ hq=>?_)
 have hl:l.length=m.length:=by simp only [dG] at hq;omega
 refine Nl (e:=λ x y=>(x.Kind==y.Kind)&&((x.Number==y.Number)&&true)) (λ x y hh=>?_) (λ j x y hx hy=>?_) hl
 ·simp only [ae,dD] at hh
  obtain⟨h1,h2,_⟩:=hh
  cases x;cases y;simp_all
 ·have hj:=(aa.1 hx).1
  unfold qG
  rw [Cv (by omega),Bj hy];rfl
def J4 (p q:Ab):Bool:=(F50 p q).getD false
theorem Azj {p:Ab} (hp:Axr p) (q:Ab):F50 p q=some (J4 p q)/\(J4 p q=true->p=q):=by
 have h1:=hp.c
 have h2:=hp.s
 have h3:=hp.l
 have h4:=hp.k
 have key:Ok (F50 p q) λ v=>v=true->p=q:=by
  unfold F50
  refine (A2t (l:=p.Ag) (m:=q.Ag) (by omega)).bind λ v1 e1=>?_
  cases v1 with
  | false=>exact c9 λ hh=>by simp at hh
  | true=>
   refine Ok.bind (P:=λ v=>v=true->p.Ac=q.Ac) (A2q (by omega)) λ v2 e2=>?_
   cases v2 with
   | false=>exact c9 λ hh=>by simp at hh
   | true=>
    refine Ok.bind (P:=λ v=>v=true->p.Aq=q.Aq) (A2s (by omega)) λ v3 e3=>?_
    cases v3 with
    | false=>exact c9 λ hh=>by simp at hh
    | true=>
     refine Ok.bind (P:=λ v=>v=true->p.Ao=q.Ao) (A2r (by omega)) λ v4 e4=>c9 λ hh=>?_
     have w1:=e1 rfl
     have w2:=e2 rfl
     have w3:=e3 rfl
     have w4:=e4 (by simpa using hh)
     cases p;cases q;simp_all
 obtain⟨r,e,hr⟩:=key
 have:J4 p q=r:=by unfold J4;rw [e];rfl
 rw [this]
 exact⟨e,hr⟩
def ap (p:Ab) (x:Am):Ab:=if x.Kind=2 then Dy p (p.Ag.set x.Unit.toNat false) else Bz p (p.Aq.set x.Unit.toNat x.Value)
def Apw (b:Aa) (x:Am):Prop:=(x.Kind=2/\0<=x.Unit/\x.Unit<b.Ad.length)\/(x.Kind=5/\(0<=x.Unit/\x.Unit<b.Ae.length)/\0<=x.Value/\x.Value<=(b.Ae.getD x.Unit.toNat default).Load)
theorem Ay3 {b:Aa} {p:Ab} (hp:Ax b p) {x:Am} (hx:Apw b x):Ax b (ap p x):=by
 unfold ap
 rcases hx with⟨hk,_⟩ | ⟨hk,h1,h2⟩
 ·rw [if_pos hk];exact Am6 hp _
 ·rw [if_neg (by omega)];exact Aab hp h2
def Ei (b:Aa) (p:Ab) (z:Ab×List Am):Prop:=z.2.foldl ap p=⟨z.1.Ag,p.Ac,z.1.Aq,p.Ao⟩/\∀ x,x∈z.2->Apw b x
theorem Ag7 {p q:Ab}:∀ (l:List Int) (C:List Bool),q=Dy p C->(K6 l).foldl ap q=Dy p (F3 C l)
 | [],C,hq=>hq
 | i::l,C,hq=>by
  subst hq
  exact Ag7 l (C.set i.toNat false) rfl
theorem uF {b:Aa} {p:Ab} {z:Ab×List Am} (hz:Ei b p z) (q:Aj->Bool) (S:List Af):Ei b p (⟨acC b z.1.Ag q,S,z.1.Aq,z.1.Ao⟩,z.2++acA b z.1.Ag q):=by
 refine⟨?_,λ x hx=>?_⟩
 ·dsimp only
  rw [aX,hz.1]
  exact Ag7 (p:=⟨z.1.Ag,p.Ac,z.1.Aq,p.Ao⟩) (C4 b z.1.Ag q b.Ad.length) z.1.Ag rfl
 ·rcases az.1 hx with hx | hx
  ·exact hz.2 x hx
  ·obtain⟨i,hi,rfl⟩:=am.1 hx
   obtain⟨k,rfl,hk,_⟩:=Hs.1 hi
   exact .inl ⟨rfl,by dsimp only;omega,by dsimp only;omega⟩
theorem A59 {b:Aa} {p q r:Ab} {l:List Am} (hz:Ei b p (q,l)) (h1:r.Ag=q.Ag) (h2:r.Aq=q.Aq):Ei b p (r,l):=by
 refine⟨?_,hz.2⟩
 have:=hz.1
 dsimp only at this ⊢
 rw [this,h1,h2]
theorem Ap0 {b:Aa} (h:Av b) {p q:Ab} (n:Nat):∀ (l:List Int) (z:List Int×List Am),(∀ c,c∈l->0<=c/\c<b.Ae.length)->Ax b (Bz q z.1)->Ei b p (Bz q z.1,z.2)->Ei b p (Bz q (Ig b q n l z).1,(Ig b q n l z).2)
 | [],_,_,_,hz=>hz
 | c :: l, z, hl, hs, hz => by
  have hin:=hl c aj
  have hok:=Alh (n:=n) h hs hin.1 hin.2
  refine Ap0 h n l (N2 b q n z c) (λ d hd=>hl d (ai _ hd)) hok ?_
  unfold N2 at hok ⊢
  split
  ·rename_i hq
   rw [if_pos hq] at hok
   obtain⟨_,w2,w3,_⟩:=Afq h hok hin.1 hin.2
   have hlen:z.1.length=b.Ae.length:=hs.nli
   have ev:∀ v:Int,(z.1.set c.toNat v).getD c.toNat 0=v:=λ v=>by rw [Sv,if_pos ⟨rfl,by omega⟩]
   have w2':0<=(z.1.set c.toNat (z.1.getD c.toNat 0-Gz b (Bz q z.1) n c)).getD c.toNat 0:=w2
   have w3':(z.1.set c.toNat (z.1.getD c.toNat 0-Gz b (Bz q z.1) n c)).getD c.toNat 0<=(b.Ae.getD c.toNat default).Load:=w3
   rw [ev] at w2' w3'
   refine⟨?_,λ x hx=>?_⟩
   ·dsimp only
    rw [aX,hz.1];rfl
   ·rcases az.1 hx with hx | hx
    ·exact hz.2 x hx
    ·simp only [bA] at hx
     subst hx
     exact .inr ⟨rfl,hin,w2',w3'⟩
  ·exact hz
theorem Akd {b:Aa} {p q:Ab} (n:Nat):∀ (l:List Int) (z:List Bool×List Am),Ei b p (Dy q z.1,z.2)->Ei b p (Dy q (E1 b q n l z).1,(E1 b q n l z).2)
 | [],_,hz=>hz
 | c::l,z,hz=>by
  refine Akd n l (H7 b q n z c) ?_
  unfold H7
  split
  ·exact uF (z:=(Dy q z.1,z.2)) hz (isC c) q.Ac
  ·exact hz
theorem Azl {b:Aa} (h:Av b) {x:Ai} (hx:Ac7 b x) {p:Ab} {z:Ab×List Am} (hs:Ax b z.1) (ha:z.2.length<=10000) (hz:Ei b p z):Ax b (G3 b z x).1/\Ei b p (G3 b z x)/\(G3 b z x).2.length<=z.2.length+400:=by
 have hol2:=Afc h x
 obtain⟨e0,hb0⟩:=X1 hx
 unfold G3
 split
 ·obtain⟨_,l2,l3⟩:=Afp h hs (acts:=z.2) (l:=H1 b x) (λ c hc=>Oj h hc) (by omega) hb0
  obtain⟨_,t2,t3⟩:=Akc h l2 (acts:=(Gr b x z).2) (l:=H1 b x) (λ c hc=>Oj h hc) (by unfold Gr;omega) hb0
  have t4:(Pu b x z).2.length<=(Gr b x z).2.length+24*(H1 b x).length:=t3
  have l4:(Gr b x z).2.length<=z.2.length+(H1 b x).length:=l3
  refine⟨t2,?_,by dsimp only;omega⟩
  have hl:Ei b p (Bz z.1 (Gr b x z).1,(Gr b x z).2):=Ap0 h (Qg x) (H1 b x) (z.1.Aq,z.2) (λ c hc=>Oj h hc) hs hz
  exact Akd (Qg x) (H1 b x) (z.1.Ag,(Gr b x z).2) hl
 ·exact⟨hs,hz,by omega⟩
theorem Ak7 {b:Aa} (h:Av b) {p:Ab}:∀ (l:List Ai) (z:Ab×List Am),(∀ x,x∈l->Ac7 b x)->Ax b z.1->z.2.length+400*l.length<=10000->Ei b p z->Ei b p (G4 b l z)
 | [],_,_,_,_,hz=>hz
 | x::l,z,hl,hs,ha,hz=>by
  rw [aP] at ha
  obtain⟨h1,h2,h3⟩:=Azl h (hl x aj) hs (by omega) hz
  exact Ak7 h l (G3 b z x) (λ y hy=>hl y (ai _ hy)) h1 (by omega) h2
theorem A33 {b:Aa} (p:Ab):Ei b p (Jw b p,Td b p):=by
 have h0:Ei b p (p,[]):=⟨rfl,λ x hx=>by cases hx⟩
 have h1:=uF h0 (Dl p) p.Ac
 have h2:=uF h1 (Ff b (Te b p)) p.Ac
 exact A59 h2 rfl rfl
theorem A08 {b:Aa} (h:Av b) {p:Ab} (hp:Ax b p):Ei b p (Ma b p,Ej b p):=by
 have hil:=Ho b (Jw b p)
 have hbu:=h.buses
 have hbl:=h.brl
 have hcl:=Agp b p
 exact Ak7 h (Bk b (Jw b p)) (Jw b p,Td b p) (λ x hx=>Afx h hx) (Vn hp) (by dsimp only;omega) (A33 p)
def Fb:List Am->Ab->List Ab
 | [],_=>[]
 | x::l,p=>ap p x::Fb l (ap p x)
theorem Kh:∀ (l:List Am) (p:Ab),(Fb l p).length=l.length
 | [],_=>rfl
 | x::l,p=>by simp [Fb,Kh l]
theorem Z3:∀ (l:List Am) (x:Am) (p:Ab),Fb (l++[x]) p=Fb l p++[ap (l.foldl ap p) x]
 | [],_,_=>rfl
 | y::l,x,p=>by
  show ap p y::Fb (l++[x]) (ap p y)=_
  rw [Z3 l x];rfl
def Bx (b:Aa) (p:Ab) (t:Int) (a:Am):Ab×Int:=(F78 b p t a).getD default
theorem Alw {b:Aa} (h:Av b) {p:Ab} (hp:Ax b p) (t:Int) (a:Am):F78 b p t a=some (Bx b p t a)/\((Bx b p t a).2≠0\/Ax b (Bx b p t a).1):=by
 obtain⟨r,e,hr⟩:=A4h h hp t a
 have:Bx b p t a=r:=by unfold Bx;rw [e];rfl
 rw [this]
 exact⟨e,hr.imp (·.1) (·.2)⟩
def N6 (b:Aa) (p:Ab) (t:Int) (a:Am):Int:=if a.Kind=7 then 1 else (Bx b p t a).2
def Md (b:Aa) (p:Ab) (t:Int) (a:Am):Ab:=(Bx b p t a).1
def doP (b:Aa) (p:Ab) (t:Int) (a:Am):Ab:=if N6 b p t a=0 then Ma b (Md b p t a) else p
def doE (b:Aa) (p:Ab) (t:Int) (a:Am):List A6:=⟨t,a,N6 b p t a⟩::if N6 b p t a=0 then (Ej b (Md b p t a)).map (λ x=>⟨t,x,0⟩) else []
def P0 (b:Aa) (p:Ab) (t:Int) (a:Am):Ab:=(Ej b (Md b p t a)).foldl ap (Md b p t a)
def doS (b:Aa) (p:Ab) (t:Int) (a:Am):List Ab:=
 if N6 b p t a=0 then [Md b p t a]++Fb (Ej b (Md b p t a)) (Md b p t a)++(if J4 (P0 b p t a) (doP b p t a)=true then [] else [doP b p t a]) else []
theorem S9 {b:Aa} (h:Av b) {p:Ab} (hp:Ax b p) {t:Int} {a:Am} (he:N6 b p t a=0):Ax b (Md b p t a)/\(Bx b p t a).2=0/\a.Kind≠7:=by
 unfold N6 at he
 by_cases hk:a.Kind=7
 ·rw [if_pos hk] at he;omega
 ·rw [if_neg hk] at he
  rcases (Alw h hp t a).2 with h1 | h1
  ·exact absurd he h1
  ·exact⟨h1,he,hk⟩
theorem jE {b:Aa} (h:Av b) {p:Ab} (hp:Ax b p) (t:Int) (a:Am):Ax b (doP b p t a):=by
 unfold doP
 split
 ·rename_i he
  exact (I5 h (S9 h hp he).1).2.1
 ·exact hp
theorem P2 {b:Aa} (h:Av b) {r:A3} {p:Ab} (hp:Ax b p) (h1:r.states.length<=10000000):Nq r p=some ⟨r.A0,r.Ak,r.events,r.states++[p]⟩:=by
 refine d7 ?_
 unfold Nq
 rw [Du h hp]
 simp only [ac]
 exact (cW (by simp;omega)).bind λ s hs=>c9 (by rw [hs])
theorem Ald {r:A3} (h1:r.events.length<=10000000) (a:Am) (e:Int):Pa r a e=some ⟨r.A0,r.Ak,r.events++[⟨r.A0.Time,a,e⟩],r.states⟩:=by
 refine d7 ?_
 unfold Pa
 exact (cW (by simp;omega)).bind λ s hs=>c9 (by rw [hs])
theorem uH {b:Aa}:∀ (l:List Am) {p:Ab},Ax b p->(∀ x,x∈l->Apw b x)->Ax b (l.foldl ap p)
 | [],_,hp,_=>hp
 | x::l,p,hp,hl=>uH l (Ay3 hp (hl x aj)) λ y hy=>hl y (ai _ hy)
theorem A5z {b:Aa} (h:Av b) {T:Int} {P:Ab} {ros:List Aw} {evs ev:List A6} {sts:List Ab} (hp:Ax b P) (h1:ev.length<=1000000) (h2:sts.length<=1000000) (a:Am) :
  V0 ⟨⟨T,P,ros,evs⟩,b,ev,sts⟩ a=some ⟨⟨T,doP b P T a,ros,evs⟩,b,ev++doE b P T a,sts++doS b P T a⟩:=by
 obtain⟨ha,_⟩:=Alw h hp T a
 refine d7 ?_
 unfold V0
 simp only [ha,ac]
 refine Ok.andThen (A:=λ s=>s=N6 b P T a) (B:=λ (_:Unit)=>False) ?_ (λ s hs=>?_) (λ _ h=>h.elim)
 ·unfold Yj N6
  refine cR (λ hq=>d9 ?_) (λ hq=>d9 ?_)
  ·rw [if_pos (by simpa using hq)]
  ·rw [if_neg (by simpa using hq)]
 subst hs
 rw [Ald (by dsimp only;omega)]
 simp only [ac]
 refine cR (λ hq=>c9 ?_) (λ hq=>?_)
 ·have he:¬N6 b P T a=0:=by simpa using hq
  unfold doP doE doS
  rw [if_neg he,if_neg he,if_neg he];simp
 have he:N6 b P T a=0:=by simpa using hq
 obtain⟨hn,_,_⟩:=S9 h hp he
 have hn':Ax b (Bx b P T a).1:=hn
 rw [P2 h hn' (by dsimp only;omega)]
 simp only [ac]
 obtain⟨p1,p2,p3⟩:=I5 h hn'
 rw [p1]
 simp only [ac]
 have htr:=A08 h hn'
 have eP:doP b P T a=Ma b (Bx b P T a).1:=by unfold doP Md;rw [if_pos he]
 have eE:doE b P T a=⟨T,a,0⟩::(Ej b (Bx b P T a).1).map (λ x=>⟨T,x,0⟩):=by unfold doE Md;rw [if_pos he,he]
 have eL:P0 b P T a=(Ej b (Bx b P T a).1).foldl ap (Bx b P T a).1:=rfl
 refine Ok.andThen (A:=λ s=>∃ q:Ab,q=P0 b P T a/\s=(T,b.An,b.Ad,b.Ac,b.Ae,b.Phase,b.Ap,P.Ag,P.Ac,P.Aq,P.Ao,ros,evs,q.Ag,ev++doE b P T a,sts++([(Bx b P T a).1]++Fb (Ej b (Bx b P T a).1) (Bx b P T a).1),q.Aq)) (B:=λ (_:Unit)=>False) ?_ (λ s hs=>?_) (λ _ h=>h.elim)
 ·refine cT (I:=λ j s=>∃ q:Ab,q=((Ej b (Bx b P T a).1).take j).foldl ap (Bx b P T a).1/\(q.Ac=(Bx b P T a).1.Ac/\q.Ao=(Bx b P T a).1.Ao)/\s=(T,b.An,b.Ad,b.Ac,b.Ae,b.Phase,b.Ap,P.Ag,P.Ac,P.Aq,P.Ao,ros,evs,q.Ag,ev++(⟨T,a,0⟩::((Ej b (Bx b P T a).1).take j).map (λ x=>(⟨T,x,0⟩:A6))),sts++([(Bx b P T a).1]++Fb ((Ej b (Bx b P T a).1).take j) (Bx b P T a).1),q.Aq)) ⟨(Bx b P T a).1,rfl,⟨rfl,rfl⟩,?_⟩ (λ j x s hx hI=>?_) λ s hI=>?_
  ·simp [Fb,he]
  ·obtain⟨q,hq1,⟨hq2,hq3⟩,rfl⟩:=hI
   have hj:j<(Ej b (Bx b P T a).1).length:=(aa.1 hx).1
   have hin:=htr.2 x (af hx)
   have hqok:Ax b q:=by
    rw [hq1]
    exact uH _ hn' λ y hy=>htr.2 y (be hy)
   have hapok:=Ay3 hqok hin
   have hcl:=hqok.ncl
   have hli:=hqok.nli
   unfold Yk
   refine Ok.bind (P:=λ y=>y=_) (cY (Ald (r:=⟨⟨T,P,ros,evs⟩,b,ev++(⟨T,a,0⟩::((Ej b (Bx b P T a).1).take j).map (λ x=>(⟨T,x,0⟩:A6))),sts++([(Bx b P T a).1]++Fb ((Ej b (Bx b P T a).1).take j) (Bx b P T a).1)⟩) (by simp;omega) x 0) rfl) λ y hy=>?_
   subst hy
   have hfold:((Ej b (Bx b P T a).1).take (j+1)).foldl ap (Bx b P T a).1=ap q x:=by rw [Bi hx,aX,←hq1];rfl
   have hint:Fb ((Ej b (Bx b P T a).1).take (j+1)) (Bx b P T a).1=Fb ((Ej b (Bx b P T a).1).take j) (Bx b P T a).1++[ap q x]:=by rw [Bi hx,Z3,←hq1]
   refine cR (λ hk=>?_) (λ hk=>?_)
   ·have hk2:x.Kind=2:=by simpa using hk
    have hx1:0<=x.Unit/\x.Unit<b.Ad.length:=by
     rcases hin with⟨_,h3⟩ | ⟨h3,_⟩
     ·exact h3
     ·omega
    have eA:ap q x=⟨q.Ag.set x.Unit.toNat false,(Bx b P T a).1.Ac,q.Aq,(Bx b P T a).1.Ao⟩:=by
     unfold ap;rw [if_pos hk2,←hq2,←hq3];rfl
    refine (cV (l:=q.Ag) hx1.1 (by omega)).bind λ _ _=>(d4 (l:=q.Ag) hx1.1 (by omega)).bind λ C hC=>?_
    subst hC
    refine Ok.bind (P:=λ y=>y=_) (cY (P2 h (r:=⟨⟨T,P,ros,evs⟩,b,(ev++(⟨T,a,0⟩::((Ej b (Bx b P T a).1).take j).map (λ x=>(⟨T,x,0⟩:A6))))++[⟨T,x,0⟩],sts++([(Bx b P T a).1]++Fb ((Ej b (Bx b P T a).1).take j) (Bx b P T a).1)⟩) (p:=⟨q.Ag.set x.Unit.toNat false,(Bx b P T a).1.Ac,q.Aq,(Bx b P T a).1.Ao⟩) (by rw [←eA];exact hapok) (by simp [Kh];omega)) rfl) λ y hy=>cS ?_
    subst hy
    refine⟨ap q x,hfold.symm,by rw [eA];exact⟨rfl,rfl⟩,?_⟩
    rw [hint,eA,Bi hx]
    simp
   ·have hk2:¬x.Kind=2:=by simpa using hk
    have hx1:0<=x.Unit/\x.Unit<b.Ae.length:=by
     rcases hin with⟨h3,_⟩ | ⟨_,h3,_⟩
     ·omega
     ·exact h3
    have eA:ap q x=⟨q.Ag,(Bx b P T a).1.Ac,q.Aq.set x.Unit.toNat x.Value,(Bx b P T a).1.Ao⟩:=by
     unfold ap;rw [if_neg hk2,←hq2,←hq3];rfl
    refine (cV (l:=q.Aq) hx1.1 (by omega)).bind λ _ _=>(d4 (l:=q.Aq) hx1.1 (by omega)).bind λ C hC=>?_
    subst hC
    refine Ok.bind (P:=λ y=>y=_) (cY (P2 h (r:=⟨⟨T,P,ros,evs⟩,b,(ev++(⟨T,a,0⟩::((Ej b (Bx b P T a).1).take j).map (λ x=>(⟨T,x,0⟩:A6))))++[⟨T,x,0⟩],sts++([(Bx b P T a).1]++Fb ((Ej b (Bx b P T a).1).take j) (Bx b P T a).1)⟩) (p:=⟨q.Ag,(Bx b P T a).1.Ac,q.Aq.set x.Unit.toNat x.Value,(Bx b P T a).1.Ao⟩) (by rw [←eA];exact hapok) (by simp [Kh];omega)) rfl) λ y hy=>cS ?_
    subst hy
    refine⟨ap q x,hfold.symm,by rw [eA];exact⟨rfl,rfl⟩,?_⟩
    rw [hint,eA,Bi hx]
    simp
  ·obtain⟨q,hq1,_,rfl⟩:=hI
   rw [aG] at hq1 ⊢
   exact⟨q,hq1,by rw [eE]⟩
 ·obtain⟨q,hq,rfl⟩:=hs
  have hqok:Ax b q:=by rw [hq,eL];exact uH _ hn' htr.2
  have hqS:q=⟨q.Ag,(Bx b P T a).1.Ac,q.Aq,(Bx b P T a).1.Ao⟩:=by
   have h3:=htr.1
   rw [←eL,←hq] at h3
   rw [h3]
  have hsm:=Azj (hqok.lens h) (Ma b (Bx b P T a).1)
  have hsm1:=hsm.1
  rw [hqS] at hsm1
  have e6:J4 ⟨q.Ag,(Bx b P T a).1.Ac,q.Aq,(Bx b P T a).1.Ao⟩ (Ma b (Bx b P T a).1)=J4 (P0 b P T a) (doP b P T a):=by rw [←hqS,hq,eP]
  refine Ok.bind (P:=λ y=>y=J4 (P0 b P T a) (doP b P T a)) (cY hsm1 e6) λ y hy=>?_
  subst hy
  have eD:doS b P T a=[(Bx b P T a).1]++Fb (Ej b (Bx b P T a).1) (Bx b P T a).1++(if J4 (P0 b P T a) (doP b P T a)=true then [] else [doP b P T a]):=by unfold doS Md;rw [if_pos he]
  cases hsb:J4 (P0 b P T a) (doP b P T a) with
  | false=>
   rw [hsb] at eD
   refine Ok.bind (P:=λ y=>y=_) (cY (P2 h (r:=⟨⟨T,P,ros,evs⟩,b,ev++doE b P T a,sts++([(Bx b P T a).1]++Fb (Ej b (Bx b P T a).1) (Bx b P T a).1)⟩) p2 (by simp [Kh];omega)) rfl) λ y hy=>c9 ?_
   subst hy
   rw [eD,eP]
   simp
  | true=>
   rw [hsb] at eD
   refine c9 ?_
   rw [eD,eP]
   simp
end Go.Proofs.YtpdbkiafikdgpaaGreatDoor
