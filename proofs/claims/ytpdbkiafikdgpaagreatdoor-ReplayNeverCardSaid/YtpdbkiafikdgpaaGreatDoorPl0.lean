import Derived.Test.YtpdbkiafikdgpaaGreatDoorMo
import Derived.Test.YtpdbkiafikdgpaaGreatDoorHo
import Derived.Lib.ItoaLen
namespace Go.Proofs.YtpdbkiafikdgpaaGreatDoor
open Go.SL
theorem Pu {x n:Int} (h:0<n):-n<Int.tmod x n/\Int.tmod x n<n:=by
 have h1:=Int.tmod_lt_of_pos x h
 have h2:=Int.lt_tmod_of_pos x h
 exact⟨h2,h1⟩
theorem Ak2 {x n:Int} (h:0<n) (h0:0<=x):0<=Int.tmod x n/\Int.tmod x n<n:=⟨Int.tmod_nonneg n h0,(Pu h).2⟩
structure B1 (s:Aj):Prop where
 lo:0<=s.At
 hi:s.At<=s.L.length
 len:s.L.length<=600
def InR (n r:Int):Prop:=(1<=n->0<=r/\r<n)/\(n<1->r=0)
theorem A6f (x n:Int) (h:n<=4611686018427387904):Ok (F35 x n) (InR n):=by
 unfold F35
 refine c9 (λ h1=>?_) λ h1=>?_
 ·simp only [dF] at h1
  exact cV ⟨λ h2=>by omega,λ _=>rfl⟩
 ·simp only [dG] at h1
  refine (Ok.nzI (by omega)).bind λ _ _=>(Ok.nzI (by omega)).bind λ _ _=>cV ⟨λ _=>?_,λ h2=>by omega⟩
  have h2:=Pu (x:=x) (n:=n) (by omega)
  rw [Bd (by omega)]
  exact Ak2 (by omega) (by omega)
theorem A93 {s:Aj} (hs:B1 s) (n:Int) (h:n<=4611686018427387904):Ok (F19 s n) λ y=>B1 y.2/\InR n y.1:=by
 obtain⟨h1,h2,h3⟩:=hs
 unfold F19
 refine c9 (λ h4=>?_) λ h4=>?_
 ·exact cV ⟨⟨h1,h2,h3⟩,λ h5=>⟨by simp,by show (0:Int)<n;omega⟩,λ _=>rfl⟩
 ·simp only [dG] at h4
  have e:w64 (s.At+1)=s.At+1:=Bd (by omega)
  rw [e,Bd (n:=s.At+1-1) (by omega)]
  refine (cY (by omega) (by omega)).bind λ x _=>(A6f x n h).bind λ r hr=>cV ⟨⟨?_,?_,h3⟩,hr⟩
  ·show 0<=s.At+1;omega
  ·show s.At+1<=(s.L.length:Int);omega
theorem Fi {s:Aj} (hs:B1 s) (n:Int) (h0:1<=n) (h:n<=4611686018427387904):Ok (F19 s n) λ y=>B1 y.2/\0<=y.1/\y.1<n:=
 (A93 hs n h).mono λ _ h=>⟨h.1,h.2.1 h0⟩
theorem M5 {s:Aj} (hs:B1 s) (lo hi:Int) (h:lo<=hi) (h0:-1000000000000<=lo) (h1:hi<=1000000000000):Ok (F26 s lo hi) λ y=>B1 y.2/\lo<=y.1/\y.1<=hi:=by
 unfold F26
 have e:w64 (w64 (hi-lo)+1)=hi-lo+1:=by rw [Bd (n:=hi-lo) (by omega),Bd (by omega)]
 rw [e]
 refine (Fi hs _ (by omega) (by omega)).bind λ y hy=>cV ⟨hy.1,?_⟩
 have:=hy.2
 show lo<=w64 (lo+y.1)/\w64 (lo+y.1)<=hi
 rw [Bd (by omega)]
 omega
theorem Ed {s:Aj} (hs:B1 s) (l:List Int) (h:1<=l.length) (h1:l.length<=1000):Ok (F27 s l) λ y=>B1 y.2/\y.1∈l:=by
 unfold F27
 refine (Fi hs _ (by omega) (by omega)).bind λ y hy=>?_
 have:=hy.2
 refine (cY (by omega) (by omega)).bind λ x hx=>cV ⟨hy.1,af hx⟩
theorem A6e (l:List Int):Ok (F9 l) B1:=by
 unfold F9
 refine (Ok.cutI (by omega) (by omega) (by omega)).bind λ y hy=>cV ⟨by simp,by simp,?_⟩
 subst hy
 simp only [bV,aW]
 omega
def Rk (nb:Int) (ns nc:Nat) (x:Ai):Prop:=
 (0<=x.A/\x.A<nb)/\((x.Kind=1/\x.A<x.B/\x.B<nb)\/(x.Kind=2/\0<=x.B/\x.B<ns)\/(x.Kind=3/\0<=x.B/\x.B<nc))
def brs (l:List Ai) (k:Int) (i:Nat):List Ai:=l.filter λ x=>x.Kind==k&&x.B==(i:Int)
def Apd (x:Bh):Prop:=(1<=x.Rating/\x.Rating<=50000)/\(0<=x.Least/\x.Least<=x.Rating)/\0<=x.Start/\x.Start<=600
def Aka (i:Nat) (x:A7):Prop:=
 (0<=x.Load/\x.Load<=50000)/\(0<=x.Least/\x.Least<=x.Load)/\(0<=x.Bm/\x.Bm<=15)/\(-1<=x.Thruster/\x.Thruster<=7)/\x.Needs.length<=4 /\
 (∀ n,n∈x.Needs->0<=n/\n<(i:Int))/\∀ (j:Nat) a b,x.Needs[j]? = some a->x.Needs[j+1]? = some b->a<b
structure Aw (b:Aa):Prop where
 buses:1<=b.An/\b.An<=6
 brl:b.Ad.length<=24
 sol:b.Ac.length<=8
 col:b.Ae.length<=16
 phase:0<=b.Phase/\b.Phase<=1800
 freq:0<=b.Aq/\b.Aq<=6000
 br:∀ x,x∈b.Ad->Rk b.An b.Ac.length b.Ae.length x
 one:∀ i,i<b.Ac.length->(brs b.Ad 2 i).length=1
 any:∀ i,i<b.Ae.length->brs b.Ad 3 i≠[]
 nodup:∀ i,((brs b.Ad 3 i).map (·.A)).Nodup
 so:∀ x,x∈b.Ac->Apd x
 co:∀ (i:Nat) x,b.Ae[i]? = some x->Aka i x
theorem Ge (l m:List Ai) (k:Int) (i:Nat):brs (l++m) k i=brs l k i++brs m k i:=by unfold brs;rw [bq]
theorem Amh (x:Ai) (k:Int) (i:Nat):brs [x] k i=if x.Kind=k/\x.B=(i:Int) then [x] else []:=by
 unfold brs
 simp only [bo,List.filter_nil,ae,dH]
theorem J4 {l:List Ai} {k:Int} {i:Nat} (h:∀ x,x∈l->x.Kind=k->x.B≠(i:Int)):brs l k i=[]:=by
 unfold brs
 rw [List.filter_eq_nil_iff]
 intro x hx
 simp only [ae,dH,not_and]
 exact h x hx
def M3 (nb:Int) (l:List Ai):Prop:=∀ x,x∈l->x.Kind=1/\0<=x.A/\x.A<x.B/\x.B<nb
structure Q8 (nb:Int) (l:List Ai) (so:List Bh):Prop where
 len:l.length<=4+so.length
 br:∀ x,x∈l->(0<=x.A/\x.A<nb)/\((x.Kind=1/\x.A<x.B/\x.B<nb)\/(x.Kind=2/\0<=x.B/\x.B<so.length))
 one:∀ i,i<so.length->(brs l 2 i).length=1
 so:∀ x,x∈so->Apd x
structure Y4 (nb:Int) (l:List Ai) (ns:Nat) (co:List A7):Prop where
 len:l.length<=4+ns+2*co.length
 br:∀ x,x∈l->Rk nb ns co.length x
 one:∀ i,i<ns->(brs l 2 i).length=1
 any:∀ i,i<co.length->brs l 3 i≠[]
 nodup:∀ i,((brs l 3 i).map (·.A)).Nodup
 co:∀ (i:Nat) x,co[i]? = some x->Aka i x/\x.Thruster<=2
theorem Q8.cons {nb:Int} {l:List Ai} {so:List Bh} (h:Q8 nb l so):Y4 nb l so.length [] where
 len:=by have:=h.len;simp;omega
 br x hx:=by
  obtain⟨h1,h2⟩:=h.br x hx
  exact⟨h1,h2.imp id .inl⟩
 one:=h.one
 any i hi:=by simp at hi
 nodup i:=by
  rw [J4]
  ·simp
  ·intro x hx h3
   obtain⟨_,h2⟩:=h.br x hx
   omega
 co i x hx:=by simp at hx
theorem Q8.add {nb:Int} {l:List Ai} {so:List Bh} (h:Q8 nb l so) {x:Ai} {y:Bh} (hx:x.Kind=2/\x.B=so.length/\0<=x.A/\x.A<nb) (hy:Apd y):Q8 nb (l++[x]) (so++[y]) where
 len:=by have:=h.len;simp;omega
 br z hz:=by
  rcases az.1 hz with hz | hz
  ·obtain⟨h1,h2⟩:=h.br z hz
   refine⟨h1,?_⟩
   rw [aA]
   simp only [aP,bg]
   omega
  ·simp at hz;subst hz
   refine⟨hx.2.2,.inr ⟨hx.1,?_⟩⟩
   rw [aA]
   simp only [aP,bg]
   omega
 one i hi:=by
  rw [aA] at hi
  simp only [aP,bg] at hi
  rw [Ge,Amh,aA]
  by_cases e:i=so.length
  ·rw [J4,if_pos ⟨hx.1,by omega⟩]
   ·rfl
   ·intro z hz h2
    obtain⟨_,h3⟩:=h.br z hz
    omega
  ·rw [h.one i (by omega),if_neg (by omega)];rfl
 so z hz:=by
  rcases az.1 hz with hz | hz
  ·exact h.so z hz
  ·simp at hz;subst hz;exact hy
theorem Y4.add {nb:Int} {l m:List Ai} {ns:Nat} {co:List A7} (h:Y4 nb l ns co) {y:A7} (hm:∀ x,x∈m->x.Kind=3/\x.B=co.length/\0<=x.A/\x.A<nb) (h1:m≠[]) (h2:m.length<=2) (h3:(m.map (·.A)).Nodup)
  (hy:Aka co.length y/\y.Thruster<=2):Y4 nb (l++m) ns (co++[y]):=by
 have e1:brs m 3 co.length=m:=by
  unfold brs
  rw [cM]
  intro x hx
  obtain⟨g1,g2,_⟩:=hm x hx
  simp [g1,g2]
 have e2:∀ i,i≠co.length->brs m 3 i=[]:=λ i hi=>J4 λ x hx _ e=>by
  have:=(hm x hx).2.1
  omega
 have e3:brs l 3 co.length=[]:=J4 λ x hx h3 e=>by
  obtain⟨_,g⟩:=h.br x hx
  omega
 have hlen:(co++[y]).length=co.length+1:=by simp
 refine⟨?_,λ z hz=>?_,λ i hi=>?_,λ i hi=>?_,λ i=>?_,λ i x hx=>?_⟩
 ·have:=h.len
  rw [aA,hlen];omega
 ·rw [hlen]
  rcases az.1 hz with hz | hz
  ·obtain⟨g1,g2⟩:=h.br z hz
   exact⟨g1,by omega⟩
  ·obtain⟨g1,g2,g3⟩:=hm z hz
   exact⟨g3,by omega⟩
 ·have:brs m 2 i=[]:=J4 λ x hx h2=>by have:=(hm x hx).1;omega
  rw [Ge,this,aV]
  exact h.one i hi
 ·rw [Ge]
  rw [hlen] at hi
  by_cases e:i=co.length
  ·subst e;rw [e1];simp [h1]
  ·have:=h.any i (by omega)
   simp [this]
 ·rw [Ge]
  by_cases e:i=co.length
  ·subst e;rw [e1,e3];simpa using h3
  ·rw [e2 i e,aV];exact h.nodup i
 ·rw [cj] at hx
  split at hx
  ·exact h.co i x hx
  ·rename_i hi
   have:i=co.length:=by
    have:=(aa.1 hx).1
    simp at this;omega
   subst this
   simp at hx;subst hx;exact hy
theorem M3.nil (nb:Int):M3 nb []:=λ x hx=>by cases hx
theorem M3.add {nb:Int} {l:List Ai} (h:M3 nb l) {x:Ai} (hx:x.Kind=1/\0<=x.A/\x.A<x.B/\x.B<nb):M3 nb (l++[x]):=λ z hz=>by
 rcases az.1 hz with hz | hz
 ·exact h z hz
 ·simp at hz;subst hz;exact hx
theorem M3.gens {nb:Int} {l:List Ai} (h:M3 nb l) (hl:l.length<=4):Q8 nb l [] where
 len:=by simpa using hl
 br x hx:=by have:=h x hx;exact⟨by omega,.inl (by omega)⟩
 one i hi:=by simp at hi
 so x hx:=by cases hx
theorem Ayu {y:Int×Aj} (hy:1<=y.1/\y.1<=4) {s0:Aj} (hs0:B1 s0) :
  Ok (whileN (uG y) 1152921504606846976 (1,s0.L,s0.At,([]:List Ai))) (Dg (λ s=>B1 ⟨s.2.1,s.2.2.1⟩/\M3 y.1 s.2.2.2/\s.2.2.2.length<=3) (λ (_:Unit)=>False)):=by
 refine cZ (λ s=>(1<=s.1/\s.1<=4/\s.1<=y.1)/\B1 ⟨s.2.1,s.2.2.1⟩/\M3 y.1 s.2.2.2/\(s.2.2.2.length:Int)+1<=s.1) (λ s=>(y.1-s.1).toNat) _ _ ?_ ?_ ?_
 ·exact⟨by dsimp only;omega,hs0,M3.nil _,by simp⟩
 ·dsimp only;omega
 ·rintro⟨i,L,a,l⟩ ⟨⟨h1,h2,h3⟩,h4,h5,h6⟩
  dsimp only at h1 h2 h3 h4 h5 h6
  unfold uG
  refine c9 (λ h=>?_) (λ h=>?_)
  ·simp only [dF] at h
   have e:w64 (i+1)=i+1:=Bd (by omega)
   dsimp only
   rw [e]
   refine (Fi h4 6 (by omega) (by omega)).bind λ u hu=>c9 (λ _=>?_) (λ _=>?_)
   ·refine (Fi hu.1 i h1 (by omega)).bind λ v hv=>(d3 (by simp;omega)).bind λ m hm=>cW ?_
    subst hm
    have:=hv.2
    refine⟨⟨by dsimp only;omega,hv.1,h5.add ⟨rfl,by dsimp only;omega,by dsimp only;omega,by dsimp only;omega⟩,by simp;omega⟩,by dsimp only;omega⟩
   ·refine cW ⟨⟨by dsimp only;omega,hu.1,h5,by dsimp only;omega⟩,by dsimp only;omega⟩
  ·exact de ⟨h4,h5,by dsimp only;omega⟩
theorem Ayt {y:Int×Aj} (hy:1<=y.1/\y.1<=4) {s0:Aj} (hs0:B1 s0) {k:Int} (hk:0<=k/\k<5) {l0:List Ai} (hl0:Q8 y.1 l0 []) :
  Ok (whileN (uF y) 1152921504606846976 (k,s0.L,s0.At,l0,([]:List Bh))) (Dg (λ s=>B1 ⟨s.2.1,s.2.2.1⟩/\Q8 y.1 s.2.2.2.1 s.2.2.2.2/\s.2.2.2.2.length<=4) (λ (_:Unit)=>False)):=by
 refine cZ (λ s=>(0<=s.1/\s.1+(s.2.2.2.2.length:Int)<=4)/\B1 ⟨s.2.1,s.2.2.1⟩/\Q8 y.1 s.2.2.2.1 s.2.2.2.2) (λ s=>s.1.toNat) _ _ ?_ ?_ ?_
 ·exact⟨by simp;omega,hs0,hl0⟩
 ·dsimp only;omega
 ·rintro⟨i,L,a,l,so⟩ ⟨⟨h1,h2⟩,h4,h5⟩
  dsimp only at h1 h2 h4 h5
  unfold uF
  refine c9 (λ h=>?_) (λ h=>?_)
  ·simp only [dF] at h
   have e:w64 (i-1)=i-1:=Bd (by omega)
   have hl:=h5.len
   dsimp only
   rw [e]
   refine (Fi h4 y.1 hy.1 (by omega)).bind λ u hu=>(d3 (by simp;omega)).bind λ m hm=>?_
   refine (Ed hu.1 _ (by simp) (by simp)).bind λ v hv=>(Ed hv.1 _ (by simp) (by simp)).bind λ p hp=>(Ed hp.1 _ (by simp) (by simp)).bind λ q hq=>(d3 (by simp;omega)).bind λ o ho=>cW ?_
   subst hm;subst ho
   have g1:=hu.2
   have g2:v.1=10\/v.1=50\/v.1=100:=by simpa using hv.2
   have g3:p.1=0\/p.1=5\/p.1=v.1:=by simpa using hp.2
   have g4:q.1=0\/q.1=1\/q.1=3:=by simpa using hq.2
   refine⟨⟨by simp;omega,hq.1,h5.add ⟨rfl,rfl,g1⟩ ⟨by dsimp only;omega,by dsimp only;omega,by dsimp only;omega⟩⟩,by dsimp only;omega⟩
  ·exact de ⟨h4,h5,by dsimp only;omega⟩
theorem A1x {x:Int} (h:0<=x) (h2:x<=50000):0<=w64 (Int.tdiv x 2)/\w64 (Int.tdiv x 2)<=x:=by
 have:Int.tdiv x 2=x / 2:=Int.tdiv_eq_ediv_of_nonneg h
 rw [this,Bd (by omega)]
 omega
theorem Aww {x:Int} (h:0<=x) (h2:x<=50000):0<=w64 (Int.tdiv x 3)/\w64 (Int.tdiv x 3)<=x:=by
 have:Int.tdiv x 3=x / 3:=Int.tdiv_eq_ediv_of_nonneg h
 rw [this,Bd (by omega)]
 omega
theorem Ays {y:Int×Aj} (hy:1<=y.1/\y.1<=4) {s0:Aj} (hs0:B1 s0) {k:Int} (hk:0<=k/\k<6) {ns:Nat} (hns:ns<=4) {l0:List Ai} (hl0:Y4 y.1 l0 ns []) :
  Ok (whileN (uE y) 1152921504606846976 (k,s0.L,s0.At,l0,([]:List A7))) (Dg (λ s=>B1 ⟨s.2.1,s.2.2.1⟩/\Y4 y.1 s.2.2.2.1 ns s.2.2.2.2/\s.2.2.2.2.length<=5) (λ (_:Unit)=>False)):=by
 refine cZ (λ s=>(0<=s.1/\s.1+(s.2.2.2.2.length:Int)<=5)/\B1 ⟨s.2.1,s.2.2.1⟩/\Y4 y.1 s.2.2.2.1 ns s.2.2.2.2) (λ s=>s.1.toNat) _ _ ?_ ?_ ?_
 ·exact⟨by simp;omega,hs0,hl0⟩
 ·dsimp only;omega
 ·rintro⟨i,L,a,l,co⟩ ⟨⟨h1,h2⟩,h4,h5⟩
  dsimp only at h1 h2 h4 h5
  unfold uE
  refine c9 (λ h=>?_) (λ h=>?_)
  ·simp only [dF] at h
   have e:w64 (i-1)=i-1:=Bd (by omega)
   have hl:=h5.len
   dsimp only
   rw [e]
   refine (Fi h4 y.1 hy.1 (by omega)).bind λ u hu=>(d3 (by simp;omega)).bind λ m hm=>?_
   subst hm
   have g1:=hu.2
   refine Ok.bind (P:=λ v=>B1 v.2) (d4 (λ _=>(Fi hu.1 4 (by omega) (by omega)).mono λ _ h=>h.1) λ _=>hu.1) λ v hv=>?_
   refine Ok.inner (A:=λ (r:List Ai)=>∃ m,r=l++m/\(∀ x,x∈m->x.Kind=3/\x.B=co.length/\0<=x.A/\x.A<y.1)/\m≠[]/\m.length<=2/\(m.map (·.A)).Nodup) (B:=λ (_:Unit)=>False) ?_ (λ r hr=>?_) (λ _ h=>h.elim)
   ·unfold Aj6
    refine c9 (λ hc=>?_) (λ hc=>?_)
    ·simp only [ae,dF] at hc
     have e2:w64 (u.1+1)=u.1+1:=Bd (by omega)
     rw [e2]
     refine (Ok.nzI (by omega)).bind λ _ _=>(d3 (by simp;omega)).bind λ m hm=>dh ?_
     subst hm
     have g2:=Ak2 (x:=u.1+1) (n:=y.1) (by omega) (by omega)
     have g3:Int.tmod (u.1+1) y.1≠u.1:=by
      rw [Int.tmod_eq_emod_of_nonneg (by omega)]
      intro e3
      by_cases g4:u.1+1=y.1
      ·rw [g4,Int.emod_self] at e3;omega
      ·rw [Int.emod_eq_of_lt (by omega) (by omega)] at e3;omega
     refine⟨_,aD _ _ _,?_,by simp,by simp,?_⟩
     ·intro x hx
      simp at hx
      rcases hx with rfl | rfl
      ·exact⟨rfl,rfl,g1⟩
      ·exact⟨rfl,rfl,g2⟩
     ·simp
      exact λ h=>g3 h.symm
    ·exact dh ⟨_,rfl,λ x hx=>by simp at hx;subst hx;exact⟨rfl,rfl,g1⟩,by simp,by simp,by simp⟩
   ·obtain⟨m,rfl,hm,hm1,hm2,hm3⟩:=hr
    refine (Ed hv _ (by simp) (by simp)).bind λ p hp=>(Ed hp.1 _ (by simp) (by simp)).bind λ q hq=>(Fi hq.1 3 (by omega) (by omega)).bind λ pr hpr=>(M5 hpr.1 (-1) 2 (by omega) (by omega) (by omega)).bind λ th hth=>?_
    have k1:p.1=0\/p.1=5\/p.1=20\/p.1=40:=by simpa using hp.2
    have k2:q.1=0\/q.1=w64 (Int.tdiv p.1 2)\/q.1=p.1:=by simpa using hq.2
    have k3:=A1x (x:=p.1) (by omega) (by omega)
    have k4:=hpr.2
    have k5:=hth.2
    refine Ok.bind (P:=λ v=>B1 v.2) (d4 (λ _=>(Fi hth.1 4 (by omega) (by omega)).mono λ _ h=>h.1) λ _=>hth.1) λ w hw=>c9 (λ hc=>?_) (λ hc=>?_)
    ·simp only [A0q,ae,dF] at hc
     refine (Fi hw _ (by omega) (by omega)).bind λ n hn=>(d3 (by simp;omega)).bind λ o ho=>cW ?_
     subst ho
     have k6:=hn.2
     refine⟨⟨by simp;omega,hn.1,h5.add hm hm1 hm2 hm3 ⟨⟨by dsimp only;omega,by dsimp only;omega,by dsimp only;omega,by dsimp only;omega,by simp,?_,?_⟩,by dsimp only;omega⟩⟩,by dsimp only;omega⟩
     ·intro z hz;simp at hz;subst hz;exact k6
     ·intro j a b ha hb
      simp at hb
    ·refine (d3 (by simp;omega)).bind λ o ho=>cW ?_
     subst ho
     refine⟨⟨by simp;omega,hw,h5.add hm hm1 hm2 hm3 ⟨⟨by dsimp only;omega,by dsimp only;omega,by dsimp only;omega,by dsimp only;omega,by simp,?_,?_⟩,by dsimp only;omega⟩⟩,by dsimp only;omega⟩
     ·intro z hz;simp at hz
     ·intro j a b ha hb;simp at ha
  ·exact de ⟨h4,h5,by dsimp only;omega⟩
structure A94 (b:Aa):Prop where
 ok:Aw b
 buses:b.An<=4
 brl:b.Ad.length<=18
 sol:b.Ac.length<=4
 col:b.Ae.length<=5
 thr:∀ x,x∈b.Ae->x.Thruster<=2
theorem Aza {s:Aj} (hs:B1 s):Ok (F10 s) λ y=>A94 y.1/\B1 y.2:=by
 unfold F10
 refine (M5 hs 1 4 (by omega) (by omega) (by omega)).bind λ y1 h1=>(Ed h1.1 _ (by simp) (by simp)).bind λ y3 h3=>(Ed h3.1 _ (by simp) (by simp)).bind λ y5 h5=>?_
 refine (Ayu h1.2 h5.1).andThen (λ s0 hs0=>?_) (λ _ h=>h.elim)
 refine Ok.bind (P:=λ v=>B1 v.2) (d4 (λ _=>(Fi hs0.1 2 (by omega) (by omega)).mono λ _ h=>h.1) λ _=>hs0.1) λ y15 h15=>?_
 have hb:=h1.2
 refine Ok.andThen (A:=λ (l:List Ai)=>M3 y1.1 l/\l.length<=4) (B:=λ (_:Unit)=>False) ?_ (λ l hl=>?_) (λ _ h=>h.elim)
 ·unfold Aj7
  refine c9 (λ hc=>?_) (λ hc=>dh ⟨hs0.2.1,by omega⟩)
  simp only [ae,dF] at hc
  have e:w64 (y1.1-1)=y1.1-1:=Bd (by omega)
  rw [e]
  have:=hs0.2.2
  refine (d3 (by simp;omega)).bind λ m hm=>dh ?_
  subst hm
  exact⟨hs0.2.1.add ⟨rfl,by simp,by dsimp only;omega,by dsimp only;omega⟩,by simp;omega⟩
 ·refine (Fi h15 5 (by omega) (by omega)).bind λ y20 h20=>?_
  refine (Ayt h1.2 h20.1 h20.2 (hl.1.gens hl.2)).andThen (λ s2 hs2=>?_) (λ _ h=>h.elim)
  refine (Fi hs2.1 6 (by omega) (by omega)).bind λ y35 h35=>?_
  refine (Ays h1.2 h35.1 h35.2 hs2.2.2 hs2.2.1.cons).andThen (λ s3 hs3=>cV ⟨?_,hs3.1⟩) (λ _ h=>h.elim)
  obtain⟨_,hc,hl5⟩:=hs3
  have hl4:=hs2.2.2
  have hlen:=hc.len
  have p3:y3.1=0\/y3.1=50\/y3.1=200\/y3.1=1800:=by simpa using h3.2
  have p5:y5.1=0\/y5.1=10\/y5.1=50:=by simpa using h5.2
  refine⟨⟨by dsimp only;omega,by dsimp only;omega,by dsimp only;omega,by dsimp only;omega,by dsimp only;omega,by dsimp only;omega,hc.br,hc.one,hc.any,hc.nodup,hs2.2.1.so,λ i x hx=>(hc.co i x hx).1⟩,by dsimp only;omega,by dsimp only;omega,hl4,hl5,λ x hx=>?_⟩
  obtain⟨i,hi⟩:=cd hx
  exact (hc.co i x hi).2
theorem Hc (x lo hi:Int):F91 x lo hi=true↔lo<=x/\x<=hi:=by
 simp [F91]
theorem yC {x lo hi:Int} (h:lo<=x/\x<=hi):F91 x lo hi=true:=(Hc x lo hi).2 h
theorem Dr (l:List Int) (x:Int) (h:l.length<=9223372036854775807):M9 l x=some (l.any (x == ·)):=by
 unfold M9 Aqp
 rw [Ki (λ y=>x==y) (λ i y=>rfl) l h]
 simp only [ac,Qi]
theorem Akr (l:List (List Int)) (h:l.length<=9223372036854775807):Uy l=some (l.any λ x=>(x.length:Int)==0):=by
 unfold Uy qW
 rw [Ki (λ y=>(y.length:Int)==0) (λ i y=>rfl) l h]
 simp only [ac,Qi]
theorem Akt {b:Aa} (h:Aw b):Ok (Aj4 b) (· = true):=by
 unfold Aj4
 have hs:=h.sol
 have hc:=h.col
 have hb:=h.buses
 refine (Ok.mkI (by omega) (by omega)).bind λ ys hys=>(Ok.mkI (by omega) (by omega)).bind λ zs hzs=>?_
 rw [aH] at hys hzs
 refine Ok.andThen (A:=λ s=>s.1=(List.range b.Ac.length).map (λ i=>((brs b.Ad 2 i).length:Int))/\s.2=(List.range b.Ae.length).map (λ i=>(brs b.Ad 3 i).map (·.A))) (B:=λ _=>False) ?_ ?_ (λ _ h=>h.elim)
 ·refine cX (I:=λ j s=>s.1=(List.range b.Ac.length).map (λ i=>((brs (b.Ad.take j) 2 i).length:Int))/\s.2=(List.range b.Ae.length).map (λ i=>(brs (b.Ad.take j) 3 i).map (·.A))) ?_ ?_ ?_
  ·exact⟨by rw [hys,Nq];rfl,by rw [hzs,Nq];rfl⟩
  ·rintro j x ⟨us,vs⟩ hx ⟨hu,hv⟩
   dsimp only at hu hv
   subst hu;subst hv
   have hmem:=af hx
   obtain⟨⟨a0,a1⟩,hk⟩:=h.br x hmem
   have htk:∀ k i,brs (b.Ad.take (j+1)) k i=brs (b.Ad.take j) k i++if x.Kind=k/\x.B=(i:Int) then [x] else []:=λ k i=>by rw [Bj hx,Ge,Amh]
   have hall:∀ k i,brs b.Ad k i=brs (b.Ad.take (j+1)) k i++brs (b.Ad.drop (j+1)) k i:=λ k i=>by rw [←Ge,cf]
   unfold zT
   have e1:w64 (b.An-1)=b.An-1:=Bd (by omega)
   have e2:w64 (x.A+1)=x.A+1:=Bd (by omega)
   refine c9 (λ hq=>?_) (λ _=>?_)
   ·rw [e1,yC (by omega)] at hq;simp at hq
   refine c9 (λ hq=>?_) (λ hq=>?_)
   ·simp only [Ahg,ae,dH,Hc] at hq
    refine cW ⟨bf λ i _=>?_,bf λ i _=>?_⟩
    ·rw [htk,if_neg (by omega),aV]
    ·rw [htk,if_neg (by omega),aV]
   have hq:=ff hq
   simp only [Ahg,ae,dH,Hc,e1,e2] at hq
   rcases hk with hk | hk | hk
   ·exact absurd ⟨hk.1,by omega⟩ hq
   ·have hBn:x.B=(x.B.toNat:Int):=by omega
    have hone:=h.one x.B.toNat (by omega)
    have hz:(brs (b.Ad.take j) 2 x.B.toNat).length=0:=by
     rw [hall,htk,if_pos ⟨hk.1,hBn⟩] at hone
     simp at hone;omega
    have hg:((x.Kind==2)&&(F91 x.B 0 (w64 ((((List.range b.Ac.length).map (λ i=>((brs (b.Ad.take j) 2 i).length:Int))).length:Int)-1))))=true:=by
     rw [ae,dH,Hc,au,List.length_range,Bd (by omega)]
     omega
    dsimp only
    refine Ok.bind (P:=λ y=>y=0) (d4 (λ _=>(dn (by omega) (by omega)).mono λ y hy=>by rw [hy,hz];rfl) λ hn=>(Vo hg hn).elim) λ y hy=>?_
    refine c9 (λ hq2=>?_) (λ hq2=>?_)
    ·refine (dn (by omega) (by omega)).bind λ y2 hy2=>(dt (by omega) (by omega)).bind λ y3 hy3=>cW ⟨?_,bf λ i _=>?_⟩
     ·rw [hy3]
      refine bf λ i hi=>?_
      by_cases e:i=x.B.toNat
      ·subst e
       rw [if_pos rfl,hy2,htk,if_pos ⟨hk.1,hBn⟩,hz,aA,hz]
       rfl
      ·rw [if_neg e,htk,if_neg (by omega),aV]
     ·rw [htk,if_neg (by omega),aV]
    ·have hq2:=ff hq2
     simp only [Ahf,ae,hy] at hq2
     rw [ae] at hg
     exact absurd ⟨hg,by simp⟩ hq2
   ·have hBn:x.B=(x.B.toNat:Int):=by omega
    have hnod:=h.nodup x.B.toNat
    have hnot:x.A∉(brs (b.Ad.take j) 3 x.B.toNat).map (·.A):=by
     rw [hall,htk,if_pos ⟨hk.1,hBn⟩] at hnod
     simp only [bE,bP,List.map_nil] at hnod
     rw [List.nodup_append] at hnod
     have:=hnod.1
     rw [List.nodup_append] at this
     intro hm
     exact this.2.2 _ hm _ (by simp) rfl
    have hg0:((x.Kind==2)&&(F91 x.B 0 (w64 ((((List.range b.Ac.length).map (λ i=>((brs (b.Ad.take j) 2 i).length:Int))).length:Int)-1))))=false:=by
     have:(x.Kind==2)=false:=by rw [dJ];omega
     rw [this];rfl
    have hg:((x.Kind==3)&&(F91 x.B 0 (w64 ((((List.range b.Ae.length).map (λ i=>(brs (b.Ad.take j) 3 i).map (·.A))).length:Int)-1))))=true:=by
     rw [ae,dH,Hc,au,List.length_range,Bd (by omega)]
     omega
    dsimp only
    refine Ok.bind (P:=λ _=>True) (d4 (λ hn=>absurd hn.1 (by rw [hg0];simp)) λ _=>trivial) λ y _=>?_
    refine c9 (λ hq2=>?_) (λ _=>?_)
    ·simp only [Ahf,ae,dH] at hq2
     omega
    refine Ok.bind (P:=λ y=>y=(brs (b.Ad.take j) 3 x.B.toNat).map (·.A)) (d4 (λ _=>dn (by omega) (by omega)) λ hn=>(Vo hg hn).elim) λ y14 hy14=>?_
    have hyl:y14.length<=24:=by
     rw [hy14,au]
     have:=bC (λ x=>x.Kind==3&&x.B==((x.B.toNat:Nat):Int)) (b.Ad.take j)
     have h1:(brs (b.Ad.take j) 3 x.B.toNat).length<=(b.Ad.take j).length:=bC _ _
     have h2:=h.brl
     rw [aW] at h1
     omega
    refine Ok.bind (P:=λ y=>y=false) (d4 (λ _=>?_) λ hn=>(Vo hg hn).elim) λ y16 hy16=>?_
    ·rw [Dr _ _ (by omega)]
     refine cV ?_
     rw [cz]
     intro z hz
     rw [hy14] at hz
     simp only [dH]
     rintro rfl
     exact hnot hz
    refine c9 (λ hq2=>?_) (λ hq2=>?_)
    ·refine (dn (by omega) (by omega)).bind λ y19 hy19=>?_
     rw [hy19,←hy14]
     refine (d3 (by simp;omega)).bind λ y21 hy21=>(dt (by omega) (by omega)).bind λ y23 hy23=>cW ⟨bf λ i _=>?_,?_⟩
     ·rw [htk,if_neg (by omega),aV]
     ·rw [hy23]
      refine bf λ i hi=>?_
      by_cases e:i=x.B.toNat
      ·subst e
       rw [if_pos rfl,hy21,hy14,htk,if_pos ⟨hk.1,hBn⟩,bE]
       rfl
      ·rw [if_neg e,htk,if_neg (by omega),aV]
    ·have hq2:=ff hq2
     simp only [Aus,ae,hy16] at hq2
     rw [ae] at hg
     exact absurd ⟨hg,by simp⟩ hq2
  ·rintro⟨us,vs⟩ ⟨hu,hv⟩
   rw [aI] at hu hv
   exact⟨hu,hv⟩
 ·rintro⟨us,vs⟩ ⟨hu,hv⟩
  dsimp only at hu hv ⊢
  rw [Dr _ _ (by rw [hu];simp;omega)]
  have h0:us.any (λ y=>0==y)=false:=by
   rw [cz,hu]
   intro z hz
   obtain⟨i,hi,rfl⟩:=am.1 hz
   rw [h.one i (by simpa using hi)]
   simp
  have h1:vs.any (λ x=>(x.length:Int)==0)=false:=by
   rw [cz,hv]
   intro z hz
   obtain⟨i,hi,rfl⟩:=am.1 hz
   have:=h.any i (by simpa using hi)
   simp only [au,dH]
   intro e
   exact this (bT (by omega))
  simp only [h0,ac]
  refine Ok.bind (P:=λ y=>y=false) (d4 (λ _=>?_) λ hn=>(Vo rfl hn).elim) λ y hy=>cV (by rw [hy];rfl)
  rw [Akr _ (by rw [hv];simp;omega)]
  exact cV h1
theorem Aq7 {x:Bh} (h:Apd x):zS x=true:=by
 obtain⟨h1,h2,h3⟩:=h
 simp only [zS,ae,Hc]
 omega
theorem Aks {x:A7} {i:Nat} (h:Aka i x) (hi:i<=1000):zR x (i:Int)=some true:=by
 obtain⟨h1,h2,h3,h4,h5,h6,h7⟩:=h
 unfold zR
 have hf:foldI (Wp x (i:Int)) x.Needs 0 ()=some (.next ()):=by
  refine Cs _ _ λ j n hj=>?_
  rw [aG]
  have hn:=h6 n (af hj)
  have hjl:=(aa.1 hj).1
  have hcnt:cnt 0 j=(j:Int):=Cr (by omega)
  have hin:F91 n 0 (w64 ((i:Int)-1))=true:=by rw [Hc,Bd (by omega)];omega
  unfold Wp Aur
  rw [hcnt,hin]
  cases j with
  | zero=>simp [A3,C5]
  | succ j=>
   obtain⟨p,hp⟩:∃ p,x.Needs[j]? = some p:=⟨_,ag (by omega)⟩
   have hlt:=h7 j p n hp hj
   have e:w64 ((((j+1:Nat):Int))-1)=(j:Int):=by rw [Bd (by omega)];omega
   have hg:getI x.Needs (j:Int)=some p:=by
    unfold getI
    simp [hp]
   have hd:decide (((j+1:Nat):Int)>0)=true:=dK (by omega)
   have hd2:decide (p>=n)=false:=by simp;omega
   rw [e,hg,hd]
   simp [A3,C5,hd2]
 rw [hf]
 have:(((((F91 x.Load 0 50000)&&(F91 x.Least 0 x.Load))&&(F91 x.Bm 0 15))&&(F91 x.Thruster (-1) 7))&&(decide ((x.Needs.length:Int)<=4)))=true:=by
  simp only [ae,Hc,dF]
  omega
 simp [andThen,this]
theorem Ag9 {b:Aa} (h:Aw b):F86 b=some 0:=by
 refine db ?_
 unfold F86
 have h1:=h.buses
 have h2:=h.brl
 have h3:=h.sol
 have h4:=h.col
 have h5:=h.phase
 have h6:=h.freq
 refine c9 (λ hc=>?_) (λ _=>?_)
 ·have:F91 b.An 1 6=true:=yC (by omega)
  simp only [Azz,this,aO,dF,bj,bW,false_or] at hc
  omega
 refine (Akt h).bind λ y hy=>?_
 subst hy
 rw [yC (x:=b.Phase) (by omega),yC (x:=b.Aq) (by omega)]
 refine Ok.andThen (A:=λ s=>s=true) (B:=λ (_:Unit)=>False) ?_ ?_ (λ _ h=>h.elim)
 ·refine cX (I:=λ _ s=>s=true) rfl (λ j x s hx hs=>?_) λ _ h=>h
  subst hs
  refine cW ?_
  rw [Aq7 (h.so x (af hx))];rfl
 ·rintro s rfl
  refine Ok.andThen (A:=λ s=>s=true) (B:=λ (_:Unit)=>False) ?_ ?_ (λ _ h=>h.elim)
  ·refine cX (I:=λ _ s=>s=true) rfl (λ j x s hx hs=>?_) λ _ h=>h
   subst hs
   have hj:=(aa.1 hx).1
   unfold Ait
   have:A3 [(true,true)] (zR x (cnt 0 j)) default=some true:=by
    rw [Cr (by omega),Aks (h.co j x hx) (by omega)];rfl
   rw [this]
   exact cW rfl
  ·rintro s rfl
   exact cV rfl
def C1 (x:Af):Prop:=(0<=x.State/\x.State<=3)/\(0<=x.Since/\x.Since<=2147483648)/\(0<=x.Aq/\x.Aq<=6000)/\0<=x.Phase/\x.Phase<=3599
def B8 (b:Aa) (x:Ak):Prop:=
 0<=x.Number/\((x.Kind=1/\x.Number<b.Ac.length)\/(x.Kind=2/\x.Number<b.Ad.length)\/(x.Kind=3/\x.Number<b.An)\/(x.Kind=4/\x.Number<b.Ae.length))
def Ph (x y:Ak):Prop:=x.Kind<y.Kind\/x.Kind=y.Kind/\x.Number<y.Number
structure D1 (b:Aa) (l:List Ak):Prop where
 len:l.length<=32
 mem:∀ x,x∈l->B8 b x
 asc:∀ (j:Nat) x y,l[j]? = some x->l[j+1]? = some y->Ph x y
def Cf (l:List Ai) (c:List Bool) (i:Nat):List (Ai×Bool):=(l.zip c).filter λ z=>(z.1.Kind==3&&z.1.B==(i:Int))&&z.2
structure Ax (b:Aa) (p:Ab):Prop where
 ncl:p.Ag.length=b.Ad.length
 nso:p.Ac.length=b.Ac.length
 nli:p.Ap.length=b.Ae.length
 run:∀ x,x∈p.Ac->C1 x
 lim:∀ (i:Nat) n c,p.Ap[i]? = some n->b.Ae[i]? = some c->0<=n/\n<=c.Load
 one:∀ i,i<b.Ae.length->(Cf b.Ad p.Ag i).length<=1
 brk:D1 b p.Am
theorem Anl {x:Af} (h:C1 x):F90 x=true:=by
 obtain⟨h1,h2,h3,h4⟩:=h
 simp only [F90,ae,Hc]
 omega
theorem Anz (l:List Af) (h:l.length<=9223372036854775807):Wf l=some (l.any λ x=>!F90 x):=by
 unfold Wf uD
 rw [Ki (λ y=>!F90 y) (λ i y=>rfl) l h]
 simp only [ac,Qi]
theorem Ag7 (x y:Int):J7 x y=if x<y then -1 else if x>y then 1 else 0:=by
 have h:∀ z:Int,Y1 z=false:=λ z=>by simp [Y1]
 unfold J7
 rw [h x,h y]
 by_cases h1:x<y
 ·simp [h1]
 ·by_cases h2:y<x <;> simp [h1,h2]
theorem A6o (x y:Int):zQ [x,y]=some (if x=0 then y else x):=by
 unfold zQ
 by_cases h:x=0
 ·subst h
  by_cases h2:y=0
  ·subst h2;rfl
  ·have:(y != 0)=true:=by simpa using h2
   simp [foldI,Wo,andThen,this]
 ·have:(x != 0)=true:=by simpa using h
  simp [foldI,Wo,andThen,this,h]
theorem A05 {b:Aa} (h:Aw b) {x:Ak} (hx:B8 b x):F91 x.Number 0 (w64 ((La b x.Kind)-1))=true:=by
 have h1:=h.buses
 have h2:=h.brl
 have h3:=h.sol
 have h4:=h.col
 obtain⟨hn,hk⟩:=hx
 have hsz:∃ n,La b x.Kind=n/\x.Number<n/\n<=100:=by
  unfold La
  rcases hk with⟨k,hk⟩ | ⟨k,hk⟩ | ⟨k,hk⟩ | ⟨k,hk⟩ <;> rw [k] <;> exact⟨_,rfl,by simpa using hk,by simp;omega⟩
 obtain⟨n,e,g1,g2⟩:=hsz
 rw [e,Hc,Bd (by omega)]
 omega
theorem Au0 {b:Aa} (h:Aw b) {l:List Ak} (hl:D1 b l):F87 b l=some true:=by
 have hlen:=hl.len
 unfold F87
 have hf:foldI (qI b l) l 0 ()=some (.next ()):=by
  refine Cs _ _ λ j x hj=>?_
  rw [aG]
  have hjl:=(aa.1 hj).1
  have hcnt:cnt 0 j=(j:Int):=Cr (by omega)
  have hin:=A05 h (hl.mem x (af hj))
  unfold qI Azy
  rw [hcnt,hin]
  cases j with
  | zero=>simp [A3,C5]
  | succ j=>
   obtain⟨p,hp⟩:∃ p,l[j]? = some p:=⟨_,ag (by omega)⟩
   have hlt:=hl.asc j p x hp hj
   have e:w64 ((((j+1:Nat):Int))-1)=(j:Int):=by rw [Bd (by omega)];omega
   have hg:getI l (j:Int)=some p:=by unfold getI;simp [hp]
   have hd:decide (((j+1:Nat):Int)>0)=true:=dK (by omega)
   have ho:zQ [J7 p.Kind x.Kind,J7 p.Number x.Number]=some (-1):=by
    rw [A6o,Ag7,Ag7]
    rcases hlt with h1 | ⟨h1,h2⟩
    ·simp [h1]
    ·simp [h1,h2]
   rw [e,hg,hd]
   simp [A3,C5,ho]
 rw [hf]
 have:decide ((l.length:Int)<=32)=true:=by simp;omega
 simp [andThen,this]
theorem Lh {l:List Ai} {c:List Bool} {j:Nat} {x:Ai} {v:Bool} (hx:l[j]? = some x) (hv:c[j]? = some v) (i:Nat) :
  Cf (l.take (j+1)) (c.take (j+1)) i=Cf (l.take j) (c.take j) i++if ((x.Kind==3&&x.B==(i:Int))&&v)=true then [(x,v)] else []:=by
 unfold Cf
 rw [Bj hx,Bj hv,List.zip_append (by
  have h1:=(aa.1 hx).1
  have h2:=(aa.1 hv).1
  simp;omega),bq]
 congr 1
 simp only [bF,List.zip_nil_right,bo,List.filter_nil]
theorem Auf {b:Aa} (h:Aw b) {p:Ab} (hc:p.Ag.length=b.Ad.length) (i:Nat):F92 b p (i:Int)=some (((Cf b.Ad p.Ag i).length:Nat):Int):=by
 refine db ?_
 unfold F92
 have hb:=h.brl
 refine Ok.andThen (A:=λ s=>s=(((Cf b.Ad p.Ag i).length:Nat):Int)) (B:=λ (_:Unit)=>False) ?_ (λ s hs=>cV hs) (λ _ h=>h.elim)
 refine cX (I:=λ j s=>s=(((Cf (b.Ad.take j) (p.Ag.take j) i).length:Nat):Int)) ?_ (λ j x s hx hs=>?_) λ s hs=>?_
 ·simp [Cf]
 ·have hj:=(aa.1 hx).1
  obtain⟨v,hv⟩:∃ v,p.Ag[j]? = some v:=⟨_,ag (by omega)⟩
  have hcnt:cnt 0 j=(j:Int):=Cr (by omega)
  have hg:getI p.Ag (j:Int)=some v:=by unfold getI;simp [hv]
  have hle:(Cf (b.Ad.take j) (p.Ag.take j) i).length<=24:=by
   have h1:(Cf (b.Ad.take j) (p.Ag.take j) i).length<=((b.Ad.take j).zip (p.Ag.take j)).length:=bC _ _
   simp at h1;omega
  subst hs
  unfold Ais Azx
  rw [hcnt,hg,Lh hx hv]
  cases hk:(x.Kind==3&&x.B==(i:Int)) with
  | false=>
   simp only [A3,C5,Bool.false_and]
   exact cW (by simp)
  | true=>
   simp only [A3,C5,bi]
   cases v with
   | false=>exact cW (by simp)
   | true=>
    refine cW ?_
    show w64 _=_
    rw [Bd (by omega)]
    simp
 ·rw [aI,←hc,aI] at hs
  exact hs
theorem Dm {b:Aa} (h:Aw b) {p:Ab} (hp:Ax b p):F65 b p=some 0:=by
 refine db ?_
 unfold F65
 have h1:=hp.ncl
 have h2:=hp.nso
 have h3:=hp.nli
 have h4:=h.col
 have h5:=h.sol
 rw [Ag9 h]
 simp only [ac]
 have c0:Ao1 b p=false:=by
  simp [Ao1,h1,h2,h3]
 have c1:((0:Int) != 0)=false:=rfl
 rw [c1,c0,Au0 h hp.brk]
 simp only [cond_false,ac]
 have hr:(p.Ac.any λ x=>!F90 x)=false:=by
  rw [cz]
  intro x hx
  rw [Anl (hp.run x hx)];simp
 have:A3 [(true,true)] (Wf p.Ac) default=some false:=by
  rw [Anz _ (by omega),hr];rfl
 rw [this]
 simp only [ac]
 refine Ok.andThen (A:=λ s=>s=true) (B:=λ (_:Unit)=>False) ?_ ?_ (λ _ h=>h.elim)
 ·refine cX (I:=λ _ s=>s=true) rfl (λ j x s hx hs=>?_) λ _ h=>h
  subst hs
  have hj:=(aa.1 hx).1
  obtain⟨c,hc⟩:∃ c,b.Ae[j]? = some c:=⟨_,ag (by omega)⟩
  have hcnt:cnt 0 j=(j:Int):=Cr (by omega)
  have hg:getI b.Ae (j:Int)=some c:=by unfold getI;simp [hc]
  have hl:=hp.lim j x c hx hc
  have hone:=hp.one j (by omega)
  unfold Ai2
  rw [hcnt,hg]
  have e1:A3 [(true,true)] (some c) default=some c:=rfl
  rw [e1]
  simp only [ac]
  have e2:(true&&F91 x 0 c.Load)=true:=by rw [yC hl];rfl
  rw [e2,Auf h h1]
  have e3:A3 [(true,true)] (some (((Cf b.Ad p.Ag j).length:Nat):Int)) default=some (((Cf b.Ad p.Ag j).length:Nat):Int):=rfl
  rw [e3]
  simp only [ac]
  refine cW ?_
  simp;omega
 ·rintro s rfl
  exact cV rfl
theorem I5 (x lo hi:Int):F82 x lo hi=true↔lo<=x/\x<=hi:=by
 simp [F82]
theorem jC {b:Aa} (h:Aw b) (x:Ak):F64 b x=true↔B8 b x:=by
 have h1:=h.buses
 have h2:=h.brl
 have h3:=h.sol
 have h4:=h.col
 unfold F64 B8
 rw [Bd (n:=(b.Ac.length:Int)-1) (by omega),Bd (n:=(b.Ad.length:Int)-1) (by omega),Bd (n:=b.An-1) (by omega),Bd (n:=(b.Ae.length:Int)-1) (by omega)]
 by_cases k1:x.Kind=1
 ·rw [dH.2 k1,cond_true,I5];omega
 rw [dJ.2 k1,cond_false]
 by_cases k2:x.Kind=2
 ·rw [dH.2 k2,cond_true,I5];omega
 rw [dJ.2 k2,cond_false]
 by_cases k3:x.Kind=3
 ·rw [dH.2 k3,cond_true,I5];omega
 rw [dJ.2 k3,cond_false]
 by_cases k4:x.Kind=4
 ·rw [dH.2 k4,cond_true,I5];omega
 ·rw [dJ.2 k4]
  simp only [cond_false,bW,false_iff]
  omega
theorem Ago {l:List Ai}:∀ {c d:List Bool},c.length=d.length->(∀ k:Nat,c[k]? = some true->d[k]? = some true)->∀ i,(Cf l c i).length<=(Cf l d i).length:=by
 induction l with
 | nil=>intro c d _ _ i;simp [Cf]
 | cons x l ih=>
  intro c d hl h i
  cases c with
  | nil=>simp [Cf]
  | cons v c=>cases d with
   | nil=>simp at hl
   | cons u d=>
    have:=ih (c:=c) (d:=d) (by simpa using hl) (λ k hk=>by have:=h (k+1) (by simpa using hk);simpa using this) i
    have h0:v=true->u=true:=λ e=>by have:=h 0 (by simp [e]);simpa using this
    unfold Cf at this ⊢
    simp only [bF,bo]
    cases hk:(x.Kind==3&&x.B==(i:Int)) with
    | false=>simpa using this
    | true=>
     cases v with
     | false=>cases u <;> simp <;> omega
     | true=>rw [h0 rfl];simp;omega
theorem Axd {b:Aa} (h:Aw b) {s0:Aj} (hs0:B1 s0) :
  Ok (whileN (Ri b) 1152921504606846976 (0,s0.L,s0.At,([]:List Bool))) (Dg (λ s=>B1 ⟨s.2.1,s.2.2.1⟩/\s.2.2.2.length=b.Ad.length) (λ (_:Unit)=>False)):=by
 have hb:=h.brl
 refine cZ (λ s=>(0<=s.1/\s.1<=(b.Ad.length:Int))/\B1 ⟨s.2.1,s.2.2.1⟩/\(s.2.2.2.length:Int)=s.1) (λ s=>((b.Ad.length:Int)-s.1).toNat) _ _ ?_ ?_ ?_
 ·exact⟨by dsimp only;omega,hs0,by simp⟩
 ·dsimp only;omega
 ·rintro⟨i,L,a,l⟩ ⟨⟨h1,h2⟩,h4,h5⟩
  dsimp only at h1 h2 h4 h5
  unfold Ri Amg
  refine c9 (λ h=>?_) (λ h=>?_)
  ·simp only [dF] at h
   have e:w64 (i+1)=i+1:=Bd (by omega)
   dsimp only
   rw [e]
   refine (Fi h4 2 (by omega) (by omega)).bind λ u hu=>(d3 (by simp;omega)).bind λ m hm=>cW ?_
   subst hm
   exact⟨⟨by dsimp only;omega,hu.1,by simp;omega⟩,by dsimp only;omega⟩
  ·simp only [dG] at h
   exact de ⟨h4,by dsimp only;omega⟩
theorem Bi {α:Type} {l:List α} {j:Nat} {x:α} (h:l[j]? = some x):getI l (j:Int)=some x:=by unfold getI;simp [h]
theorem Mb {α:Type} {l:List α} {j:Nat} {x:α} (h:j<l.length):setI l (j:Int) x=some (l.set j x):=by
 unfold setI
 have h1:decide ((0:Int)<=(j:Int))=true:=by simp
 have h2:decide ((j:Int)<(l.length:Int))=true:=by simp;omega
 rw [h1,h2];simp
theorem Axb {b:Aa} (h:Aw b) {n:Int} {i:Nat} (hn:n=(i:Int)) {c:List Bool} (hc:c.length=b.Ad.length) (w:Int×List Bool) (hw:w.1=n) :
  Ok (foldI (Rf w) b.Ad 0 (true,c)) (Dg (λ s=>s.2.length=b.Ad.length/\(∀ k:Nat,s.2[k]? = some true->c[k]? = some true)/\(Cf b.Ad s.2 i).length<=1) (λ (_:Unit)=>False)):=by
 have hb:=h.brl
 refine cX (I:=λ j s=>s.2.length=b.Ad.length/\(∀ k:Nat,s.2[k]? = some true->c[k]? = some true)/\(s.1=true->Cf (b.Ad.take j) (s.2.take j) i=[])/\(Cf (b.Ad.take j) (s.2.take j) i).length<=1) ?_ (λ j x s hx hs=>?_) λ s hs=>?_
 ·exact⟨hc,λ _ h=>h,λ _=>by simp [Cf],by simp [Cf]⟩
 ·obtain⟨f,d⟩:=s
  obtain⟨h1,h2,h3,h4⟩:=hs
  dsimp only at h1 h2 h3 h4
  have hj:=(aa.1 hx).1
  obtain⟨v,hv⟩:∃ v,d[j]? = some v:=⟨_,ag (by omega)⟩
  have hcnt:cnt 0 j=(j:Int):=Cr (by omega)
  unfold Rf Ahc
  dsimp only
  rw [hcnt,Bi hv,Mb (by omega),hw,hn]
  cases hk:(x.Kind==3&&x.B==(i:Int)) with
  | false=>
   simp only [A3,C5,Bool.false_and]
   refine cW ⟨h1,h2,λ e=>?_,?_⟩ <;> dsimp only <;> rw [Lh hx hv,hk]
   ·simpa using h3 e
   ·simpa using h4
  | true=>
   simp only [A3,C5,bi]
   cases v with
   | false=>
    refine cW ⟨h1,h2,λ e=>?_,?_⟩ <;> dsimp only <;> rw [Lh hx hv,hk]
    ·simpa using h3 e
    ·simpa using h4
   | true=>
    have hset:(d.set j f)[j]? = some f:=by rw [bG (by omega)]
    have htake:(d.set j f).take j=d.take j:=by rw [List.take_set_of_le (an j)]
    refine cW ⟨by simpa using h1,λ k hk2=>?_,λ e=>?_,?_⟩
    ·dsimp only at hk2
     rw [aw] at hk2
     split at hk2
     ·rename_i e;subst e;exact h2 _ hv
     ·exact h2 _ hk2
    ·cases e
    ·dsimp only
     rw [Lh hx hset,hk,htake]
     cases f with
     | false=>simpa using h4
     | true=>simp [h3 rfl]
 ·rw [aI] at hs
  obtain⟨h1,h2,h3,h4⟩:=hs
  have:s.2.take b.Ad.length=s.2:=bv (by omega)
  rw [this] at h4
  exact⟨h1,h2,h4⟩
theorem Axc {b:Aa} (h:Aw b) {c:List Bool} (hc:c.length=b.Ad.length) :
  Ok (whileN (Rh b) 1152921504606846976 (0,c)) (Dg (λ s=>s.2.length=b.Ad.length/\∀ i,i<b.Ae.length->(Cf b.Ad s.2 i).length<=1) (λ (_:Unit)=>False)):=by
 have hco:=h.col
 refine cZ (λ s=>(0<=s.1/\s.1<=(b.Ae.length:Int))/\s.2.length=b.Ad.length/\∀ i:Nat,(i:Int)<s.1->(Cf b.Ad s.2 i).length<=1) (λ s=>((b.Ae.length:Int)-s.1).toNat) _ _ ?_ ?_ ?_
 ·exact⟨by dsimp only;omega,hc,λ i hi=>by dsimp only at hi;omega⟩
 ·dsimp only;omega
 ·rintro⟨n,d⟩ ⟨⟨h1,h2⟩,h3,h4⟩
  dsimp only at h1 h2 h3 h4
  unfold Rh Amf
  refine c9 (λ hq=>?_) (λ hq=>?_)
  ·simp only [dF] at hq
   have e:w64 (n+1)=n+1:=Bd (by omega)
   dsimp only
   refine (Axb h (n:=n) (i:=n.toNat) (by omega) h3 (n,d) rfl).inner (λ s hs=>?_) (λ _ h=>h.elim)
   rw [e]
   obtain⟨g1,g2,g3⟩:=hs
   refine cW ⟨⟨by dsimp only;omega,g1,λ i hi=>?_⟩,by dsimp only;omega⟩
   dsimp only at hi ⊢
   by_cases e:(i:Int)=n
   ·have:i=n.toNat:=by omega
    subst this;exact g3
   ·exact aJ (Ago (by omega) g2 i) (h4 i (by omega))
  ·simp only [dG] at hq
   exact de ⟨h3,λ i hi=>h4 i (by omega)⟩
theorem Axa {b:Aa} (h:Aw b) {s0:Aj} (hs0:B1 s0) :
  Ok (whileN (Re b) 1152921504606846976 (0,s0.L,s0.At,([]:List Af))) (Dg (λ s=>B1 ⟨s.2.1,s.2.2.1⟩/\s.2.2.2.length=b.Ac.length/\∀ x,x∈s.2.2.2->C1 x/\x.Since<=4) (λ (_:Unit)=>False)):=by
 have hb:=h.sol
 refine cZ (λ s=>(0<=s.1/\s.1<=(b.Ac.length:Int))/\B1 ⟨s.2.1,s.2.2.1⟩/\(s.2.2.2.length:Int)=s.1/\∀ x,x∈s.2.2.2->C1 x/\x.Since<=4) (λ s=>((b.Ac.length:Int)-s.1).toNat) _ _ ?_ ?_ ?_
 ·exact⟨by dsimp only;omega,hs0,by simp,λ x hx=>by simp at hx⟩
 ·dsimp only;omega
 ·rintro⟨i,L,a,l⟩ ⟨⟨h1,h2⟩,h4,h5,h6⟩
  dsimp only at h1 h2 h4 h5 h6
  unfold Re Ahb
  refine c9 (λ h=>?_) (λ h=>?_)
  ·simp only [dF] at h
   have e:w64 (i+1)=i+1:=Bd (by omega)
   dsimp only
   rw [e]
   refine (Ed h4 _ (by simp) (by simp)).bind λ u hu=>(Fi hu.1 5 (by omega) (by omega)).bind λ v hv=>(Ed hv.1 _ (by simp) (by simp)).bind λ p hp=>(Ed hp.1 _ (by simp) (by simp)).bind λ q hq=>(d3 (by simp;omega)).bind λ m hm=>cW ?_
   subst hm
   have g1:u.1=0\/u.1=1\/u.1=2\/u.1=2\/u.1=2\/u.1=3:=by simpa using hu.2
   have g2:=hv.2
   have g3:p.1=5000\/p.1=5000\/p.1=5005\/p.1=4950:=by simpa using hp.2
   have g4:q.1=0\/q.1=0\/q.1=40\/q.1=1800\/q.1=3590:=by simpa using hq.2
   refine⟨⟨by dsimp only;omega,hq.1,by simp;omega,λ x hx=>?_⟩,by dsimp only;omega⟩
   rcases az.1 hx with hx | hx
   ·exact h6 x hx
   ·simp at hx;subst hx
    exact⟨⟨by dsimp only;omega,by dsimp only;omega,by dsimp only;omega,by dsimp only;omega⟩,by dsimp only;omega⟩
  ·simp only [dG] at h
   exact de ⟨h4,by dsimp only;omega,h6⟩
theorem Aw9 {b:Aa} (h:Aw b) {s0:Aj} (hs0:B1 s0) :
  Ok (foldI Rc b.Ae 0 (s0.L,s0.At,([]:List Int))) (Dg (λ s=>B1 ⟨s.1,s.2.1⟩/\s.2.2.length=b.Ae.length/\∀ (i:Nat) n c,s.2.2[i]? = some n->b.Ae[i]? = some c->0<=n/\n<=c.Load) (λ (_:Unit)=>False)):=by
 have hb:=h.col
 refine cX (I:=λ j s=>B1 ⟨s.1,s.2.1⟩/\s.2.2.length=j/\∀ (i:Nat) n c,s.2.2[i]? = some n->b.Ae[i]? = some c->0<=n/\n<=c.Load) ?_ (λ j x s hx hs=>?_) λ s hs=>hs
 ·exact⟨hs0,rfl,λ i n c hn=>by simp at hn⟩
 ·obtain⟨L,a,l⟩:=s
  obtain⟨h1,h2,h3⟩:=hs
  dsimp only at h1 h2 h3
  have hj:=(aa.1 hx).1
  unfold Rc
  dsimp only
  refine (Ed h1 _ (by simp) (by simp)).bind λ u hu=>(d3 (by simp;omega)).bind λ m hm=>cW ⟨hu.1,?_,λ i n c hn hc=>?_⟩
  ·subst hm;simp [h2]
  ·dsimp only at hn
   subst hm
   rw [cj] at hn
   split at hn
   ·exact h3 i n c hn hc
   ·rename_i hi
    have hlt:=(aa.1 hn).1
    simp at hlt
    have:i=j:=by omega
    subst this
    rw [hx] at hc;cases hc
    rw [h2] at hn
    simp at hn;subst hn
    obtain⟨g1,g2,_⟩:=h.co _ x hx
    have g3:=Aww (x:=x.Load) (by omega) (by omega)
    have g4:u.1=x.Load\/u.1=x.Load\/u.1=x.Least\/u.1=w64 (Int.tdiv x.Load 3):=by simpa using hu.2
    omega
theorem Aw8 {b:Aa} (h:Aw b) {s0:Aj} (hs0:B1 s0) :
  Ok (whileN (Rb b) 7 (1,s0.L,s0.At,([]:List Ak))) (Dg (λ s=>B1 ⟨s.2.1,s.2.2.1⟩/\D1 b s.2.2.2/\s.2.2.2.length<=4) (λ (_:Unit)=>False)):=by
 refine cZ (λ s=>(1<=s.1/\s.1<=5)/\B1 ⟨s.2.1,s.2.2.1⟩/\((s.2.2.2.length:Int)<s.1)/\(∀ x,x∈s.2.2.2->B8 b x/\x.Kind<s.1)/\∀ (j:Nat) x y,s.2.2.2[j]? = some x->s.2.2.2[j+1]? = some y->Ph x y) (λ s=>(5-s.1).toNat) _ _ ?_ ?_ ?_
 ·exact⟨by dsimp only;omega,hs0,by simp,λ x hx=>by simp at hx,λ j x y hx=>by simp at hx⟩
 ·dsimp only;omega
 ·rintro⟨i,L,a,l⟩ ⟨⟨h1,h2⟩,h4,h5,h6,h7⟩
  dsimp only at h1 h2 h4 h5 h6 h7
  unfold Rb
  refine c9 (λ hq=>?_) (λ hq=>?_)
  ·simp only [dF] at hq
   have e:w64 (i+1)=i+1:=Bd (by omega)
   dsimp only
   rw [e]
   have skip:∀ {u:Aj},B1 u->Ok (some (.next (i+1,u.L,u.At,l)):Option (Ctl (Int×List Int×Int×List Ak) Unit)) (Gv (λ s=>((1<=s.1/\s.1<=5)/\B1 ⟨s.2.1,s.2.2.1⟩/\((s.2.2.2.length:Int)<s.1)/\(∀ x,x∈s.2.2.2->B8 b x/\x.Kind<s.1)/\∀ (j:Nat) x y,s.2.2.2[j]? = some x->s.2.2.2[j+1]? = some y->Ph x y)/\(5-s.1).toNat<(5-i).toNat) (λ s=>B1 ⟨s.2.1,s.2.2.1⟩/\D1 b s.2.2.2/\s.2.2.2.length<=4) (λ _=>False)):=λ hu=>
    cW ⟨⟨by dsimp only;omega,hu,by dsimp only;omega,λ x hx=>⟨(h6 x hx).1,by have:=(h6 x hx).2;dsimp only;omega⟩,h7⟩,by dsimp only;omega⟩
   refine (Fi h4 5 (by omega) (by omega)).bind λ u hu=>c9 (λ _=>?_) (λ _=>skip hu.1)
   refine (Fi hu.1 4 (by omega) (by omega)).bind λ v hv=>c9 (λ he=>?_) (λ _=>skip hv.1)
   rw [jC h] at he
   refine (d3 (by simp;omega)).bind λ m hm=>cW ?_
   subst hm
   refine⟨⟨by dsimp only;omega,hv.1,by simp;omega,λ x hx=>?_,λ j x y hx hy=>?_⟩,by dsimp only;omega⟩
   ·rcases az.1 hx with hx | hx
    ·exact⟨(h6 x hx).1,by have:=(h6 x hx).2;dsimp only;omega⟩
    ·simp at hx;subst hx;exact⟨he,by dsimp only;omega⟩
   ·dsimp only at hx hy
    have hyl:=(aa.1 hy).1
    simp at hyl
    rw [ay (by omega)] at hx
    rw [cj] at hy
    split at hy
    ·exact h7 j x y hx hy
    ·rename_i hn
     have e0:j+1-l.length=0:=by omega
     rw [e0] at hy
     simp at hy;subst hy
     exact .inl (h6 x (af hx)).2
  ·simp only [dG] at hq
   exact de ⟨h4,⟨by dsimp only;omega,λ x hx=>(h6 x hx).1,h7⟩,by dsimp only;omega⟩
theorem Awi {b:Aa} (h:Aw b) {s:Aj} (hs:B1 s):Ok (Wh s b) λ y=>((Ax b y.1/\y.1.Am.length<=4)/\B1 y.2)/\∀ x,x∈y.1.Ac->x.Since<=4:=by
 unfold Wh
 refine (Axd h hs).andThen (λ s0 h0=>?_) (λ _ h=>h.elim)
 refine (Axc h h0.2).andThen (λ s1 h1=>?_) (λ _ h=>h.elim)
 refine (Axa h h0.1).andThen (λ s3 h3=>?_) (λ _ h=>h.elim)
 refine (Aw9 h h3.1).andThen (λ s4 h4=>?_) (λ _ h=>h.elim)
 refine (Aw8 h h4.1).andThen (λ s5 h5=>?_) (λ _ h=>h.elim)
 exact cV ⟨⟨⟨⟨h1.1,h3.2.1,h4.2.1,λ x hx=>(h3.2.2 x hx).1,h4.2.2,h1.2,h5.2.1⟩,h5.2.2⟩,h5.1⟩,λ x hx=>(h3.2.2 x hx).2⟩
theorem Ay5 {b:Aa} (h:Aw b) {s:Aj} (hs:B1 s):Ok (Wh s b) λ y=>(Ax b y.1/\y.1.Am.length<=4)/\B1 y.2:=(Awi h hs).mono λ _ hy=>hy.1
def Ei (b:Aa) (p:Ab) (k i:Int):Option Int:=((b.Ad.zip p.Ag).find? λ z=>(z.1.Kind==k&&z.1.B==i)&&z.2).map (·.1.A)
def F1 (o:Option Int):Int×Bool:=match o with
 | some a=>(a,true)
 | none=>(0,false)
theorem Af6 {p:Ab} {k i:Int}:∀ (l:List Ai) (c:List Bool) (n:Nat),n+l.length<=9223372036854775807->l.length=c.length->p.Ag.drop n=c ->
  foldI (Wn p k i) l n ()=match ((l.zip c).find? λ z=>(z.1.Kind==k&&z.1.B==i)&&z.2) with
   | some z=>some (.ret (z.1.A,true))
   | none=>some (.next ())
 | [],c,n,_,_,_=>by simp [foldI]
 | x::l,[],n,_,h,_=>by simp at h
 | x::l,v::c,n,hn,h,hd=>by
  simp only [aP] at hn h
  have hv:p.Ag[n]? = some v:=by
   have:=congrArg (·[0]?) hd
   simpa [List.getElem?_drop] using this
  have hd':p.Ag.drop (n+1)=c:=by rw [←bX,hd];rfl
  have ih:=Af6 (p:=p) (k:=k) (i:=i) l c (n+1) (by omega) (by omega) hd'
  have hcnt:cnt 0 n=(n:Int):=Cr (by omega)
  simp only [foldI,Wn,Auq,hcnt,Bi hv,bF,cN]
  cases hk:(x.Kind==k&&x.B==i) with
  | false=>simpa [A3,C5] using ih
  | true=>
   cases v with
   | false=>simpa [A3,C5] using ih
   | true=>simp [A3,C5]
theorem As5 {b:Aa} (h:Aw b) {p:Ab} (hc:p.Ag.length=b.Ad.length) (k i:Int):zP b p k i=some (F1 (Ei b p k i)):=by
 have hb:=h.brl
 unfold zP
 rw [Af6 b.Ad p.Ag 0 (by omega) (by omega) rfl]
 unfold Ei
 cases (b.Ad.zip p.Ag).find? λ z=>(z.1.Kind==k&&z.1.B==i)&&z.2 with
 | none=>rfl
 | some z=>rfl
theorem Ato {b:Aa} (h:Aw b) {p:Ab} (hc:p.Ag.length=b.Ad.length) (i:Int):F99 b p i=some (F1 (Ei b p 3 i)):=by
 unfold F99
 rw [As5 h hc];rfl
def Ea (b:Aa) (p:Ab) (i:Int):Option Int:=
 if 0<=i/\i<p.Ac.length/\(p.Ac.getD i.toNat default).State=2 then Ei b p 2 i else none
theorem My {b:Aa} (h:Aw b) {p:Ab} (hp:Ax b p) (i:Int):F98 b p i=some (F1 (Ea b p i)):=by
 have hs:=h.sol
 have hn:=hp.nso
 refine db ?_
 unfold F98
 have e1:w64 ((p.Ac.length:Int)-1)=(p.Ac.length:Int)-1:=Bd (by omega)
 by_cases hi:0<=i/\i<p.Ac.length
 ·have hin:F91 i 0 (w64 ((p.Ac.length:Int)-1))=true:=by rw [e1];exact yC (by omega)
  obtain⟨x,hx⟩:∃ x,p.Ac[i.toNat]? = some x:=⟨_,ag (by omega)⟩
  have hg:getI p.Ac i=some x:=by have:=Bi hx;rwa [bQ hi.1] at this
  have hd:p.Ac.getD i.toNat default=x:=by simp [List.getD,hx]
  rw [hin,hg]
  refine Ok.bind (P:=λ y=>y=x) (d4 (λ _=>cV rfl) λ hn=>(hn ⟨rfl,trivial⟩).elim) λ y hy=>?_
  subst hy
  unfold Ea
  refine c9 (λ hc=>?_) (λ hc=>?_)
  ·simp only [Ac3,hin,aO,bj,bW,false_or,bne_iff_ne,ne_eq] at hc
   rw [hd,if_neg (λ hh=>hc hh.2.2)]
   exact cV rfl
  ·have hc:=ff hc
   simp only [Ac3,hin,aO,bj,bW,false_or,bne_iff_ne,ne_eq,Decidable.not_not] at hc
   rw [hd,if_pos ⟨hi.1,hi.2,hc⟩,As5 h hp.ncl]
   exact cV rfl
 ·have hin:F91 i 0 (w64 ((p.Ac.length:Int)-1))=false:=by
   cases hq:F91 i 0 (w64 ((p.Ac.length:Int)-1)) with
   | false=>rfl
   | true=>rw [Hc,e1] at hq;omega
  rw [hin]
  unfold Ea
  rw [if_neg (λ hh=>hi ⟨hh.1,hh.2.1⟩)]
  refine Ok.bind (P:=λ _=>True) (d4 (λ hg=>absurd hg.1 (by simp)) λ _=>trivial) λ y _=>?_
  refine c9 (λ _=>cV rfl) (λ hc=>?_)
  simp [Ac3,hin] at hc
theorem X0 {b:Aa} (h:Aw b) {p:Ab} {k i a:Int} (e:Ei b p k i=some a):0<=a/\a<b.An:=by
 unfold Ei at e
 rw [Option.map_eq_some_iff] at e
 obtain⟨z,hz,rfl⟩:=e
 exact (h.br z.1 (ck (List.mem_of_find?_eq_some hz)).1).1
theorem Mz {b:Aa} (h:Aw b) {p:Ab} {i a:Int} (e:Ea b p i=some a):0<=a/\a<b.An:=by
 unfold Ea at e
 split at e
 ·exact X0 h e
 ·cases e
def Ep (s:List Int) (z:Ai×Bool):List Int:=
 if z.1.Kind=1/\z.2=true then (s.set z.1.A.toNat (min (s.getD z.1.A.toNat 0) (s.getD z.1.B.toNat 0))).set z.1.B.toNat (min (s.getD z.1.A.toNat 0) (s.getD z.1.B.toNat 0)) else s
def C7 (l:List (Ai×Bool)) (s:List Int):List Int:=l.foldl Ep s
def Ck (n:Nat):List Int:=(List.range n).map λ (i:Nat)=>(i:Int)
def A_ (b:Aa) (p:Ab):List Int:=(List.range b.An.toNat).foldl (λ s _=>C7 (b.Ad.zip p.Ag) s) (Ck b.An.toNat)
theorem D9 (s:List Int) (z:Ai×Bool):(Ep s z).length=s.length:=by
 unfold Ep;split <;> simp
theorem E9 (l:List (Ai×Bool)):∀ s:List Int,(C7 l s).length=s.length:=by
 induction l with
 | nil=>intro s;rfl
 | cons z l ih=>intro s;show (C7 l (Ep s z)).length=_;rw [ih,D9]
theorem Og {b:Aa} {p:Ab} {n:Nat}:∀ (xs:List Nat) (s:List Int),s.length=n->(xs.foldl (λ s _=>C7 (b.Ad.zip p.Ag) s) s).length=n
 | [],s,h=>h
 | _::xs,s,h=>Og xs _ (by rw [E9];exact h)
theorem Ic (b:Aa) (p:Ab):(A_ b p).length=b.An.toNat:=Og _ _ (by simp [Ck])
theorem Ax6 {b:Aa} (h:Aw b) {p:Ab} (hc:p.Ag.length=b.Ad.length) {s:List Int} (hs:s.length=b.An.toNat) :
  Ok (foldI (qH p) b.Ad 0 s) (Dg (λ r=>r=C7 (b.Ad.zip p.Ag) s) (λ (_:Unit)=>False)):=by
 have hb:=h.brl
 have hbu:=h.buses
 refine cX (I:=λ j r=>r=C7 ((b.Ad.take j).zip (p.Ag.take j)) s) (by simp [C7]) (λ j x r hx hr=>?_) λ r hr=>?_
 ·have hj:=(aa.1 hx).1
  obtain⟨v,hv⟩:∃ v,p.Ag[j]? = some v:=⟨_,ag (by omega)⟩
  have hcnt:cnt 0 j=(j:Int):=Cr (by omega)
  have hl:r.length=b.An.toNat:=by rw [hr,E9,hs]
  have hnext:C7 ((b.Ad.take (j+1)).zip (p.Ag.take (j+1))) s=Ep r (x,v):=by
   rw [Bj hx,Bj hv,List.zip_append (by simp;omega)]
   unfold C7 at hr ⊢
   rw [aX,←hr];rfl
  rw [hnext]
  unfold qH
  rw [hcnt,Bi hv]
  obtain⟨⟨a0,a1⟩,hk⟩:=h.br x (af hx)
  by_cases k1:x.Kind=1
  ·rw [dH.2 k1]
   refine Ok.bind (P:=λ y=>y=v) (d4 (λ _=>cV rfl) λ hn=>(hn ⟨rfl,trivial⟩).elim) λ y hy=>?_
   subst hy
   have hB:x.A<x.B/\x.B<b.An:=by omega
   cases y with
   | false=>
    refine c9 (λ hq=>by simp at hq) (λ _=>cW ?_)
    simp [Ep]
   | true=>
    refine c9 (λ _=>?_) (λ hq=>by simp at hq)
    refine (cY a0 (by omega)).bind λ u hu=>(cY (by omega) (by omega)).bind λ w hw=>(da a0 (by omega)).bind λ t ht=>?_
    subst ht
    refine (cY (by omega) (by simp;omega)).bind λ _ _=>(da (by omega) (by simp;omega)).bind λ t ht=>cW ?_
    subst ht
    simp [Ep,k1,List.getD,hu,hw]
  ·rw [dJ.2 k1]
   refine Ok.bind (P:=λ _=>True) (d4 (λ hg=>absurd hg.1 (by simp)) λ _=>trivial) λ y _=>?_
   refine c9 (λ hq=>by simp at hq) (λ _=>cW ?_)
   simp [Ep,k1]
 ·rw [aI,←hc,aI] at hr
  exact hr
theorem Atl {b:Aa} (h:Aw b) {p:Ab} (hc:p.Ag.length=b.Ad.length):F97 b p=some (A_ b p):=by
 have hbu:=h.buses
 refine db ?_
 unfold F97
 refine (Ok.mkI (by omega) (by omega)).bind λ y hy=>?_
 refine Ok.andThen (A:=λ s=>s=Ck b.An.toNat) (B:=λ (_:Unit)=>False) ?_ ?_ (λ _ h=>h.elim)
 ·refine cX (I:=λ j s=>s=(List.range b.An.toNat).map λ i=>if i<j then (i:Int) else 0) ?_ (λ j x s hx hs=>?_) λ s hs=>?_
  ·rw [hy,Nq]
   exact bf λ i _=>by simp
  ·have hj:=(aa.1 hx).1
   have hjl:j<b.An.toNat:=by rw [hy] at hj;simpa using hj
   have hcnt:cnt 0 j=(j:Int):=Cr (by omega)
   subst hs
   unfold Air
   rw [hcnt]
   refine (dn (by omega) (by omega)).bind λ _ _=>(dt (by omega) (by omega)).bind λ z hz=>cW ?_
   rw [hz]
   refine bf λ i _=>?_
   by_cases e:i=j
   ·subst e;simp
   ·have:((j:Int)).toNat=j:=by omega
    rw [this,if_neg e]
    by_cases e2:i<j
    ·rw [if_pos e2,if_pos (by omega)]
    ·rw [if_neg e2,if_neg (by omega)]
  ·rw [hs]
   unfold Ck
   refine bf λ i hi=>?_
   rw [hy]
   simp at hi
   simp [hi]
 ·rintro s rfl
  refine Ok.andThen (A:=λ s=>s=A_ b p) (B:=λ (_:Unit)=>False) ?_ (λ s hs=>cV hs) (λ _ h=>h.elim)
  refine cX (I:=λ j s=>s=(List.range j).foldl (λ s _=>C7 (b.Ad.zip p.Ag) s) (Ck b.An.toNat)) rfl (λ j x s hx hs=>?_) λ s hs=>?_
  ·unfold Aiq
   have hl:s.length=b.An.toNat:=by rw [hs];exact Og _ _ (by simp [Ck])
   refine (Ax6 h hc hl).inner (λ r hr=>cW ?_) (λ _ h=>h.elim)
   rw [hr,cm,aX,←hs];rfl
  ·rw [hs]
   unfold A_
   congr 2
   simp [Ck]
theorem Ax5 {s:List Int} (h:∀ (i:Nat) v,s[i]? = some v->0<=v/\v<=i) {z:Ai×Bool} (hz:z.1.Kind=1->0<=z.1.A/\z.1.A<z.1.B/\z.1.B<s.length):∀ (i:Nat) v,(Ep s z)[i]? = some v->0<=v/\v<=i:=by
 unfold Ep
 split
 ·rename_i hk
  obtain⟨h1,h2,h3⟩:=hz hk.1
  have ga:s[z.1.A.toNat]? = some (s.getD z.1.A.toNat 0):=by rw [ag (by omega)];simp [List.getD,List.getElem?_eq_getElem (show z.1.A.toNat<s.length by omega)]
  have gb:s[z.1.B.toNat]? = some (s.getD z.1.B.toNat 0):=by rw [ag (by omega)];simp [List.getD,List.getElem?_eq_getElem (show z.1.B.toNat<s.length by omega)]
  have ha:=h _ _ ga
  have hb:=h _ _ gb
  intro i v hv
  rw [aw] at hv
  split at hv
  ·rename_i e;subst e
   split at hv
   ·cases hv;omega
   ·cases hv
  ·rw [aw] at hv
   split at hv
   ·rename_i e;subst e
    split at hv
    ·cases hv;omega
    ·cases hv
   ·exact h i v hv
 ·exact h
theorem Abc {n:Nat}:∀ (l:List (Ai×Bool)) (s:List Int),s.length=n->(∀ z,z∈l->z.1.Kind=1->0<=z.1.A/\z.1.A<z.1.B/\z.1.B<n)->(∀ (i:Nat) v,s[i]? = some v->0<=v/\v<=i)->∀ (i:Nat) v,(C7 l s)[i]? = some v->0<=v/\v<=i
 | [],s,_,_,h=>h
 | z::l,s,hs,hz,h=>Abc l (Ep s z) (by rw [D9];exact hs) (λ y hy=>hz y (ai _ hy)) (Ax5 h (by rw [hs];exact hz z aj))
theorem Ta {b:Aa} (h:Aw b) (p:Ab):∀ (i:Nat) v,(A_ b p)[i]? = some v->0<=v/\v<=i:=by
 have hbu:=h.buses
 have hz:∀ z,z∈b.Ad.zip p.Ag->z.1.Kind=1->0<=z.1.A/\z.1.A<z.1.B/\z.1.B<(b.An.toNat:Int):=by
  intro z hz hk
  have:=h.br z.1 (ck hz).1
  unfold Rk at this
  omega
 have key:∀ (xs:List Nat) (s:List Int),s.length=b.An.toNat->(∀ (i:Nat) v,s[i]? = some v->0<=v/\v<=i)->∀ (i:Nat) v,(xs.foldl (λ s _=>C7 (b.Ad.zip p.Ag) s) s)[i]? = some v->0<=v/\v<=i:=by
  intro xs
  induction xs with
  | nil=>intro s _ h;exact h
  | cons x xs ih=>intro s hl h;exact ih _ (by rw [E9];exact hl) (Abc _ s hl hz h)
 refine key _ _ (by simp [Ck]) ?_
 intro i v hv
 simp only [Ck,ax] at hv
 cases hr:(List.range b.An.toNat)[i]? with
 | none=>rw [hr] at hv;cases hv
 | some k=>
  rw [hr] at hv
  have:=aa.1 hr
  simp at this
  obtain⟨_,rfl⟩:=this
  cases hv;dsimp only;omega
def Ip (x:Ah):Bool:=!((x.An.length:Int)==0)
theorem Ayi (l:List Ah) (h:l.length<=9223372036854775807):U6 l=some (Of (λ x=>(x.An.length:Int)==0) l):=by
 unfold U6
 exact Ki (λ x:Ah=>(x.An.length:Int)==0) (λ i y=>rfl) l h
theorem A15 (l:List Ah) (hl:l.length<=1000):Pq l=some (l.filter Ip):=by
 refine db ?_
 unfold Pq
 rw [Ayi l (by omega)]
 simp only [ac]
 unfold Of
 cases hf:l.findIdx? λ x=>(x.An.length:Int)==0 with
 | none=>
  rw [cQ] at hf
  refine c9 (λ _=>cV ?_) (λ hc=>by simp at hc)
  rw [eq_comm,cM]
  intro x hx
  simp only [Ip,hf x hx];rfl
 | some i=>
  rw [cR] at hf
  obtain⟨hi,hp,hn⟩:=hf
  refine c9 (λ hc=>?_) (λ _=>?_)
  ·simp only [dH] at hc;omega
  have e1:w64 ((i:Int)+1)=(i:Int)+1:=Bd (by omega)
  simp only [e1]
  refine Ok.andThen (A:=λ s=>0<=s.1/\s.1<=(l.length:Int)/\s.2.2.length=l.length/\s.2.2.take s.1.toNat=l.filter Ip) (B:=λ (_:Unit)=>False) ?_ ?_ (λ _ h=>h.elim)
  ·refine cZ (λ s=>(0<=s.1/\s.1<s.2.1/\s.2.1<=(l.length:Int))/\s.2.2.length=l.length/\s.2.2.take s.1.toNat=(l.take s.2.1.toNat).filter Ip/\s.2.2.drop s.2.1.toNat=l.drop s.2.1.toNat) (λ s=>((l.length:Int)-s.2.1).toNat) _ _ ?_ ?_ ?_
   ·refine⟨by dsimp only;omega,rfl,?_,rfl⟩
    dsimp only
    have e2:((i:Int)+1).toNat=i+1:=by omega
    rw [e2,aH,Bj (ag hi),bq]
    have h1:(l.take i).filter Ip=l.take i:=by
     rw [cM]
     intro x hx
     obtain⟨j,hj,rfl⟩:=cG hx
     simp only [aW] at hj
     rw [List.getElem_take]
     have:=hn j (by omega)
     simp only [Ip]
     simpa using this
    have h2:Ip l[i]=false:=by simp only [Ip,hp];rfl
    rw [h1]
    simp [h2]
   ·dsimp only;omega
   ·rintro⟨a,j,m⟩ ⟨⟨h1,h2,h3⟩,h4,h5,h6⟩
    dsimp only at h1 h2 h3 h4 h5 h6
    unfold U9 Ahl
    dsimp only
    refine c9 (λ hq=>?_) (λ hq=>?_)
    ·simp only [dF] at hq
     have e1:w64 (j+1)=j+1:=Bd (by omega)
     have e2:w64 (a+1)=a+1:=Bd (by omega)
     have e3:(j+1).toNat=j.toNat+1:=by omega
     have e4:(a+1).toNat=a.toNat+1:=by omega
     refine (cY (by omega) (by omega)).bind λ y hy=>?_
     have hyl:l[j.toNat]? = some y:=by
      have:=congrArg (·[0]?) h6
      simp only [aq,cq] at this
      rw [←this];exact hy
     have hdrop:∀ (q:List Ah),q.drop j.toNat=l.drop j.toNat->q.drop (j.toNat+1)=l.drop (j.toNat+1):=λ q hq=>by
      rw [←bX,hq,bX]
     refine c9 (λ hf=>?_) (λ hf=>?_)
     ·refine (cY (by omega) (by omega)).bind λ _ _=>(da (by omega) (by omega)).bind λ z hz=>?_
      rw [e1,e2]
      subst hz
      refine cW ⟨⟨by dsimp only;omega,by simpa using h4,?_,?_⟩,by dsimp only;omega⟩
      ·dsimp only
       rw [e3,e4,Bj hyl,bq,←h5]
       have hfl:Ip y=true:=hf
       rw [Bj (x:=y) (by rw [bG (by omega)])]
       simp [hfl,List.take_set_of_le]
      ·dsimp only
       rw [e3,List.drop_set_of_lt (by omega)]
       exact hdrop m h6
     ·rw [e1]
      refine cW ⟨⟨by dsimp only;omega,h4,?_,?_⟩,by dsimp only;omega⟩
      ·dsimp only
       have hfl:Ip y=false:=hf
       rw [e3,Bj hyl,bq,←h5]
       simp [hfl]
      ·dsimp only
       rw [e3];exact hdrop m h6
    ·simp only [dG] at hq
     have e:j.toNat=l.length:=by omega
     refine de ⟨h1,by dsimp only;omega,h4,?_⟩
     dsimp only
     rw [h5,e,aI]
  ·rintro⟨a,j,m⟩ ⟨h1,h2,h3,h4⟩
   dsimp only at h1 h2 h3 h4 ⊢
   have hc:(Gd m a.toNat ((Int.toNat (m.length:Int))-a.toNat) (⟨([]:List Int),([]:List Int),([]:List Int)⟩:Ah)).length=l.length:=by
    simp [Gd];omega
   refine (Ok.bndI h1 (by omega) (by omega)).bind λ _ _=>(Ok.bndI (by omega) h1 (by rw [hc];omega)).bind λ _ _=>cV ?_
   rw [←h4]
   unfold Gd
   rw [Nat.sub_zero,cD (by simp;omega),List.take_take,Nat.min_self]
def Fe (b:Aa) (p:Ab) (o:Option Int):Option Int:=o.map λ a=>(A_ b p).getD a.toNat 0
def Dz (b:Aa) (p:Ab) (n f:Nat):List Int:=((List.range n).filter λ (i:Nat)=>(A_ b p).getD i 0==(f:Int)).map λ (i:Nat)=>(i:Int)
def Fb (b:Aa) (p:Ab) (n f:Nat):List Int:=((List.range n).filter λ (i:Nat)=>Fe b p (Ea b p (i:Int))==some (f:Int)).map λ (i:Nat)=>(i:Int)
def Gk (b:Aa) (p:Ab) (n f:Nat):List Int:=((List.range n).filter λ (i:Nat)=>Fe b p (Ei b p 3 (i:Int))==some (f:Int)).map λ (i:Nat)=>(i:Int)
def isl (b:Aa) (p:Ab) (f:Nat):Ah:=⟨Dz b p b.An.toNat f,Fb b p b.Ac.length f,Gk b p b.Ae.length f⟩
def Bl (b:Aa) (p:Ab):List Ah:=((List.range b.An.toNat).map (isl b p)).filter Ip
theorem Ff (q:Nat->Bool) (n:Nat):((List.range (n+1)).filter q).map (λ (i:Nat)=>(i:Int))=((List.range n).filter q).map (λ (i:Nat)=>(i:Int))++if q n=true then [(n:Int)] else []:=by
 rw [cm,bq,bE]
 congr 1
 cases h:q n <;> simp [h]
theorem Dc (q:Nat->Bool) (n:Nat):(((List.range n).filter q).map (λ (i:Nat)=>(i:Int))).length<=n:=by
 have:=bC q (List.range n)
 simpa using this
theorem Ht {b : Aa} (h : Aw b) {p : Ab} (hp : Ax b p) : F67 b p = some (Bl b p) := by
 have hbu:=h.buses
 have hso:=h.sol
 have hco:=h.col
 have hgl:=Ic b p
 have hglo:=Ta h p
 refine db ?_
 unfold F67
 rw [Dm h hp]
 simp only [ac]
 refine c9 (λ hc=>by simp at hc) (λ _=>?_)
 rw [Atl h hp.ncl]
 simp only [ac]
 refine (Ok.mkI (by omega) (by omega)).bind λ y hy=>?_
 have hget:∀ (i:Nat),i<b.An.toNat->(A_ b p)[i]? = some ((A_ b p).getD i 0):=λ i hi=>by
  have:i<(A_ b p).length:=by omega
  simp [List.getD,List.getElem?_eq_getElem this]
 refine Ok.andThen (A:=λ s=>s=(List.range b.An.toNat).map λ f=>(⟨Dz b p b.An.toNat f,[],[]⟩:Ah)) (B:=λ (_:Unit)=>False) ?_ ?_ (λ _ h=>h.elim)
 ·refine cX (I:=λ j s=>s=(List.range b.An.toNat).map λ f=>(⟨Dz b p j f,[],[]⟩:Ah)) ?_ (λ j x s hx hs=>?_) λ s hs=>?_
  ·rw [hy,Nq];rfl
  ·subst hs
   have hj:j<b.An.toNat:=by have:=(aa.1 hx).1;omega
   have hlo:=hglo j x hx
   have hxe:(A_ b p).getD j 0=x:=by simp [List.getD,hx]
   have hcnt:cnt 0 j=(j:Int):=Cr (by omega)
   unfold Ai1
   rw [hcnt]
   refine (dn (by omega) (by omega)).bind λ u hu=>?_
   subst hu
   have hl:(Dz b p j x.toNat).length<=j:=Dc _ _
   refine (d3 (by simp;omega)).bind λ v hv=>(dt (by omega) (by omega)).bind λ w hw=>cW ?_
   rw [hw]
   refine bf λ f _=>?_
   unfold Dz
   rw [Ff,hxe]
   by_cases e:f=x.toNat
   ·subst e
    rw [if_pos rfl,if_pos (by simp;omega),hv]
    rfl
   ·rw [if_neg e,if_neg (by simp;omega),aV]
  ·rw [hgl] at hs;exact hs
 ·rintro s rfl
  refine Ok.andThen (A:=λ s=>s.2=(List.range b.An.toNat).map λ f=>(⟨Dz b p b.An.toNat f,Fb b p b.Ac.length f,[]⟩:Ah)) (B:=λ (_:Unit)=>False) ?_ ?_ (λ _ h=>h.elim)
  ·refine cZ (λ s=>(0<=s.1/\s.1<=(b.Ac.length:Int))/\s.2=(List.range b.An.toNat).map λ f=>(⟨Dz b p b.An.toNat f,Fb b p s.1.toNat f,[]⟩:Ah)) (λ s=>((b.Ac.length:Int)-s.1).toNat) _ _ ?_ ?_ ?_
   ·exact⟨by dsimp only;omega,rfl⟩
   ·dsimp only;omega
   ·rintro⟨i,s⟩ ⟨⟨h1,h2⟩,h3⟩
    dsimp only at h1 h2 h3
    subst h3
    unfold Ai0 Az3
    dsimp only
    refine c9 (λ hq=>?_) (λ hq=>?_)
    ·simp only [dF] at hq
     have e1:w64 (i+1)=i+1:=Bd (by omega)
     have e2:(i+1).toNat=i.toNat+1:=by omega
     have e3:((i.toNat:Nat):Int)=i:=by omega
     rw [My h hp]
     simp only [ac]
     cases hcn:Ea b p i with
     | none=>
      refine c9 (λ hc=>by simp [F1] at hc) (λ _=>?_)
      rw [e1]
      refine cW ⟨⟨by dsimp only;omega,?_⟩,by dsimp only;omega⟩
      dsimp only
      rw [e2]
      refine bf λ f _=>?_
      unfold Fb
      rw [Ff,e3,hcn,if_neg (by simp [Fe]),aV]
     | some a=>
      have hab:=Mz h hcn
      have hga:=hget a.toNat (by omega)
      have hgla:=hglo _ _ hga
      refine c9 (λ _=>?_) (λ hc=>by simp [F1] at hc)
      have hg2:getI (A_ b p) a=some ((A_ b p).getD a.toNat 0):=by have:=Bi hga;rwa [bQ hab.1] at this
      simp only [F1,hg2,ac]
      generalize hge:(A_ b p).getD a.toNat 0=ga at hgla
      refine (dn (by omega) (by omega)).bind λ u hu=>?_
      subst hu
      have hl:(Fb b p i.toNat ga.toNat).length<=i.toNat:=Dc _ _
      refine (d3 (by simp;omega)).bind λ v hv=>(dt (by omega) (by omega)).bind λ w hw=>?_
      rw [e1]
      refine cW ⟨⟨by dsimp only;omega,?_⟩,by dsimp only;omega⟩
      dsimp only
      rw [hw,e2]
      refine bf λ f _=>?_
      unfold Fb
      rw [Ff,e3,hcn]
      simp only [Fe,bU,hge]
      by_cases e:f=ga.toNat
      ·subst e
       rw [if_pos rfl,if_pos (by simp;omega),hv]
       rfl
      ·rw [if_neg e,if_neg (by simp;omega),aV]
    ·simp only [dG] at hq
     have e:i.toNat=b.Ac.length:=by omega
     rw [e]
     exact de rfl
  ·rintro⟨i0,s⟩ hs
   dsimp only at hs
   subst hs
   dsimp only
   refine Ok.andThen (A:=λ s=>s.2=(List.range b.An.toNat).map (isl b p)) (B:=λ (_:Unit)=>False) ?_ ?_ (λ _ h=>h.elim)
   ·refine cZ (λ s=>(0<=s.1/\s.1<=(b.Ae.length:Int))/\s.2=(List.range b.An.toNat).map λ f=>(⟨Dz b p b.An.toNat f,Fb b p b.Ac.length f,Gk b p s.1.toNat f⟩:Ah)) (λ s=>((b.Ae.length:Int)-s.1).toNat) _ _ ?_ ?_ ?_
    ·exact⟨by dsimp only;omega,rfl⟩
    ·dsimp only;omega
    ·rintro⟨i,s⟩ ⟨⟨h1,h2⟩,h3⟩
     dsimp only at h1 h2 h3
     subst h3
     unfold Aiz Az2
     dsimp only
     refine c9 (λ hq=>?_) (λ hq=>?_)
     ·simp only [dF] at hq
      have e1:w64 (i+1)=i+1:=Bd (by omega)
      have e2:(i+1).toNat=i.toNat+1:=by omega
      have e3:((i.toNat:Nat):Int)=i:=by omega
      rw [Ato h hp.ncl]
      simp only [ac]
      cases hcn:Ei b p 3 i with
      | none=>
       refine c9 (λ hc=>by simp [F1] at hc) (λ _=>?_)
       rw [e1]
       refine cW ⟨⟨by dsimp only;omega,?_⟩,by dsimp only;omega⟩
       dsimp only
       rw [e2]
       refine bf λ f _=>?_
       unfold Gk
       rw [Ff,e3,hcn,if_neg (by simp [Fe]),aV]
      | some a=>
       have hab:=X0 h hcn
       have hga:=hget a.toNat (by omega)
       have hgla:=hglo _ _ hga
       refine c9 (λ _=>?_) (λ hc=>by simp [F1] at hc)
       have hg2:getI (A_ b p) a=some ((A_ b p).getD a.toNat 0):=by have:=Bi hga;rwa [bQ hab.1] at this
       simp only [F1,hg2,ac]
       generalize hge:(A_ b p).getD a.toNat 0=ga at hgla
       refine (dn (by omega) (by omega)).bind λ u hu=>?_
       subst hu
       have hl:(Gk b p i.toNat ga.toNat).length<=i.toNat:=Dc _ _
       refine (d3 (by simp;omega)).bind λ v hv=>(dt (by omega) (by omega)).bind λ w hw=>?_
       rw [e1]
       refine cW ⟨⟨by dsimp only;omega,?_⟩,by dsimp only;omega⟩
       dsimp only
       rw [hw,e2]
       refine bf λ f _=>?_
       unfold Gk
       rw [Ff,e3,hcn]
       simp only [Fe,bU,hge]
       by_cases e:f=ga.toNat
       ·subst e
        rw [if_pos rfl,if_pos (by simp;omega),hv]
        rfl
       ·rw [if_neg e,if_neg (by simp;omega),aV]
     ·simp only [dG] at hq
      have e:i.toNat=b.Ae.length:=by omega
      rw [e]
      exact de rfl
   ·rintro⟨i1,s⟩ hs
    dsimp only at hs
    subst hs
    dsimp only
    rw [A15 _ (by simp;omega)]
    exact cV rfl
theorem K9 {α:Type} {B:Nat} {l:List α} (h:l.length*B<=140737488355328):appI B [] l=some l:=by
 unfold appI
 have:decide ((([]:List α).length+l.length)*B<=140737488355328)=true:=by simpa using h
 rw [this];rfl
theorem Dy {b:Aa} (h:Aw b) {p:Ab} (hp:Ax b p):F66 p=some p:=by
 have h1:=hp.ncl
 have h2:=hp.nso
 have h3:=hp.nli
 have h4:=hp.brk.len
 have h5:=h.brl
 have h6:=h.sol
 have h7:=h.col
 unfold F66 F93 F94 F95 F96
 rw [K9 (by omega),K9 (by omega),K9 (by omega),K9 (by omega)]
 rfl
theorem eqB (l:List Bool) (h:l.length<=9223372036854775807):F69 l l=some true:=by
 unfold F69
 rw [Cs l 0 λ j x hj=>?_]
 ·simp [andThen]
 ·have hjl:=(aa.1 hj).1
  unfold qP
  rw [aG,Cr (by omega),Bi hj]
  simp
theorem eqI (l:List Int) (h:l.length<=9223372036854775807):F71 l l=some true:=by
 unfold F71
 rw [Cs l 0 λ j x hj=>?_]
 ·simp [andThen]
 ·have hjl:=(aa.1 hj).1
  unfold qN
  rw [aG,Cr (by omega),Bi hj]
  simp
theorem eqR (l:List Af) (h:l.length<=9223372036854775807):F70 l l=some true:=by
 unfold F70
 rw [Cs l 0 λ j x hj=>?_]
 ·simp [andThen]
 ·have hjl:=(aa.1 hj).1
  unfold qO Az1
  rw [aG,Cr (by omega),Bi hj]
  simp
theorem eqP (l:List Ak) (h:l.length<=9223372036854775807):F72 l l=some true:=by
 unfold F72
 rw [Cs l 0 λ j x hj=>?_]
 ·simp [andThen]
 ·have hjl:=(aa.1 hj).1
  unfold qM Az0
  rw [aG,Cr (by omega),Bi hj]
  simp
structure Aqi (p:Ab):Prop where
 c:p.Ag.length<=1000
 s:p.Ac.length<=1000
 l:p.Ap.length<=1000
 k:p.Am.length<=1000
theorem Ax.lens {b:Aa} (h:Aw b) {p:Ab} (hp:Ax b p):Aqi p:=by
 have h1:=hp.ncl
 have h2:=hp.nso
 have h3:=hp.nli
 have h4:=hp.brk.len
 have h5:=h.brl
 have h6:=h.sol
 have h7:=h.col
 exact⟨by omega,by omega,by omega,by omega⟩
theorem Ara {p:Ab} (h:Aqi p):F50 p p=some true:=by
 have h1:=h.c
 have h2:=h.s
 have h3:=h.l
 have h4:=h.k
 unfold F50
 rw [eqB _ (by omega),eqI _ (by omega),eqR _ (by omega),eqP _ (by omega)]
 rfl
theorem Ao8 (l:List Bool) (h:l.length<=9223372036854775807):F54 l l=some true:=by
 unfold F54
 rw [Cs l 0 λ j x hj=>?_]
 ·simp [andThen]
 ·have hjl:=(aa.1 hj).1
  unfold Ajh
  rw [aG,Cr (by omega),Bi hj]
  simp
theorem Atf (l:List Int) (h:l.length<=9223372036854775807):F55 l l=some true:=by
 unfold F55
 rw [Cs l 0 λ j x hj=>?_]
 ·simp [andThen]
 ·have hjl:=(aa.1 hj).1
  unfold Ajg
  rw [aG,Cr (by omega),Bi hj]
  simp
theorem Afn {p:Ab} (h:Aqi p):F33 p p=some true:=by
 have h1:=h.c
 have h2:=h.s
 have h3:=h.l
 have h4:=h.k
 refine db ?_
 unfold F33
 rw [Ao8 _ (by omega),Atf _ (by omega)]
 have e:(A3 [((!true),false)] (some true) default:Option Bool)=some true:=rfl
 simp only [ac]
 rw [e]
 simp only [ac]
 refine c9 (λ hc=>by simp [A0j] at hc) (λ _=>?_)
 refine Ok.andThen (A:=λ _=>True) (B:=λ _=>False) ?_ ?_ (λ _ h=>h.elim)
 ·refine cZ (λ s=>0<=s/\s<=(p.Ac.length:Int)) (λ s=>((p.Ac.length:Int)-s).toNat) _ _ (by omega) (by omega) ?_
  rintro i ⟨h5,h6⟩
  unfold Ajl A0i
  refine c9 (λ hq=>?_) (λ _=>de trivial)
  simp only [dF] at hq
  refine (cY h5 hq).bind λ u hu=>?_
  refine Ok.bind (P:=λ v=>v=u) ((cY h5 hq).mono λ v hv=>by rw [hu] at hv;cases hv;rfl) λ v hv=>?_
  subst hv
  refine c9 (λ hc=>by simp [A0h] at hc) (λ _=>cW ?_)
  rw [Bd (by omega)]
  omega
 ·intro _ _
  refine Ok.andThen (A:=λ _=>True) (B:=λ _=>False) ?_ (λ _ _=>cV rfl) (λ _ h=>h.elim)
  refine cZ (λ s=>0<=s/\s<=(p.Am.length:Int)) (λ s=>((p.Am.length:Int)-s).toNat) _ _ (by omega) (by omega) ?_
  rintro i ⟨h5,h6⟩
  unfold Ajk A0g
  refine c9 (λ hq=>?_) (λ _=>de trivial)
  simp only [dF] at hq
  refine (cY h5 hq).bind λ u hu=>?_
  refine Ok.bind (P:=λ v=>v=u) ((cY h5 hq).mono λ v hv=>by rw [hu] at hv;cases hv;rfl) λ v hv=>?_
  subst hv
  refine c9 (λ hc=>by simp [Auj] at hc) (λ _=>cW ?_)
  rw [Bd (by omega)]
  omega
def Xd (B4 x:Af):Af:=⟨x.State,x.Since,B4.Aq,B4.Phase⟩
def Ef (B4:Af) (idx:List Int) (ss:List Af):List Af:=idx.foldl (λ s i=>s.set i.toNat (Xd B4 (s.getD i.toNat default))) ss
theorem Gr (B4:Af):∀ (idx:List Int) (ss:List Af),(Ef B4 idx ss).length=ss.length
 | [],_=>rfl
 | i::idx,ss=>by
  show (Ef B4 idx _).length=_
  rw [Gr B4 idx,bH]
theorem Aal {B4:Af} {idx:List Int} {j:Nat} {i:Int} (h:idx[j]? = some i) (ss:List Af):Ef B4 (idx.take (j+1)) ss=(Ef B4 (idx.take j) ss).set i.toNat (Xd B4 ((Ef B4 (idx.take j) ss).getD i.toNat default)):=by
 unfold Ef
 rw [Bj h,aX];rfl
theorem Aey {p:Ab} {idx:List Int} {B4:Af} (h:∀ i,i∈idx->0<=i/\i<p.Ac.length):Q_ p idx B4=some (Ef B4 idx p.Ac):=by
 refine db ?_
 unfold Q_
 refine Ok.andThen (A:=λ s=>s=Ef B4 idx p.Ac) (B:=λ (_:Unit)=>False) ?_ (λ s hs=>cV hs) (λ _ h=>h.elim)
 refine cX (I:=λ j s=>s=Ef B4 (idx.take j) p.Ac) rfl (λ j x s hx hs=>?_) λ s hs=>?_
 ·have hi:=h x (af hx)
  have hl:s.length=p.Ac.length:=by rw [hs,Gr]
  unfold Yy
  refine (cY hi.1 (by omega)).bind λ u hu=>(da hi.1 (by omega)).bind λ v hv=>?_
  have hvg:v[x.toNat]? = some (⟨u.State,u.Since,B4.Aq,u.Phase⟩:Af):=by rw [hv,bG (by omega)]
  refine Ok.bind (P:=λ w=>w=(⟨u.State,u.Since,B4.Aq,u.Phase⟩:Af)) ((cY hi.1 (by rw [hv];simpa using by omega)).mono λ w hw=>by rw [hvg] at hw;cases hw;rfl) λ w hw=>?_
  refine (da hi.1 (by rw [hv];simpa using by omega)).bind λ z hz=>cW ?_
  rw [Aal hx,←hs,hz,hv,hw,List.set_set]
  have:s.getD x.toNat default=u:=by simp [List.getD,hu]
  rw [this];rfl
 ·rw [aI] at hs;exact hs
def Ec (b:Aa) (p:Ab):List Af:=(Bl b p).foldl (λ s x=>match x.Ac with | []=>s | i::_=>Ef (p.Ac.getD i.toNat default) x.Ac s) p.Ac
theorem O3 {b:Aa} {p:Ab} {x:Ah} (h:x∈Bl b p):∀ i,i∈x.Ac->0<=i/\i<b.Ac.length:=by
 unfold Bl at h
 obtain⟨f,_,rfl⟩:=am.1 (aF.1 h).1
 intro i hi
 obtain⟨k,hk,rfl⟩:=am.1 hi
 have:=aZ.1 (aF.1 hk).1
 omega
theorem Hs (b:Aa) (p:Ab):(Bl b p).length<=b.An.toNat:=by
 have:=bC Ip ((List.range b.An.toNat).map (isl b p))
 simpa [Bl] using this
def Cu (p:Ab) (s:List Af) (x:Ah):List Af:=match x.Ac with
 | []=>s
 | i::_=>Ef (p.Ac.getD i.toNat default) x.Ac s
theorem Mv (p:Ab) (s:List Af) (x:Ah):(Cu p s x).length=s.length:=by
 unfold Cu;split
 ·rfl
 ·rw [Gr]
theorem Kf (p:Ab):∀ (l:List Ah) (s:List Af),(l.foldl (Cu p) s).length=s.length
 | [],_=>rfl
 | x::l,s=>by show (l.foldl (Cu p) _).length=_;rw [Kf p l,Mv]
theorem Hy (b:Aa) (p:Ab):(Ec b p).length=p.Ac.length:=Kf p _ _
theorem Te {b:Aa} (h:Aw b) {p:Ab} (hp:Ax b p):F47 b p=some (⟨p.Ag,Ec b p,p.Ap,p.Am⟩,0):=by
 refine db ?_
 unfold F47
 rw [Dm h hp,Dy h hp,Ht h hp]
 simp only [ac]
 refine c9 (λ hc=>by simp at hc) (λ _=>?_)
 refine Ok.andThen (A:=λ s=>s=Ec b p) (B:=λ (_:Unit)=>False) ?_ (λ s hs=>cV (by rw [hs])) (λ _ h=>h.elim)
 refine cX (I:=λ j s=>s=((Bl b p).take j).foldl (Cu p) p.Ac) rfl (λ j x s hx hs=>?_) λ s hs=>?_
 ·have hi:=O3 (af hx)
  have hl:s.length=p.Ac.length:=by rw [hs,Kf]
  have hn:=hp.nso
  have hnext:((Bl b p).take (j+1)).foldl (Cu p) p.Ac=Cu p s x:=by rw [Bj hx,aX,←hs];rfl
  unfold Aji A0e
  cases hsrc:x.Ac with
  | nil=>
   refine c9 (λ hc=>by simp at hc) (λ _=>cW ?_)
   rw [hnext];simp [Cu,hsrc]
  | cons i l=>
   have hi0:=hi i (by rw [hsrc];exact aj)
   refine c9 (λ _=>?_) (λ hc=>by simp at hc)
   have hg:getI (i::l) 0=some i:=rfl
   obtain⟨u,hu⟩:∃ u,p.Ac[i.toNat]? = some u:=⟨_,ag (by omega)⟩
   have hg2:getI p.Ac i=some u:=by have:=Bi hu;rwa [bQ hi0.1] at this
   rw [hg]
   simp only [ac]
   rw [hg2]
   simp only [ac]
   rw [Aey (by
    intro k hk
    have:=hi k (by rw [hsrc];exact hk)
    dsimp only
    omega)]
   refine cW ?_
   rw [hnext]
   have:p.Ac.getD i.toNat default=u:=by simp [List.getD,hu]
   simp only [Cu,hsrc,this]
 ·rw [aI] at hs;exact hs
structure F4 (y:A5):Prop where
 stop:1<=y.Stop/\y.Stop<=99
 start:y.Stop<y.Start/\y.Start<=100
 delay:0<=y.Delay/\y.Delay<=600
theorem Wv {y:A5} (h:F4 y):F49 y=true:=by
 have h1:=h.stop
 have h2:=h.start
 have h3:=h.delay
 simp only [F49,ae,dF]
 omega
theorem Ay4 {s:Aj} (hs:B1 s):Ok (F11 s) λ y=>F4 y.1/\B1 y.2:=by
 unfold F11
 refine (Ed hs _ (by simp) (by simp)).bind λ u hu=>(Ed hu.1 _ (by simp) (by simp)).bind λ v hv=>(Ed hv.1 _ (by simp) (by simp)).bind λ w hw=>cV ⟨?_,hw.1⟩
 have g1:u.1=60\/u.1=80\/u.1=100:=by simpa using hu.2
 have g2:v.1=1\/v.1=30\/v.1=50:=by simpa using hv.2
 have g3:w.1=0\/w.1=1\/w.1=3:=by simpa using hw.2
 exact⟨by dsimp only;omega,by dsimp only;omega,by dsimp only;omega⟩
def Ji:Av:=⟨-1,-1⟩
theorem A66:On 1=some (List.replicate 1 Ji):=by kernel_rfl
theorem A65:On 2=some (List.replicate 2 Ji):=by kernel_rfl
theorem A64:On 3=some (List.replicate 3 Ji):=by kernel_rfl
theorem A63:On 4=some (List.replicate 4 Ji):=by kernel_rfl
theorem A62:On 5=some (List.replicate 5 Ji):=by kernel_rfl
theorem A61:On 6=some (List.replicate 6 Ji):=by kernel_rfl
theorem A1v {n:Int} (h:1<=n/\n<=6):On n=some (List.replicate n.toNat Ji):=by
 have:n=1\/n=2\/n=3\/n=4\/n=5\/n=6:=by omega
 rcases this with rfl | rfl | rfl | rfl | rfl | rfl
 ·exact A66
 ·exact A65
 ·exact A64
 ·exact A63
 ·exact A62
 ·exact A61
def Er (t:Int) (x:Av):Prop:=(-1<=x.High/\x.High<=t) /\ -1<=x.Low/\x.Low<=t
theorem Ano {p:Ar} {l:List Av} (h:∀ x,x∈l->Er p.Time x):qR l p=some (false,p):=by
 refine db ?_
 unfold qR Adh
 refine Ok.bind (P:=λ y=>y=(-1,p)) ?_ (λ y hy=>cV (by rw [hy];rfl))
 refine Ok.andThen (A:=λ s=>s=(p.Time,p.Power.Ag,p.Power.Ac,p.Power.Ap,p.Power.Am,p.A2,p.A8)) (B:=λ _=>False) ?_ (λ s hs=>cV (by rw [hs])) (λ _ h=>h.elim)
 refine cX (I:=λ _ s=>s=(p.Time,p.Power.Ag,p.Power.Ac,p.Power.Ap,p.Power.Am,p.A2,p.A8)) rfl (λ j x s hx hs=>?_) λ s hs=>hs
 have hr:=h x (af hx)
 unfold Er at hr
 subst hs
 unfold Yx
 refine c9 (λ hc=>?_) (λ _=>cW rfl)
 simp only [Ame,Gf,Ra,aO,bn,Bool.and_eq_false_iff,dG] at hc
 omega
structure Fa (b:Aa) (y:A5) (p:Ar):Prop where
 st:Ax b p.Power
 fol:Ec b p.Power=p.Power.Ac
 time:0<=p.Time/\p.Time<=2147483648
 nro:p.A2.length=b.An.toNat
 ros:∀ x,x∈p.A2->Er p.Time x
theorem Rn {b:Aa} (h:Aw b) {y:A5} (hy:F4 y) {p:Ar} (hp:Fa b y p):F29 b y p=some 0:=by
 have h1:=h.buses
 have h2:=hp.time
 have h3:=hp.nro
 refine db ?_
 unfold F29
 rw [Te h hp.st]
 simp only [ac,hp.fol]
 refine c9 (λ hc=>by simp at hc) (λ _=>c9 (λ hc=>?_) (λ _=>c9 (λ hc=>?_) (λ _=>?_)))
 ·simp only [A0m,Wv hy,bj,bk,aO,dF] at hc
  omega
 ·simp only [bne_iff_ne,ne_eq] at hc
  omega
 ·have e:(⟨p.Power.Ag,p.Power.Ac,p.Power.Ap,p.Power.Am⟩:Ab)=p.Power:=rfl
  rw [e,Ara (hp.st.lens h)]
  simp only [ac]
  rw [Ano hp.ros]
  have e2:A3 [((!true),false)] (some (false,p)) (default,p)=some (false,p):=rfl
  rw [e2]
  exact cV rfl
theorem A25 (b:Aa):zY b ⟨7,0,0⟩=some true:=rfl
theorem Ayx {b:Aa} (h:Aw b) {p:Ar} (hp:Ax b p.Power) (h1:p.A2.length<=1000) (h2:p.A8.length<=10000000):F74 b p=some ⟨p,b,[],[]⟩:=by
 unfold F74 Aqq F79
 rw [Dy h hp,K9 (by omega),K9 (by omega)]
 rfl
theorem A1m {b:Aa} (h:Aw b) {r:A4} {p:Ab} (hp:Ax b p) (h1:r.states.length<=10000000):qL r p=some ⟨r.A0,r.Al,r.events,r.states++[p]⟩:=by
 refine db ?_
 unfold qL
 rw [Dy h hp]
 simp only [ac]
 exact (d3 (by simp;omega)).bind λ s hs=>cV (by rw [hs])
theorem Axu {b:Aa} (h:Aw b) {r:A4} {p:Ab} (hp:Ax b r.A0.Power) (h1:r.states.length<=10000000):qK r p=some ⟨r.A0,r.Al,r.events,r.states++[r.A0.Power]⟩:=by
 refine db ?_
 unfold qK
 rw [Dy h hp]
 simp only [ac]
 exact (d3 (by simp;omega)).bind λ s hs=>cV (by rw [hs])
def brk (l:List Ak) (k n:Int):Bool:=l.any λ x=>k==x.Kind&&n==x.Number
theorem Ev {p:Ab} (h:p.Am.length<=1000) (k n:Int):H_ p k n=some (brk p.Am k n):=by
 unfold H_ Aqn Aqm
 rw [Ki (λ x:Ak=>(k==x.Kind)&&((n==x.Number)&&true)) (λ i y=>rfl) p.Am (by omega)]
 simp only [ac,Qi,brk,bK]
def Ih (b:Aa) (i:Int):Int:=Of (λ x:Ai=>x.Kind==2&&x.B==i) b.Ad
theorem jW {b:Aa} (h:Aw b) (i:Int):Ajo b i=some (Ih b i):=by
 have hb:=h.brl
 unfold Ajo qZ
 refine db ?_
 refine Ok.bind (P:=λ y=>y=(Ih b i,i)) ?_ (λ y hy=>cV (by rw [hy]))
 have key:=J9 (f:=λ n (a:Ai) (z:Unit)=>(bif (a.Kind==2&&a.B==i) then some (.ret (cnt 0 n)) else some (.next ()):Option (Ctl Unit Int))) (p:=λ x:Ai=>x.Kind==2&&x.B==i) (λ _ _=>rfl) b.Ad 0 (by omega)
 have:∀ (xs:List Ai) (k:Nat),foldI (N6 i) xs k ()=match foldI (λ n (a:Ai) (z:Unit)=>(bif (a.Kind==2&&a.B==i) then some (.ret (cnt 0 n)) else some (.next ()):Option (Ctl Unit Int))) xs k () with
   | some (.ret r)=>some (.ret (r,i))
   | some (.next _)=>some (.next ())
   | some (.brk _)=>some (.brk ())
   | none=>none:=by
  intro xs
  induction xs with
  | nil=>intro k;rfl
  | cons x xs ih=>
   intro k
   simp only [foldI,N6,qT]
   cases hq:(x.Kind==2&&x.B==i) with
   | true=>rfl
   | false=>simp only [cond_false];exact ih (k+1)
 rw [this,key]
 unfold Ih Of
 cases b.Ad.findIdx? (λ x:Ai=>x.Kind==2&&x.B==i) with
 | none=>exact cV rfl
 | some j=>exact cV rfl
theorem Ll {b:Aa} (h:Aw b) {i:Int} (h0:0<=i) (h1:i<b.Ac.length):∃ (j:Nat) (x:Ai),Ih b i=(j:Int)/\b.Ad[j]? = some x/\x.Kind=2/\x.B=i/\j<24:=by
 have hone:=h.one i.toNat (by omega)
 have hb:=h.brl
 unfold Ih Of
 cases hf:b.Ad.findIdx? (λ x:Ai=>x.Kind==2&&x.B==i) with
 | none=>
  exfalso
  rw [cQ] at hf
  have:brs b.Ad 2 i.toNat=[]:=J4 λ x hx hk e=>by
   have:=hf x hx
   simp [hk] at this
   omega
  rw [this] at hone;simp at hone
 | some j=>
  rw [cR] at hf
  obtain⟨hj,hp,_⟩:=hf
  simp only [ae,dH] at hp
  exact⟨j,b.Ad[j],rfl,ag hj,hp.1,hp.2,by omega⟩
def ks (x:Ak):Int:=x.Kind*1000+x.Number
def Ch (x:Ak):Prop:=(1<=x.Kind/\x.Kind<=4)/\0<=x.Number/\x.Number<=100
theorem B8.small {b:Aa} (h:Aw b) {x:Ak} (hx:B8 b x):Ch x:=by
 have h1:=h.buses
 have h2:=h.brl
 have h3:=h.sol
 have h4:=h.col
 unfold B8 at hx
 unfold Ch
 omega
theorem Acx {x y:Ak} (hx:Ch x) (hy:Ch y):Ph x y↔ks x<ks y:=by
 unfold Ph ks
 unfold Ch at hx hy
 omega
theorem Azr {x y:Ak} (hx:Ch x) (hy:Ch y) (h:ks x=ks y):x=y:=by
 unfold ks at h
 unfold Ch at hx hy
 cases x;cases y
 simp only [Ak.mk.injEq]
 dsimp only at *
 omega
theorem Abo {x y:Ak} (hx:Ch x) (hy:Ch y):(decide (Rj x y<0)=decide (ks x<ks y))/\((Rj x y==0)=(ks x==ks y)):=by
 unfold Ch at hx hy
 unfold Rj ks
 by_cases hk:x.Kind=y.Kind
 ·have:(x.Kind != y.Kind)=false:=by simp [hk]
  rw [this,cond_false,Bd (by omega)]
  constructor
  ·exact decide_eq_decide.2 (by omega)
  ·rw [bR,dH,dH];omega
 ·have:(x.Kind != y.Kind)=true:=by simp [hk]
  rw [this,cond_true,Bd (by omega)]
  constructor
  ·exact decide_eq_decide.2 (by omega)
  ·rw [bR,dH,dH];omega
def Gl (l:List Ak):Prop:=∀ (j k:Nat) x y,j<k->l[j]? = some x->l[k]? = some y->ks x<ks y
theorem G5 {b:Aa} (h:Aw b) {l:List Ak} (hl:D1 b l):Gl l:=by
 have hs:∀ x,x∈l->Ch x:=λ x hx=>(hl.mem x hx).small h
 intro j k
 induction k with
 | zero=>intro x y hj;omega
 | succ k ih=>
  intro x y hj hx hy
  have hk:=(aa.1 hy).1
  obtain⟨z,hz⟩:∃ z,l[k]? = some z:=⟨_,ag (by omega)⟩
  have h1:=(Acx (hs z (af hz)) (hs y (af hy))).1 (hl.asc k z y hz hy)
  by_cases e:j=k
  ·subst e
   rw [hx] at hz;cases hz;exact h1
  ·have:=ih x z (by omega) hx hz
   omega
theorem A1y {n:Int} (h0:0<=n) (h1:n<=1000000):w64 (G6 .u64 (IntKind.wrap .u64 (w64 n)) 1)=n / 2:=by
 have e1:w64 n=n:=Bd (by omega)
 have e2:IntKind.wrap .u64 n=n:=by
  simp [IntKind.wrap,IntKind.signed,IntKind.bits]
  omega
 have e3:G6 .u64 n 1=n / 2:=by
  unfold G6
  have:(2:Int) ^ min 1 (IntKind.u64).bits=2:=by decide
  rw [this]
  exact Int.fdiv_eq_ediv_of_nonneg _ (by omega)
 rw [e1,e2,e3,Bd (by omega)]
structure At (l:List Ak) (x:Ak) (n:Nat):Prop where
 le:n<=l.length
 lo:∀ (j:Nat) y,j<n->l[j]? = some y->ks y<ks x
 hi:∀ (j:Nat) y,n<=j->l[j]? = some y->ks x<=ks y
theorem Nn {l:List Ak} (hs:Gl l) (hsm:∀ x,x∈l->Ch x) {x:Ak} (hx:Ch x) (hl:l.length<=1000) :
  Ok (Ug l x) λ y=>∃ n:Nat,y.1=(n:Int)/\At l x n/\(y.2=true↔l[n]? = some x):=by
 unfold Ug
 refine Ok.andThen (A:=λ s=>∃ n:Nat,s.1=(n:Int)/\At l x n) (B:=λ (_:Unit)=>False) ?_ ?_ (λ _ h=>h.elim)
 ·refine cZ (λ s=>(0<=s.1/\s.1<=s.2/\s.2<=(l.length:Int))/\(∀ (j:Nat) y,(j:Int)<s.1->l[j]? = some y->ks y<ks x)/\∀ (j:Nat) y,s.2<=(j:Int)->l[j]? = some y->ks x<=ks y) (λ s=>(s.2-s.1).toNat) _ _ ?_ ?_ ?_
  ·refine⟨by dsimp only;omega,λ j y hj=>by dsimp only at hj;omega,λ j y hj hy=>?_⟩
   have:=(aa.1 hy).1
   dsimp only at hj;omega
  ·dsimp only;omega
  ·rintro⟨i,j⟩ ⟨⟨h1,h2,h3⟩,h4,h5⟩
   dsimp only at h1 h2 h3 h4 h5
   unfold Uf
   dsimp only
   refine c9 (λ hq=>?_) (λ hq=>?_)
   ·simp only [dF] at hq
    rw [A1y (by omega) (by omega)]
    refine (cY (by omega) (by omega)).bind λ y hy=>?_
    have hym:=hsm y (af hy)
    rw [(Abo hym hx).1]
    refine c9 (λ hc=>?_) (λ hc=>?_)
    ·simp only [dF] at hc
     rw [Bd (by omega)]
     refine cW ⟨⟨by dsimp only;omega,λ k z hk hz=>?_,h5⟩,by dsimp only;omega⟩
     dsimp only at hk
     by_cases e:k=((i+j) / 2).toNat
     ·subst e;rw [hy] at hz;cases hz;exact hc
     ·have:=hs k _ z y (by omega) hz hy
      omega
    ·simp only [dG] at hc
     refine cW ⟨⟨by dsimp only;omega,h4,λ k z hk hz=>?_⟩,by dsimp only;omega⟩
     dsimp only at hk
     by_cases e:k=((i+j) / 2).toNat
     ·subst e;rw [hy] at hz;cases hz;omega
     ·have:=hs _ k y z (by omega) hy hz
      omega
   ·simp only [dG] at hq
    refine de ⟨i.toNat,by dsimp only;omega,by omega,λ k y hk hy=>h4 k y (by omega) hy,λ k y hk hy=>h5 k y (by omega) hy⟩
 ·rintro⟨i,j⟩ ⟨n,hn,hat⟩
  dsimp only at hn
  subst hn
  dsimp only
  by_cases hlt:n<l.length
  ·obtain⟨y,hy⟩:∃ y,l[n]? = some y:=⟨_,ag hlt⟩
   have hd:decide ((n:Int)<(l.length:Int))=true:=by simp;omega
   rw [hd,Bi hy]
   refine Ok.bind (P:=λ z=>z=y) (d4 (λ _=>cV rfl) λ hn=>(hn ⟨rfl,trivial⟩).elim) λ z hz=>cV ⟨n,rfl,hat,?_⟩
   subst hz
   have hym:=hsm z (af hy)
   show (true&&(Rj z x==0))=true↔_
   rw [bi,(Abo hym hx).2,dH,hy]
   constructor
   ·intro e;rw [Azr hym hx e]
   ·intro e;cases e;rfl
  ·have hd:decide ((n:Int)<(l.length:Int))=false:=by simp;omega
   rw [hd]
   refine Ok.bind (P:=λ _=>True) (d4 (λ hg=>absurd hg.1 (by simp)) λ _=>trivial) λ z _=>cV ⟨n,rfl,hat,?_⟩
   rw [bY (by omega)]
   simp
theorem At.uniq {l:List Ak} {x:Ak} {n m:Nat} (h:At l x n) (k:At l x m):n=m:=by
 rcases bL n m with e | e | e
 ·obtain⟨y,hy⟩:∃ y,l[n]? = some y:=⟨_,ag (by have:=k.le;omega)⟩
  have:=h.hi n y (an _) hy
  have:=k.lo n y e hy
  omega
 ·exact e
 ·obtain⟨y,hy⟩:∃ y,l[m]? = some y:=⟨_,ag (by have:=h.le;omega)⟩
  have:=k.hi m y (an _) hy
  have:=h.lo m y e hy
  omega
def Dx (l:List Ak) (n:Nat) (x:Ak):List Ak:=l.take n++(x::l.drop n)
theorem Atg {l:List Ak} {n:Nat} (hn:n<=l.length) (hl:l.length<=1000) (x:Ak):Pk l (n:Int) [x]=some (Dx l n x):=by
 refine db ?_
 unfold Pk
 refine (Ok.bndI (by omega) (by omega) (by omega)).bind λ _ _=>?_
 refine c9 (λ hc=>by simp at hc) (λ _=>c9 (λ hc=>?_) (λ _=>?_))
 ·simp only [dH] at hc
  have e:n=l.length:=by omega
  refine (d3 (by simp;omega)).bind λ y hy=>cV ?_
  rw [hy,Dx,e];simp
 ·refine (Ok.insI (by simp;omega)).mono λ y hy=>?_
  rw [hy,aH];rfl
theorem Aua {l:List Ak} {n:Nat} (hn:n<=l.length) (x:Ak):Ue (Dx l n x) (n:Int) ((n:Int)+1)=some l:=by
 have hlen:(Dx l n x).length=l.length+1:=by simp [Dx];omega
 refine db ?_
 unfold Ue
 have e1:((n:Int)+1).toNat=n+1:=by omega
 have hdrop:(Dx l n x).drop (n+1)=l.drop n:=by
  unfold Dx
  rw [List.drop_append,cS (by simp;omega)]
  have:n+1-(l.take n).length=1:=by simp;omega
  rw [this];simp
 have htake:(Dx l n x).take n=l.take n:=by
  unfold Dx
  rw [cD (by simp;omega),List.take_take,Nat.min_self]
 refine (Ok.bnd3I (by omega) (by omega) (by omega) (by omega)).bind λ _ _=>c9 (λ hc=>?_) (λ _=>?_)
 ·simp only [dH] at hc;omega
 refine (Ok.bndI (by omega) (by omega) (by omega)).bind λ _ _=>(Ok.bndI (by omega) (by omega) (by omega)).bind λ _ _=>?_
 simp only [aH,e1,hdrop,Nat.sub_zero]
 have hpl:((l.drop n).take ((Dx l n x).length-(n+1))).length=l.length-n:=by simp [hlen]
 have hpe:(l.drop n).take ((Dx l n x).length-(n+1))=l.drop n:=bv (by simp [hlen])
 rw [hpe]
 have hdl:(l.drop n).length=l.length-n:=by simp
 refine (Ok.appPI (by rw [hlen,hdl];omega)).bind λ y hy=>?_
 have hyl:y.length=l.length+1:=by rw [hy];simp [hlen];omega
 refine (Ok.bndI (by omega) (by rw [hlen,hdl];omega) (by rw [hlen,hyl];omega)).bind λ _ _=>cV ?_
 have e2:n+(l.drop n).length=l.length:=by rw [hdl];omega
 rw [e2]
 unfold Gd
 simp only [aG]
 rw [cD (by simp;omega),List.take_take,Nat.min_self,hy,htake,←aD,cD (by simp),cf,aI]
theorem Qg {l:List Ak} {n:Nat} (hn:n<=l.length) {x:Ak} {j:Nat} {y:Ak} (h:(Dx l n x)[j]? = some y):(j<n/\l[j]? = some y)\/(j=n/\y=x)\/(n<j/\l[j-1]? = some y):=by
 unfold Dx at h
 have ht:(l.take n).length=n:=by simp;omega
 rw [cj] at h
 split at h
 ·rename_i h1
  rw [ht] at h1
  rw [ar,if_pos h1] at h
  exact .inl ⟨h1,h⟩
 ·rename_i h1
  rw [ht] at h1 h
  by_cases e:j=n
  ·subst e
   simp at h
   exact .inr (.inl ⟨rfl,h.symm⟩)
  ·obtain⟨k,hk⟩:∃ k,j-n=k+1:=⟨j-n-1,by omega⟩
   rw [hk,cL,aq] at h
   refine .inr (.inr ⟨by omega,?_⟩)
   rw [←h];congr 1;omega
theorem Ax2 {l:List Ak} {n:Nat} {x y:Ak} (h:y∈Dx l n x):y=x\/y∈l:=by
 unfold Dx at h
 rcases az.1 h with h | h
 ·exact .inr (bh h)
 ·rcases ah.1 h with h | h
  ·exact .inl h
  ·exact .inr (cg h)
theorem Al7 {b:Aa} (h:Aw b) {l:List Ak} (hl:D1 b l) {x:Ak} (hx:B8 b x) {n:Nat} (hat:At l x n) (hnot:l[n]? ≠ some x) (hlen:l.length<32):D1 b (Dx l n x):=by
 have hs:=G5 h hl
 have hsm:∀ y,y∈l->Ch y:=λ y hy=>(hl.mem y hy).small h
 have hxs:=hx.small h
 refine⟨by simp [Dx];omega,λ y hy=>?_,λ j y z hy hz=>?_⟩
 ·rcases Ax2 hy with rfl | hy
  ·exact hx
  ·exact hl.mem y hy
 ·rcases Qg hat.le hy with⟨a1,a2⟩ | ⟨a1,a2⟩ | ⟨a1,a2⟩ <;> rcases Qg hat.le hz with⟨b1,b2⟩ | ⟨b1,b2⟩ | ⟨b1,b2⟩
  ·exact hl.asc j y z a2 b2
  ·subst b2
   exact (Acx (hsm y (af a2)) hxs).2 (hat.lo j y a1 a2)
  ·omega
  ·omega
  ·omega
  ·subst a2
   have e:j+1-1=n:=by omega
   rw [e] at b2
   have hzm:=hsm z (af b2)
   refine (Acx hxs hzm).2 ?_
   have h1:=hat.hi n z (an _) b2
   rcases Int.lt_or_eq_of_le h1 with h1 | h1
   ·exact h1
   ·exact absurd (by rw [b2,Azr hxs hzm h1]) hnot
  ·omega
  ·omega
  ·have e:j+1-1=j-1+1:=by omega
   rw [e] at b2
   exact hl.asc (j-1) y z a2 b2
theorem At.ins {l:List Ak} {x:Ak} {n:Nat} (hat:At l x n):At (Dx l n x) x n:=by
 refine⟨by have:=hat.le;simp [Dx];omega,λ j y hj hy=>?_,λ j y hj hy=>?_⟩
 ·rcases Qg hat.le hy with⟨_,a2⟩ | ⟨a1,_⟩ | ⟨a1,_⟩
  ·exact hat.lo j y hj a2
  ·omega
  ·omega
 ·rcases Qg hat.le hy with⟨a1,_⟩ | ⟨_,a2⟩ | ⟨a1,a2⟩
  ·omega
  ·subst a2;exact Int.le_refl _
  ·exact hat.hi (j-1) y (by omega) a2
theorem A1u {l:List Ak} {n:Nat} (hn:n<=l.length) (x:Ak):(Dx l n x)[n]? = some x:=by
 unfold Dx
 rw [aK (by simp;omega)]
 have:n-(l.take n).length=0:=by simp;omega
 rw [this];rfl
def Kh (ss:List Af) (x:Ak) (st:Int):List Af:=if x.Kind=1 then ss.set x.Number.toNat ⟨st,(ss.getD x.Number.toNat default).Since,(ss.getD x.Number.toNat default).Aq,(ss.getD x.Number.toNat default).Phase⟩ else ss
theorem Tk (ss:List Af) (x:Ak) (st:Int):(Kh ss x st).length=ss.length:=by unfold Kh;split <;> simp
theorem Agp {ss:List Af} (h:∀ x,x∈ss->C1 x) {x:Ak} (hx:x.Kind=1->0<=x.Number/\x.Number<ss.length) {st:Int} (hst:0<=st/\st<=3):∀ y,y∈Kh ss x st->C1 y:=by
 unfold Kh
 split
 ·rename_i hk
  have hn:=hx hk
  obtain⟨u,hu⟩:∃ u,ss[x.Number.toNat]? = some u:=⟨_,ag (by omega)⟩
  have hd:ss.getD x.Number.toNat default=u:=by simp [List.getD,hu]
  intro y hy
  rcases cr hy with hy | hy
  ·exact h y hy
  ·subst hy
   rw [hd]
   have:=h u (af hu)
   exact⟨hst,this.2⟩
 ·exact h
theorem A11 {b:Aa} (h:Aw b) {p:Ab} (hp:Ax b p) {x:Ak} (hx:B8 b x) (t:Int) {n:Nat} (hat:At p.Am x n) (hnot:p.Am[n]? ≠ some x) (hlen:p.Am.length<32) :
  Hg ⟨b,p,t⟩ x true=some (0,⟨b,⟨p.Ag,Kh p.Ac x 3,p.Ap,Dx p.Am n x⟩,t⟩):=by
 have hs:=G5 h hp.brk
 have hsm:∀ y,y∈p.Am->Ch y:=λ y hy=>(hp.brk.mem y hy).small h
 refine db ?_
 unfold Hg
 refine (Nn hs hsm (hx.small h) (by omega)).bind λ y hy=>?_
 obtain⟨m,e1,hat2,hf⟩:=hy
 have e2:=hat.uniq hat2
 subst e2
 have hf2:y.2=false:=by
  cases hb:y.2 with
  | false=>rfl
  | true=>exact absurd (hf.1 hb) hnot
 refine c9 (λ hc=>by rw [hf2] at hc;simp at hc) (λ _=>c9 (λ hc=>?_) (λ _=>?_))
 ·simp [Qt] at hc;omega
 refine Ok.andThen (A:=λ z=>z=Dx p.Am n x) (B:=λ (_:Unit)=>False) ?_ ?_ (λ _ h=>h.elim)
 ·unfold N8
  rw [e1,Atg hat.le (by omega)]
  exact dh rfl
 ·rintro z rfl
  unfold Kh
  refine c9 (λ hk=>?_) (λ hk=>?_)
  ·simp only [dH] at hk
   have hn:0<=x.Number/\x.Number<p.Ac.length:=by
    have:=hp.nso
    unfold B8 at hx
    omega
   rw [if_pos hk]
   refine (cY hn.1 hn.2).bind λ u hu=>(da hn.1 hn.2).bind λ v hv=>?_
   have hd:p.Ac.getD x.Number.toNat default=u:=by simp [List.getD,hu]
   have hvg:v[x.Number.toNat]? = some (⟨0,u.Since,u.Aq,u.Phase⟩:Af):=by rw [hv,bG (by omega)]
   simp only [cond_true]
   refine Ok.bind (P:=λ w=>w=(⟨0,u.Since,u.Aq,u.Phase⟩:Af)) ((cY hn.1 (by rw [hv];simpa using hn.2)).mono λ w hw=>by rw [hvg] at hw;cases hw;rfl) λ w hw=>?_
   subst hw
   refine (da hn.1 (by rw [hv];simpa using hn.2)).bind λ z hz=>cV ?_
   rw [hz,hv,List.set_set,hd]
  ·simp only [dJ,ne_eq] at hk
   rw [if_neg hk]
   exact cV rfl
theorem A1k {b:Aa} (h:Aw b) {p:Ab} (hbl:D1 b p.Am) {q:Ab} {x:Ak} (hx:B8 b x) (t:Int) {n:Nat} (hat:At p.Am x n) (hnot:p.Am[n]? ≠ some x) (hlen:p.Am.length<32)
  (hq:q.Am=Dx p.Am n x) (hqs:q.Ac.length=b.Ac.length):Hg ⟨b,q,t⟩ x false=some (0,⟨b,⟨q.Ag,Kh q.Ac x 0,q.Ap,p.Am⟩,t⟩):=by
 have hbl2:D1 b q.Am:=by rw [hq];exact Al7 h hbl hx hat hnot hlen
 have hs:=G5 h hbl2
 have hsm:∀ y,y∈q.Am->Ch y:=λ y hy=>(hbl2.mem y hy).small h
 refine db ?_
 unfold Hg
 refine (Nn hs hsm (hx.small h) (by have:=hbl2.len;omega)).bind λ y hy=>?_
 obtain⟨m,e1,hat2,hf⟩:=hy
 rw [hq] at hat2 hf
 have e2:=hat.ins.uniq hat2
 subst e2
 have hf2:y.2=true:=hf.2 (A1u hat.le x)
 refine c9 (λ hc=>by rw [hf2] at hc;simp at hc) (λ _=>c9 (λ hc=>?_) (λ _=>?_))
 ·simp [Qt] at hc
 refine Ok.andThen (A:=λ z=>z=p.Am) (B:=λ (_:Unit)=>False) ?_ ?_ (λ _ h=>h.elim)
 ·unfold N8
  have hle:=hat.le
  rw [e1,Bd (by omega)]
  simp only [cond_false,hq]
  rw [Aua hat.le]
  exact dh rfl
 ·rintro z rfl
  unfold Kh
  refine c9 (λ hk=>?_) (λ hk=>?_)
  ·simp only [dH] at hk
   have hn:0<=x.Number/\x.Number<q.Ac.length:=by
    unfold B8 at hx
    omega
   rw [if_pos hk]
   refine (cY hn.1 hn.2).bind λ u hu=>(da hn.1 hn.2).bind λ v hv=>?_
   have hd:q.Ac.getD x.Number.toNat default=u:=by simp [List.getD,hu]
   simp only [cond_false]
   exact cV (by rw [hv,hd])
  ·simp only [dJ,ne_eq] at hk
   rw [if_neg hk]
   exact cV rfl
def A1z (p:Ab) (x:Ak) (n:Nat):Ab:=⟨p.Ag,Kh p.Ac x 3,p.Ap,Dx p.Am n x⟩
theorem Aom {b:Aa} (h:Aw b) {p:Ab} (hp:Ax b p) {x:Ak} (hx:B8 b x) {n:Nat} (hat:At p.Am x n) (hnot:p.Am[n]? ≠ some x) (hlen:p.Am.length<32):Ax b (A1z p x n) where
 ncl:=hp.ncl
 nso:=by show (Kh p.Ac x 3).length=_;rw [Tk];exact hp.nso
 nli:=hp.nli
 run:=Agp hp.run (λ hk=>by have:=hp.nso;unfold B8 at hx;omega) (by omega)
 lim:=hp.lim
 one:=hp.one
 brk:=Al7 h hp.brk hx hat hnot hlen
theorem Mj (b:Aa) (k n:Int):J6 b k n=true↔B8 b ⟨k,n⟩:=by
 unfold J6 B8
 dsimp only
 by_cases h1:k=1
 ·subst h1;simp
 rw [dJ.2 h1,cond_false]
 by_cases h2:k=2
 ·subst h2;simp
 rw [dJ.2 h2,cond_false]
 by_cases h3:k=3
 ·subst h3;simp
 rw [dJ.2 h3,cond_false]
 by_cases h4:k=4
 ·subst h4;simp
 rw [dJ.2 h4,cond_false]
 simp only [ae,dF]
 omega
theorem A7n {b:Aa} (h:Aw b) {l:List Ak} (hl:D1 b l) {x:Ak} (hx:B8 b x):∃ n,At l x n:=by
 have hs:=G5 h hl
 obtain⟨y,_,n,_,hat,_⟩:=Nn hs (λ y hy=>(hl.mem y hy).small h) (hx.small h) (by have:=hl.len;omega)
 exact⟨n,hat⟩
theorem A18 {b:Aa} (h:Aw b) {p:Ab} (hp:Ax b p):F37 p=some p:=by
 have hl:=hp.lens h
 have h1:=hl.c
 have h2:=hl.s
 have h3:=hl.l
 have h4:=hl.k
 unfold F37
 rw [K9 (by omega),K9 (by omega),K9 (by omega),K9 (by omega)]
 rfl
theorem dj {α:Type} {l:List (Bool×Bool)} {x:Option α} {d:α} {P:α->Prop} (hx:Da l->Ok x λ _=>True) (hr:∀ y,P y):Ok (A3 l x d) P:=
 d4 (λ h=>(hx h).mono λ y _=>hr y) λ _=>hr d
theorem dk {α:Type} {x:Option α} {v:α} (h:x=some v):Ok x λ _=>True:=⟨v,h,trivial⟩
theorem A0y {x B4:Af} (hx:C1 x) (hl:C1 B4):C1 (Xd B4 x):=⟨hx.1,hx.2.1,hl.2.2.1,hl.2.2.2⟩
theorem Lp {ss:List Af} (h:∀ x,x∈ss->C1 x) {n:Nat} {y:Af} (hy:C1 y):∀ x,x∈ss.set n y->C1 x:=λ x hx=>by
 rcases cr hx with hx | hx
 ·exact h x hx
 ·exact hx ▸ hy
theorem Agg {ss:List Af} (h:∀ x,x∈ss->C1 x) {n:Nat} (hn:n<ss.length):C1 (ss.getD n default):=by
 have:ss.getD n default=ss[n]:=by simp [List.getD,List.getElem?_eq_getElem hn]
 rw [this];exact h _ (List.getElem_mem hn)
theorem P2 {B4:Af} (hl:C1 B4):∀ (idx:List Int) (ss:List Af),(∀ i,i∈idx->0<=i/\i<ss.length)->(∀ x,x∈ss->C1 x)->∀ x,x∈Ef B4 idx ss->C1 x
 | [],_,_,h=>h
 | i::idx,ss,hi,h=>by
  have h0:=hi i aj
  refine P2 hl idx _ (λ j hj=>?_) (Lp h (A0y (Agg h (by omega)) hl))
  have:=hi j (ai _ hj)
  simpa using this
theorem Agh {b:Aa} {p:Ab} (hp:Ax b p):∀ (l:List Ah) (s:List Af),(∀ x,x∈l->∀ i,i∈x.Ac->0<=i/\i<b.Ac.length)->s.length=p.Ac.length->(∀ x,x∈s->C1 x)->∀ x,x∈l.foldl (Cu p) s->C1 x
 | [],_,_,_,h=>h
 | y::l,s,hi,hs,h=>by
  refine Agh hp l _ (λ x hx=>hi x (ai _ hx)) (by rw [Mv,hs]) ?_
  have h0:=hi y aj
  have hn:=hp.nso
  unfold Cu
  split
  ·exact h
  ·rename_i i r e
   rw [e] at h0
   have h1:=h0 i aj
   rw [e]
   exact P2 (Agg hp.run (by omega)) _ _ (λ j hj=>by have:=h0 j hj;omega) h
theorem Qo {b:Aa} {p:Ab} (hp:Ax b p):∀ x,x∈Ec b p->C1 x:=
 Agh hp _ _ (λ _ hx=>O3 hx) rfl hp.run
theorem I6 {b:Aa} {p:Ab} (hp:Ax b p) {ss:List Af} (hl:ss.length=p.Ac.length) (hr:∀ x,x∈ss->C1 x):Ax b ⟨p.Ag,ss,p.Ap,p.Am⟩ where
 ncl:=hp.ncl
 nso:=hl.trans hp.nso
 nli:=hp.nli
 run:=hr
 lim:=hp.lim
 one:=hp.one
 brk:=hp.brk
theorem Anw {b:Aa} {p:Ab} (hp:Ax b p) (j:Nat):Ax b ⟨p.Ag.set j false,p.Ac,p.Ap,p.Am⟩ where
 ncl:=by simpa using hp.ncl
 nso:=hp.nso
 nli:=hp.nli
 run:=hp.run
 lim:=hp.lim
 one i hi:=by
  refine aJ (Ago (by simp) (λ k hk=>?_) i) (hp.one i hi)
  rw [aw] at hk
  split at hk
  ·split at hk <;> cases hk
  ·exact hk
 brk:=hp.brk
theorem Atm {l:List Ai}:∀ {c:List Bool} {j:Nat} {x:Ai},l[j]? = some x->∀ i:Nat,(Cf l (c.set j true) i).length<=(Cf l c i).length+(if x.Kind=3/\x.B=(i:Int) then 1 else 0):=by
 induction l with
 | nil=>intro c j x h;simp at h
 | cons y l ih=>
  intro c j x h i
  cases c with
  | nil=>simp [Cf]
  | cons v c=>
   cases j with
   | zero=>
    simp only [List.getElem?_cons_zero,al] at h
    subst h
    simp only [List.set_cons_zero,Cf,bF,bo]
    by_cases hk:y.Kind=3/\y.B=(i:Int)
    ·rw [if_pos hk]
     simp only [hk.1,hk.2,beq_self_eq_true,bi,bK,if_true]
     split <;> simp
    ·rw [if_neg hk]
     have:(y.Kind==3&&y.B==(i:Int))=false:=by
      rw [cO];intro e
      simp only [ae,dH] at e
      exact hk e
     simp [this]
   | succ j=>
    simp only [cL] at h
    have:=ih (c:=c) h i
    simp only [List.set_cons_succ,Cf,bF,bo] at this ⊢
    split <;> simp at this ⊢ <;> omega
theorem Atn {b:Aa} {p:Ab} {i:Nat} (h:Ei b p 3 (i:Int)=none):Cf b.Ad p.Ag i=[]:=by
 unfold Ei at h
 rw [Option.map_eq_none_iff,List.find?_eq_none] at h
 unfold Cf
 rw [List.filter_eq_nil_iff]
 exact h
theorem A5v {b:Aa} {p:Ab} (hp:Ax b p) {j:Nat} {x:Ai} (hx:b.Ad[j]? = some x) (hf:x.Kind=3->Ei b p 3 x.B=none):Ax b ⟨p.Ag.set j true,p.Ac,p.Ap,p.Am⟩ where
 ncl:=by simpa using hp.ncl
 nso:=hp.nso
 nli:=hp.nli
 run:=hp.run
 lim:=hp.lim
 one i hi:=by
  have h1:=Atm (c:=p.Ag) hx i
  have h2:=hp.one i hi
  dsimp only
  split at h1
  ·rename_i hk
   have h3:=hf hk.1
   rw [hk.2] at h3
   rw [Atn h3] at h1
   simpa using h1
  ·omega
 brk:=hp.brk
theorem A1d {b:Aa} (h:Aw b) {p:Ab} (hp:Ax b p) (i:Int):Ok (Ajz b p i) λ y=>y.2≠0\/Ax b y.1:=by
 have hbl:p.Am.length<=1000:=by have:=hp.brk.len;omega
 have hn:=hp.ncl
 unfold Ajz
 rw [Dm h hp,Dy h hp]
 simp only [ac]
 refine c9 (λ hc=>by simp at hc) (λ _=>c9 (λ _=>cV (.inl (by simp))) (λ hr=>?_))
 simp only [Auo,bM,dG] at hr
 refine (cY (by omega) (by omega)).bind λ v _=>Ok.bind (P:=λ _=>True) (dj (λ _=>dk (Ev hbl _ _)) λ _=>trivial) λ _ _=>?_
 refine c9 (λ _=>cV (.inl (by simp))) (λ _=>?_)
 exact (cY (by omega) (by omega)).bind λ _ _=>(da (by omega) (by omega)).bind λ z hz=>cV (.inr (by rw [hz];exact Anw hp _))
theorem Azi {b:Aa} (h:Aw b) {p:Ab} (hp:Ax b p) (n:Int):Ok (Gg b p n) λ y=>∀ i,i∈y.1.Ac->0<=i/\i<p.Ac.length:=by
 have hn:=hp.nso
 unfold Gg
 rw [Ht h hp]
 simp only [ac]
 refine Ok.andThen (A:=λ _=>True) (B:=λ y=>∀ i,i∈y.1.Ac->0<=i/\i<p.Ac.length) ?_ (λ _ _=>cV (λ i hi=>by cases hi)) (λ v hv=>cV hv)
 refine cX (I:=λ _ _=>True) trivial (λ j x s hx _=>?_) λ s _=>trivial
 have hmem:=af hx
 have hbl:x.An.length<=9223372036854775807:=by
  unfold Bl at hmem
  obtain⟨f,_,rfl⟩:=am.1 (aF.1 hmem).1
  have:=Dc (λ i=>(A_ b p).getD i 0==(f:Int)) b.An.toNat
  have:=h.buses
  simp only [isl,Dz]
  omega
 unfold L5
 rw [Dr _ _ hbl]
 simp only [ac]
 refine c9 (λ _=>Ok.ret λ i hi=>?_) (λ _=>cW trivial)
 have:=O3 hmem i hi
 omega
theorem A80 {b:Aa} (h:Aw b) {p:Ab} (hp:Ax b p) (n:Int):Ok (Gg b p n) λ y=>y.1.An.length<=9223372036854775807:=by
 unfold Gg
 rw [Ht h hp]
 simp only [ac]
 refine Ok.andThen (A:=λ _=>True) (B:=λ y=>y.1.An.length<=9223372036854775807) ?_ (λ _ _=>cV (by simp)) (λ v hv=>cV hv)
 refine cX (I:=λ _ _=>True) trivial (λ j x s hx _=>?_) λ s _=>trivial
 have hmem:=af hx
 have hbl:x.An.length<=9223372036854775807:=by
  unfold Bl at hmem
  obtain⟨f,_,rfl⟩:=am.1 (aF.1 hmem).1
  have:=Dc (λ i=>(A_ b p).getD i 0==(f:Int)) b.An.toNat
  have:=h.buses
  simp only [isl,Dz]
  omega
 unfold L5
 rw [Dr _ _ hbl]
 simp only [ac]
 exact c9 (λ _=>Ok.ret hbl) (λ _=>cW trivial)
theorem Nx {b:Aa} (h:Aw b) {p:Ab} (hp:Ax b p) (n:Int):Ok (Uh b p n) λ y=>y.2=true->0<=y.1/\y.1<p.Ac.length:=by
 unfold Uh
 refine (Azi h hp n).bind λ y hy=>?_
 refine c9 (λ _=>cV (λ e=>by cases e)) (λ hc=>?_)
 simp only [dJ,ne_eq] at hc
 exact (cY (by omega) (by omega)).bind λ z hz=>cV λ _=>hy z (af hz)
theorem di {α:Type} {l:List α} {i:Int} (h0:0<=i) (h1:i<l.length):Ok (getI l i) λ _=>True:=(cY h0 h1).mono λ _ _=>trivial
theorem A01 {b:Aa} (h:Aw b) {p:Ab} (hp:Ax b p) {j:Nat} {x:Ai} (hx:b.Ad[j]? = some x):Ok (Ajp b p x) λ _=>True:=by
 have hn:=hp.nso
 have hb:=h.br x (af hx)
 unfold Rk at hb
 unfold Ajp
 refine (Nx h hp _).bind λ y hy=>?_
 refine c9 (λ _=>cV trivial) (λ h2=>?_)
 simp only [Bool.not_eq_false'] at h2
 have hy:=hy h2
 refine c9 (λ _=>?_) (λ _=>c9 (λ hk=>?_) (λ _=>cV trivial))
 ·refine (Nx h hp _).bind λ z hz=>?_
  refine Ok.bind (P:=λ _=>True) (dj (λ _=>di hy.1 hy.2) λ _=>trivial) λ _ _=>?_
  refine Ok.bind (P:=λ _=>True) (dj (λ hg=>?_) λ _=>trivial) λ _ _=>cV trivial
  have:=hz (by have:=hg.1;simpa using this)
  exact di this.1 this.2
 ·simp only [dH] at hk
  exact (di hy.1 hy.2).bind λ _ _=>(di (by omega) (by omega)).bind λ _ _=>cV trivial
theorem As6 {o:Option Int}:(F1 o).2=false->o=none:=by
 cases o with
 | none=>intro _;rfl
 | some a=>intro e;cases e
theorem Awz {b:Aa} (h:Aw b) {p:Ab} (hp:Ax b p) {j:Int} (h0:0<=j) (h1:j<b.Ad.length):Ok (Ajq b p j) λ y=>y=true->∀ x,b.Ad[j.toNat]? = some x->x.Kind=3->Ei b p 3 x.B=none:=by
 have hbl:p.Am.length<=1000:=by have:=hp.brk.len;omega
 have hn:=hp.nso
 have hc:=hp.ncl
 unfold Ajq
 refine (cY h0 h1).bind λ x hx=>(di h0 (by omega)).bind λ _ _=>?_
 have hb:=h.br x (af hx)
 unfold Rk at hb
 refine Ok.bind (P:=λ _=>True) (dj (λ _=>dk (Ev hbl _ _)) λ _=>trivial) λ _ _=>?_
 refine Ok.bind (P:=λ _=>True) (dj (λ _=>dk (Ev hbl _ _)) λ _=>trivial) λ _ _=>?_
 refine c9 (λ _=>cV (λ e=>by cases e)) (λ _=>?_)
 refine c9 (λ hk=>?_) (λ hk1=>c9 (λ hk=>?_) (λ hk2=>?_))
 ·simp only [dH] at hk
  rw [Ev hbl]
  refine cV λ _ y hy hy3=>?_
  rw [hx] at hy;cases hy;omega
 ·simp only [dH] at hk
  rw [Ev hbl]
  simp only [ac]
  refine Ok.bind (P:=λ _=>True) (dj (λ _=>di (by omega) (by omega)) λ _=>trivial) λ _ _=>cV λ _ y hy hy3=>?_
  rw [hx] at hy;cases hy;omega
 ·unfold Aql
  rw [Dm h hp,Ato h hc,Ev hbl]
  simp only [ac,dM,cond_false]
  refine cV λ e y hy hy3=>?_
  rw [hx] at hy;cases hy
  simp only [ae,bn] at e
  exact As6 e.2
theorem A22 {b:Aa} (h:Aw b) {p:Ab} (hp:Ax b p) (j:Int):Ok (Ajs b p j) λ y=>y≠0\/((0<=j/\j<b.Ad.length)/\∀ x,b.Ad[j.toNat]? = some x->x.Kind=3->Ei b p 3 x.B=none):=by
 unfold Ajs
 rw [Dm h hp]
 simp only [ac]
 refine c9 (λ hc=>by simp at hc) (λ _=>c9 (λ _=>cV (.inl (by simp))) (λ hr=>?_))
 simp only [Auk,bM,dG] at hr
 refine (Awz h hp (by omega) (by omega)).bind λ y hy=>?_
 refine c9 (λ _=>cV (.inl (by simp))) (λ h2=>?_)
 simp only [Bool.not_eq_false'] at h2
 have hy:=hy h2
 refine (cY (by omega) (by omega)).bind λ x hx=>(A80 h hp x.A).bind λ z hz=>?_
 refine Ok.bind (P:=λ _=>True) (dj (λ _=>dk (Dr _ _ hz)) λ _=>trivial) λ _ _=>?_
 refine Ok.bind (P:=λ _=>True) (dj (λ _=>A01 h hp hx) λ _=>trivial) λ _ _=>?_
 exact c9 (λ _=>cV (.inl (by simp))) (λ _=>cV (.inr ⟨⟨by omega,by omega⟩,hy⟩))
theorem Ayk {b:Aa} (h:Aw b) {p:Ab} (hp:Ax b p) (i:Int):Ok (Aj0 b p i) λ y=>y.2≠0\/Ax b y.1:=by
 have hn:=hp.ncl
 unfold Aj0
 rw [Dy h hp]
 simp only [ac]
 refine (A22 h hp i).bind λ y hy=>c9 (λ hc=>cV (.inl (by simpa using hc))) (λ hc=>?_)
 simp only [dL] at hc
 rcases hy with hy | ⟨hr,hf⟩
 ·exact absurd hc hy
 ·refine (cY hr.1 (by omega)).bind λ _ _=>(da hr.1 (by omega)).bind λ z hz=>?_
  obtain⟨x,hx⟩:∃ x,b.Ad[i.toNat]? = some x:=⟨_,ag (by omega)⟩
  have hq:=A5v hp hx (hf x hx)
  rw [←hz] at hq
  rw [Te h hq]
  exact cV (.inr (I6 hq (Hy _ _) (Qo hq)))
theorem Axj {b:Aa} (h:Aw b) {p:Ab} (hp:Ax b p) (i n:Int):Ok (Ajy b p i n) λ y=>y.2≠0\/Ax b y.1:=by
 have hn:=hp.nso
 unfold Ajy
 rw [Dm h hp,Dy h hp]
 simp only [ac]
 refine c9 (λ hc=>by simp at hc) (λ _=>c9 (λ _=>cV (.inl (by simp))) (λ hr=>?_))
 simp only [Aun,bM,dG] at hr
 refine (Nx h hp n).bind λ y hy=>?_
 refine Ok.bind (P:=λ _=>True) (dj (λ _=>di (by omega) (by omega)) λ _=>trivial) λ u _=>?_
 refine c9 (λ _=>cV (.inl (by simp))) (λ hc=>?_)
 simp only [bM,Bool.not_eq_false'] at hc
 have hy:=hy hc.1
 unfold zG
 rw [Dm h hp,My h hp]
 simp only [ac,dM,cond_false]
 have hrun:∀ w,p.Ac[y.1.toNat]? = some w->C1 w:=λ w hw=>hp.run w (af hw)
 refine c9 (λ _=>?_) (λ _=>?_)
 ·refine (Azi h hp _).bind λ z hz=>(cY hy.1 hy.2).bind λ w hw=>?_
  rw [Aey hz]
  exact cV (.inr (I6 hp (Gr _ _ _) (P2 (hrun w hw) _ _ hz hp.run)))
 ·refine (cY hy.1 hy.2).bind λ w hw=>?_
  have hz:∀ k,k∈[i]->0<=k/\k<p.Ac.length:=λ k hk=>by
   simp only [bz] at hk
   subst hk;omega
  rw [Aey hz]
  exact cV (.inr (I6 hp (Gr _ _ _) (P2 (hrun w hw) _ _ hz hp.run)))
theorem S6 {b:Aa} (h:Aw b) {p:Ab} (hc:p.Ag.length=b.Ad.length) (t:Int) {i:Int} (h0:0<=i) (h1:i<b.Ac.length):Ok (Jm ⟨b,p,t⟩ i) λ _=>True:=by
 obtain⟨j,x,e,hx,_⟩:=Ll h h0 h1
 have hj:=(aa.1 hx).1
 unfold Jm
 rw [jW h,e]
 simp only [ac]
 exact (di (by omega) (by omega)).bind λ _ _=>cV trivial
def Wr (b:Aa) (y:Int×A1):Prop:=y.1≠0\/Ax b y.2.Au
theorem Awx {b:Aa} (h:Aw b) {p:Ab} (hp:Ax b p) {t:Int} (ht:0<=t/\t<=2147483648) {i:Int} (h0:0<=i) (h1:i<b.Ac.length):Ok (U1 ⟨b,p,t⟩ i) (Wr b):=by
 have hn:=hp.nso
 have hbl:p.Am.length<=1000:=by have:=hp.brk.len;omega
 unfold U1
 refine (di h0 (by dsimp only;omega)).bind λ u _=>Ok.bind (P:=λ _=>True) (dj (λ _=>dk (Ev hbl _ _)) λ _=>trivial) λ _ _=>?_
 refine c9 (λ _=>cV (.inl (by simp))) (λ _=>(di h0 h1).bind λ s _=>?_)
 refine Ok.bind (P:=λ _=>True) (dj (λ _=>S6 h hp.ncl t h0 h1) λ _=>trivial) λ _ _=>?_
 refine c9 (λ _=>?_) (λ _=>?_)
 ·exact (da h0 (by dsimp only;omega)).bind λ z hz=>cV (.inr (by
   rw [hz]
   exact I6 hp (by simp) (Lp hp.run ⟨by dsimp only;omega,ht,by dsimp only;omega,by dsimp only;omega⟩)))
 ·exact (da h0 (by dsimp only;omega)).bind λ z hz=>cV (.inr (by
   rw [hz]
   exact I6 hp (by simp) (Lp hp.run ⟨by dsimp only;omega,ht,by dsimp only;omega,by dsimp only;omega⟩)))
theorem A02 {b:Aa} (h:Aw b) {p:Ab} (hp:Ax b p) {t:Int} {i:Int} (h0:0<=i) (h1:i<b.Ac.length):Ok (U0 ⟨b,p,t⟩ i) (Wr b):=by
 have hn:=hp.nso
 unfold U0
 refine (cY h0 (by dsimp only;omega)).bind λ u hu=>?_
 have hr:=hp.run u (af hu)
 refine Ok.bind (P:=λ _=>True) (dj (λ _=>S6 h hp.ncl t h0 h1) λ _=>trivial) λ _ _=>?_
 refine c9 (λ _=>cV (.inl (by simp))) (λ _=>(da h0 (by dsimp only;omega)).bind λ z hz=>cV (.inr ?_))
 rw [hz]
 exact I6 hp (by simp) (Lp hp.run ⟨by dsimp only;omega,hr.2⟩)
theorem Axq {b:Aa} {p:Ab} (hp:Ax b p) {t:Int} {i v:Int} (h0:0<=i) (h1:i<b.Ae.length):Ok (Uz ⟨b,p,t⟩ i v) (Wr b):=by
 have hn:=hp.nli
 unfold Uz
 refine Ok.bind (P:=λ y=>0<=v->b.Ae[i.toNat]? = some y) (d4 (λ _=>(cY h0 h1).mono λ y hy _=>hy) λ hg hv=>(hg ⟨by simp;omega,trivial⟩).elim) λ c hc=>?_
 refine c9 (λ _=>cV (.inl (by simp))) (λ hr=>?_)
 simp only [Ahe,bM,dG] at hr
 have hc:=hc (by omega)
 refine (di h0 (by dsimp only;omega)).bind λ _ _=>(da h0 (by dsimp only;omega)).bind λ z hz=>cV (.inr ?_)
 subst hz
 exact {
  ncl:=hp.ncl
  nso:=hp.nso
  nli:=by simpa using hp.nli
  run:=hp.run
  lim:=λ k m y hk hy=>by
   dsimp only at hk
   rw [aw] at hk
   split at hk
   ·rename_i e
    split at hk
    ·cases hk
     rw [←e,hc] at hy;cases hy;omega
    ·cases hk
   ·exact hp.lim k m y hk hy
  one:=hp.one
  brk:=hp.brk}
theorem A1h (x:Int):0<=Gz x/\Gz x<=3599:=by
 have:=Pu (x:=x) (n:=3600) (by omega)
 unfold Gz
 by_cases h:Int.tmod x 3600<0
 ·rw [dK h,cond_true,Bd (by omega)];omega
 ·rw [decide_eq_false h,cond_false];omega
theorem A0w {b:Aa} (h:Aw b) {p:Ab} (hp:Ax b p):Ok (Yz b p) λ y=>Ax b y.1/\y.1.Ag=p.Ag/\y.2=0:=by
 have hs:=h.sol
 have hn:=hp.nso
 unfold Yz
 rw [Dm h hp,Dy h hp]
 simp only [ac]
 refine c9 (λ hc=>by simp at hc) (λ _=>?_)
 refine Ok.andThen (A:=λ s=>s.length=p.Ac.length/\∀ x,x∈s->C1 x) (B:=λ (_:Unit)=>False) ?_ (λ s hs=>cV ⟨I6 hp hs.1 hs.2,rfl,rfl⟩) (λ _ h=>h.elim)
 refine cX (I:=λ _ s=>s.length=p.Ac.length/\∀ x,x∈s->C1 x) ⟨rfl,hp.run⟩ (λ j x s hx hs=>?_) λ s hs=>hs
 have hj:=(aa.1 hx).1
 have hcnt:cnt 0 j=(j:Int):=Cr (by omega)
 unfold Wi
 rw [hcnt]
 refine c9 (λ _=>?_) (λ _=>cW hs)
 refine (cY (by omega) (by omega)).bind λ u hu=>(da (by omega) (by omega)).bind λ z hz=>cW ?_
 have hr:=hs.2 u (af hu)
 rw [hz]
 exact⟨by simpa using hs.1,Lp hs.2 ⟨hr.1,hr.2.1,hr.2.2.1,A1h _⟩⟩
theorem Akx {b:Aa} (h:Aw b) {p:Ab} (hp:Ax b p) (t:Int):Ok (Kw ⟨b,p,t⟩) λ y=>Ax b y.Au:=by
 have hso:=h.sol
 unfold Kw
 refine (A0w h hp).bind λ ⟨q,e⟩ hq=>?_
 dsimp only at hq ⊢
 obtain⟨hq,_,_⟩:=hq
 have hn:=hq.nso
 refine Ok.andThen (A:=λ s=>s.2.length=q.Ac.length/\∀ x,x∈s.2->C1 x) (B:=λ (_:Unit)=>False) ?_ (λ s hs=>cV (I6 hq hs.1 hs.2)) (λ _ h=>h.elim)
 refine cZ (λ s=>(0<=s.1/\s.1<=(q.Ac.length:Int))/\s.2.length=q.Ac.length/\∀ x,x∈s.2->C1 x) (λ s=>((q.Ac.length:Int)-s.1).toNat) _ _ ?_ ?_ ?_
 ·exact⟨by dsimp only;omega,rfl,hq.run⟩
 ·dsimp only;omega
 ·rintro⟨i,s⟩ ⟨⟨h1,h2⟩,h3,h4⟩
  dsimp only at h1 h2 h3 h4
  unfold N9 Ye
  dsimp only
  refine c9 (λ hc=>?_) (λ _=>de ⟨h3,h4⟩)
  simp only [dF] at hc
  have e1:w64 (i+1)=i+1:=Bd (by omega)
  refine (cY h1 (by omega)).bind λ u hu=>?_
  have hr:=h4 u (af hu)
  refine Ok.bind (P:=λ _=>True) (dj (λ _=>S6 h hq.ncl t h1 (by omega)) λ _=>trivial) λ _ _=>?_
  refine Ok.bind (P:=λ _=>True) (dj (λ _=>di h1 (by omega)) λ _=>trivial) λ _ _=>?_
  rw [e1]
  refine c9 (λ _=>?_) (λ _=>cW ⟨⟨by dsimp only;omega,h3,h4⟩,by dsimp only;omega⟩)
  refine (da h1 (by omega)).bind λ z hz=>cW ⟨⟨by dsimp only;omega,?_,?_⟩,by dsimp only;omega⟩
  ·dsimp only;rw [hz];simpa using h3
  ·dsimp only;rw [hz];exact Lp h4 ⟨by dsimp only;omega,hr.2⟩
theorem bet {x lo hi:Int} (h:lo<=x/\x<=hi):F82 x lo hi=true:=(I5 x lo hi).2 h
def ofL (b:Aa) (q:Ai->Bool):List Int:=(b.Ad.zipIdx.filter λ z=>q z.1).map λ z=>(z.2:Int)
theorem Afu {b:Aa} (h:Aw b) (k i:Int):F83 b k i=some (ofL b λ x=>Lk k i x):=by
 have hb:=h.brl
 refine db ?_
 unfold F83
 refine Ok.andThen (A:=λ s=>s=ofL b λ x=>Lk k i x) (B:=λ (_:Unit)=>False) ?_ (λ s hs=>cV hs) (λ _ h=>h.elim)
 refine cX (I:=λ j s=>s=((b.Ad.zipIdx.take j).filter λ z=>Lk k i z.1).map λ z=>(z.2:Int)) rfl (λ j x s hx hs=>?_) λ s hs=>?_
 ·have hj:=(aa.1 hx).1
  have hcnt:cnt 0 j=(j:Int):=Cr (by omega)
  have hz:b.Ad.zipIdx[j]? = some (x,j):=by rw [List.getElem?_zipIdx,hx];simp
  have hsl:s.length<=j:=by
   rw [hs,au]
   exact aJ (bC _ _) (by simp;omega)
  unfold Aiv
  rw [hcnt,Bj hz,bq,bE,←hs]
  refine c9 (λ hq=>?_) (λ hq=>cW (by simp [hq]))
  exact (d3 (by simp;omega)).bind λ y hy=>cW (by rw [hy];simp [hq])
 ·rw [hs,show b.Ad.length=b.Ad.zipIdx.length from by simp,aI];rfl
theorem Adl (q:Ai->Bool):∀ (l:List Ai) (k:Nat),((l.zipIdx k).filter λ z=>q z.1).length=(l.filter q).length
 | [],_=>rfl
 | x::l,k=>by
  simp only [List.zipIdx_cons,bo]
  split <;> simp [Adl q l (k+1)]
theorem A1f (b:Aa) (q:Ai->Bool):(ofL b q).length=(b.Ad.filter q).length:=by
 unfold ofL
 rw [au,Adl]
theorem Aw7 (k:Int) (hk:k≠1) (i:Int) (x:Ai):Lk k i x=(x.Kind==k&&x.B==i):=by
 unfold Lk
 have:(k==1)=false:=dJ.2 hk
 rw [this];simp
theorem vH {b:Aa} {k:Int} (hk:k≠1) (i:Nat):(ofL b λ x=>Lk k (i:Int) x).length=(brs b.Ad k i).length:=by
 rw [A1f]
 unfold brs
 congr 1
 exact List.filter_congr λ x _=>Aw7 k hk i x
theorem Afm {b:Aa} (h:Aw b):F59 b=some true:=by
 have hs:=h.sol
 have hc:=h.col
 have hb:=h.buses
 have hbl:=h.brl
 refine db ?_
 unfold F59
 rw [Cs b.Ad 0 λ j x hj=>?_]
 ·rw [show ∀ (f:Unit->Option Bool),andThen (some (Ctl.next ()):Option (Ctl Unit Bool)) some f=f () from λ _=>rfl]
  refine Ok.andThen (A:=λ _=>True) (B:=λ (_:Bool)=>False) ?_ (λ _ _=>?_) (λ _ h=>h.elim)
  ·refine cZ (λ s=>0<=s/\s<=(b.Ac.length:Int)) (λ s=>((b.Ac.length:Int)-s).toNat) _ (0:Int) (by omega) (by omega) ?_
   rintro i ⟨h1,h2⟩
   unfold Aje Aui
   refine c9 (λ hq=>?_) (λ _=>de trivial)
   simp only [dF] at hq
   obtain⟨n,rfl⟩:∃ n:Nat,i=(n:Int):=⟨i.toNat,by omega⟩
   rw [Afu h]
   simp only [ac]
   have hone:=h.one n (by omega)
   rw [vH (by decide),hone,Bd (by omega)]
   refine c9 (λ hc=>by simp at hc) (λ _=>cW ⟨by omega,by omega⟩)
  ·refine Ok.andThen (A:=λ _=>True) (B:=λ (_:Bool)=>False) ?_ (λ _ _=>cV rfl) (λ _ h=>h.elim)
   refine cZ (λ s=>0<=s/\s<=(b.Ae.length:Int)) (λ s=>((b.Ae.length:Int)-s).toNat) _ (0:Int) (by omega) (by omega) ?_
   rintro i ⟨h1,h2⟩
   unfold Ajd Auh
   refine c9 (λ hq=>?_) (λ _=>de trivial)
   simp only [dF] at hq
   obtain⟨n,rfl⟩:∃ n:Nat,i=(n:Int):=⟨i.toNat,by omega⟩
   rw [Afu h]
   simp only [ac]
   have hany:=h.any n (by omega)
   have hpos:0<(brs b.Ad 3 n).length:=List.length_pos_iff.2 hany
   rw [vH (by decide),Bd (by omega)]
   refine c9 (λ hc=>?_) (λ _=>cW ⟨by omega,by omega⟩)
   simp only [dF] at hc;omega
 ·have hjl := (aa.1 hj).1
  obtain⟨⟨a0,a1⟩,hk⟩:=h.br x (af hj)
  rw [aG]
  have hcnt:cnt 0 j=(j:Int):=Cr (by omega)
  have e1:w64 (b.An-1)=b.An-1:=Bd (by omega)
  have e2:w64 (x.A+1)=x.A+1:=Bd (by omega)
  have e3:w64 ((b.Ac.length:Int)-1)=(b.Ac.length:Int)-1:=Bd (by omega)
  have e4:w64 ((b.Ae.length:Int)-1)=(b.Ae.length:Int)-1:=Bd (by omega)
  unfold Ajf A0d A0c A0b
  rw [e1,e2,e3,e4,hcnt,bet (x:=x.A) (by omega)]
  simp only [bj,cond_false]
  rcases hk with⟨hk,h1,h2⟩ | ⟨hk,h1,h2⟩ | ⟨hk,h1,h2⟩
  ·rw [hk,bet (x:=x.B) (lo:=x.A+1) (by omega)];rfl
  ·rw [hk,bet (x:=x.B) (lo:=0) (hi:=(b.Ac.length:Int)-1) (by omega)];rfl
  ·rw [hk, bet (x := x.B) (lo := 0) (hi := (b.Ae.length : Int) - 1) (by omega)]
   have hcut:cutI b.Ad 0 (j:Int)=some (b.Ad.take j):=by
    refine db ((Ok.cutI (by omega) (by omega) (by omega)).mono λ y hy=>?_)
    rw [hy];simp
   show ((cutI b.Ad 0 (j:Int)).bind λ y9=>andThen (foldI (qQ x) y9 0 ()) (λ v=>some (Ctl.ret v)) λ z1=>some (Ctl.next ()))=some (Ctl.next ())
   rw [hcut]
   simp only [ac]
   rw [Cs _ 0 λ m y hy=>?_]
   ·rfl
   ·have hml:m<j:=by
     have:=(aa.1 hy).1
     simp only [aW] at this;omega
    have hyb:b.Ad[m]? = some y:=by
     rw [ar,if_pos hml] at hy;exact hy
    unfold qQ
    have hne:Ao2 x y=false:=by
     unfold Ao2
     rw [cO]
     intro e
     simp only [bK,ae,dH] at e
     obtain⟨e1,e2,e3⟩:=e
     have hn:=h.nodup x.B.toNat
     have hsplit:b.Ad=b.Ad.take j++(x::b.Ad.drop (j+1)):=by
      conv=>lhs;rw [←cf j b.Ad]
      rw [cP hjl]
      have:b.Ad[j]=x:=by
       rw [ag hjl] at hj;cases hj;rfl
      rw [this]
     rw [hsplit,Ge,bE] at hn
     have hBn:x.B=(x.B.toNat:Int):=by omega
     have hmem1:y.A∈(brs (b.Ad.take j) 3 x.B.toNat).map (·.A):=by
      refine am.2 ⟨y,?_,rfl⟩
      unfold brs
      refine aF.2 ⟨af hy,?_⟩
      rw [e1,hk,e3,←hBn];simp
     have hmem2:x.A∈(brs (x::b.Ad.drop (j+1)) 3 x.B.toNat).map (·.A):=by
      refine am.2 ⟨x,?_,rfl⟩
      unfold brs
      refine aF.2 ⟨aj,?_⟩
      rw [hk,←hBn];simp
     exact (List.nodup_append.1 hn).2.2 _ hmem1 _ hmem2 e2
    rw [hne];rfl
theorem Akd {b:Aa} (h:Aw b):F60 b=some true:=by
 unfold F60
 rw [Cs b.Ac 0 λ j x hj=>?_]
 ·rfl
 ·obtain⟨h1,h2,h3⟩:=h.so x (af hj)
  unfold Ajc A0a
  rw [bet h1,bet h2,bet h3];rfl
theorem Acl {b:Aa} (h:Aw b):F61 b=some true:=by
 have hcl:=h.col
 unfold F61
 rw [Cs b.Ae 0 λ j x hj=>?_]
 ·rfl
 ·obtain⟨h1,h2,h3,h4,h5,h6,h7⟩:=h.co j x hj
  have hjl:=(aa.1 hj).1
  rw [aG]
  have hcnt:cnt 0 j=(j:Int):=Cr (by omega)
  unfold Ajb Az9
  rw [bet h1,bet h2,bet h3,bet h4]
  have hd:decide ((x.Needs.length:Int)>4)=false:=by simp;omega
  rw [hd]
  simp only [bj,Bool.or_false,cond_false]
  rw [Cs x.Needs 0 λ m n hm=>?_]
  ·rfl
  ·have hml:=(aa.1 hm).1
   rw [aG]
   have hcm:cnt 0 m=(m:Int):=Cr (by omega)
   have hn:=h6 n (af hm)
   unfold Aja Az8
   rw [hcnt,hcm,Bd (n:=(j:Int)-1) (by omega),bet (x:=n) (by omega)]
   cases m with
   | zero=>rfl
   | succ m=>
    obtain⟨a,ha⟩:∃ a,x.Needs[m]? = some a:=⟨_,ag (by omega)⟩
    have hlt:=h7 m a n ha hm
    have e:w64 (((m+1:Nat):Int)-1)=(m:Int):=by rw [Bd (by omega)];omega
    have hp:decide (((m+1:Nat):Int)>0)=true:=dK (by omega)
    have hq:decide (a>=n)=false:=by simp;omega
    rw [e,Bi ha,hp]
    simp [A3,C5,hq]
theorem Aw4 {b:Aa} (h:Aw b):F43 b=some 0:=by
 have h1:=h.buses
 have h2:=h.brl
 have h3:=h.sol
 have h4:=h.col
 have h5:=h.phase
 have h6:=h.freq
 unfold F43
 rw [Afm h,Akd h,Acl h]
 have e:Ao4 b=false:=by
  rw [cO];intro e
  simp [Ao4] at e;omega
 have e2:Ao3 b true true true=false:=by
  rw [cO];intro e
  simp [Ao3] at e;omega
 rw [e]
 simp only [cond_false,ac]
 have g1:(A3 [(!true,false)] (some true) default:Option Bool)=some true:=rfl
 have g2:(A3 [(!true || !true,false)] (some true) default:Option Bool)=some true:=rfl
 rw [g1,ac,g2,ac,e2];rfl
theorem Aaa (i:Nat) (C:List Bool):∀ (l:List Ai) (c:List Bool) (k:Nat),C.drop k=c->l.length=c.length ->
  (((l.zipIdx k).filter λ z=>z.1.Kind==3&&z.1.B==(i:Int)).filter λ z=>C.getD z.2 false).length=(Cf l c i).length
 | [],_,_,_,_=>by simp [Cf]
 | x::l,[],_,_,h=>by simp at h
 | x::l,v::c,k,hd,h=>by
  have hv:C[k]? = some v:=by
   have:=congrArg (·[0]?) hd
   simpa [List.getElem?_drop] using this
  have hd':C.drop (k+1)=c:=by rw [←bX,hd];rfl
  have ih:=Aaa i C l c (k+1) hd' (by simpa using h)
  have hg:C.getD k false=v:=by simp [List.getD,hv]
  simp only [List.zipIdx_cons,bo,Cf,bF] at ih ⊢
  cases hq:(x.Kind==3&&x.B==(i:Int)) with
  | false=>simpa only [Bool.false_and,bW,if_false] using ih
  | true=>
   simp only [if_true,bo,hg]
   cases v with
   | false=>simpa only [Bool.and_false,bW,if_false] using ih
   | true=>simpa only [cy,if_true,aP,Nat.add_right_cancel_iff] using ih
theorem Mf {b:Aa} (h:Aw b) {p:Ab} (hp:Ax b p):F62 b p=some 0:=by
 have h3:=h.sol
 have h4:=h.col
 have hbl:=h.brl
 have hncl:=hp.ncl
 have hnso:=hp.nso
 have hnli:=hp.nli
 refine db ?_
 unfold F62
 rw [Aw4 h]
 simp only [ac]
 refine c9 (λ hc=>by simp at hc) (λ _=>c9 (λ hc=>?_) (λ _=>?_))
 ·simp [Az7,hncl,hnso,hnli] at hc
 rw [Cs p.Ac 0 λ j x hj=>?_]
 ·rw [show ∀ (f : Unit -> Option Int), andThen (some (Ctl.next ()) : Option (Ctl Unit Int)) some f = f () from λ _ => rfl]
  rw [Cs p.Ap 0 λ j x hj=>?_]
  ·rw [show ∀ (f : Unit -> Option Int), andThen (some (Ctl.next ()) : Option (Ctl Unit Int)) some f = f () from λ _ => rfl]
   have hlen:=hp.brk.len
   refine c9 (λ hc=>?_) (λ _=>?_)
   ·simp only [dF] at hc;omega
   rw [Cs p.Am 0 λ j x hj=>?_]
   ·rw [show ∀ (f:Unit->Option Int),andThen (some (Ctl.next ()):Option (Ctl Unit Int)) some f=f () from λ _=>rfl]
    refine Ok.andThen (A:=λ _=>True) (B:=λ (_:Int)=>False) ?_ (λ _ _=>cV rfl) (λ _ h=>h.elim)
    refine cZ (λ s=>0<=s/\s<=(b.Ae.length:Int)) (λ s=>((b.Ae.length:Int)-s).toNat) _ (0:Int) (by omega) (by omega) ?_
    rintro i ⟨g1,g2⟩
    unfold Ai6 Az4
    refine c9 (λ hq=>?_) (λ _=>de trivial)
    simp only [dF] at hq
    obtain⟨n,rfl⟩:∃ n:Nat,i=(n:Int):=⟨i.toNat,by omega⟩
    rw [Afu h]
    simp only [ac]
    have hone:=hp.one n (by omega)
    have hz:ofL b (λ x=>Lk 3 (n:Int) x)=((b.Ad.zipIdx.filter λ z=>z.1.Kind==3&&z.1.B==(n:Int)).map λ z=>(z.2:Int)):=by
     unfold ofL
     congr 1
     exact List.filter_congr λ z _=>Aw7 3 (by decide) n z.1
    have hzf:=Aaa n p.Ag b.Ad p.Ag 0 rfl (by omega)
    rw [hz]
    have hin:∀ z,z∈(b.Ad.zipIdx.filter λ z=>z.1.Kind==3&&z.1.B==(n:Int))->z.2<p.Ag.length:=by
     rintro⟨x,j⟩ hm
     have:=(aF.1 hm).1
     rw [cT] at this
     have:=(aa.1 this).1
     dsimp only;omega
    have hsz:(b.Ad.zipIdx.filter λ z=>z.1.Kind==3&&z.1.B==(n:Int)).length<=24:=aJ (bC _ _) (by simpa using hbl)
    generalize hm:(b.Ad.zipIdx.filter λ z=>z.1.Kind==3&&z.1.B==(n:Int))=m at hin hsz hzf
    refine (cX (xs:=m.map λ z=>(z.2:Int)) (I:=λ j s=>s=(((m.take j).filter λ z=>p.Ag.getD z.2 false).length:Int)) (A:=λ s=>s=((m.filter λ z=>p.Ag.getD z.2 false).length:Int)) (B:=λ (_:Unit)=>False) rfl (λ j x s hx hs=>?_) λ s hs=>?_).inner (λ s hs=>?_) (λ _ h=>h.elim)
    ·rw [ax,Option.map_eq_some_iff] at hx
     obtain⟨z,hz,rfl⟩:=hx
     have hzl:=hin z (af hz)
     obtain⟨v,hv⟩:∃ v,p.Ag[z.2]? = some v:=⟨_,ag hzl⟩
     have hg:p.Ag.getD z.2 false=v:=by simp [List.getD,hv]
     have hle:((m.take j).filter λ z=>p.Ag.getD z.2 false).length<=24:=aJ (bC _ _) (by simp;omega)
     unfold Ai5
     rw [Bi hv,Bj hz,bq]
     simp only [ac]
     refine c9 (λ hq=>cW ?_) (λ hq=>cW ?_)
     ·rw [hs,Bd (by omega),bo,hg,if_pos hq]
      simp
     ·rw [hs,bo,hg,if_neg (ff hq)]
      simp
    ·rw [au,aI] at hs;exact hs
    ·rw [hs,hzf,Bd (by omega)]
     refine c9 (λ hc=>?_) (λ _=>cW ⟨by omega,by omega⟩)
     simp only [dF] at hc;omega
   ·have hjl:=(aa.1 hj).1
    rw [aG]
    have hcnt:cnt 0 j=(j:Int):=Cr (by omega)
    unfold Ai7 Az5
    rw [(jC h x).2 (hp.brk.mem x (af hj)),hcnt]
    cases j with
    | zero=>rfl
    | succ j=>
     obtain⟨a,ha⟩:∃ a,p.Am[j]? = some a:=⟨_,ag (by omega)⟩
     have hlt:=hp.brk.asc j a x ha hj
     have e:w64 (((j+1:Nat):Int)-1)=(j:Int):=by rw [Bd (by omega)];omega
     have hpz:decide (((j+1:Nat):Int)>0)=true:=dK (by omega)
     have hb:F84 a x=true:=by
      unfold F84
      unfold Ph at hlt
      simp only [aO,ae,dF,dH]
      exact hlt
     rw [e,Bi ha,hpz]
     simp [A3,C5,hb]
  ·have hjl:=(aa.1 hj).1
   rw [aG]
   have hcnt:cnt 0 j=(j:Int):=Cr (by omega)
   obtain⟨c,hc⟩:∃ c,b.Ae[j]? = some c:=⟨_,ag (by omega)⟩
   unfold Ai8
   rw [hcnt,Bi hc]
   simp only [ac]
   rw [bet (hp.lim j x c hj hc)];rfl
 ·have hr:=hp.run x (af hj)
  unfold Ai9 Az6
  rw [bet hr.1,bet hr.2.1,bet hr.2.2.1,bet hr.2.2.2];rfl
theorem Aty {l:List Ak} {n:Nat} {x:Ak} (h:l[n]? = some x):Dx (l.take n++l.drop (n+1)) n x=l:=by
 have hn:=(aa.1 h).1
 have ht:(l.take n).length=n:=by simp;omega
 unfold Dx
 rw [cD (by omega),List.take_take,Nat.min_self,List.drop_append_of_le_length (by omega),cS (by omega),bI]
 conv=>rhs;rw [←cf n l]
 rw [cP hn]
 have:l[n]=x:=by rw [ag hn] at h;cases h;rfl
 rw [this]
theorem Kt {l:List Ak} {n j:Nat} (hn:n<l.length) {y:Ak} (h:(l.take n++l.drop (n+1))[j]? = some y):(j<n/\l[j]? = some y)\/(n<=j/\l[j+1]? = some y):=by
 have ht:(l.take n).length=n:=by simp;omega
 rw [cj] at h
 split at h
 ·rename_i h1
  rw [ht] at h1
  rw [ar,if_pos h1] at h
  exact .inl ⟨h1,h⟩
 ·rename_i h1
  rw [ht] at h1 h
  rw [aq] at h
  refine .inr ⟨by omega,?_⟩
  rw [←h];congr 1;omega
theorem Ayb {b:Aa} (h:Aw b) {l:List Ak} (hl:D1 b l) {n:Nat} (hn:n<l.length):D1 b (l.take n++l.drop (n+1)):=by
 have hs:=G5 h hl
 have hsm:∀ y,y∈l->Ch y:=λ y hy=>(hl.mem y hy).small h
 have hlen:=hl.len
 refine⟨by simp;omega,λ y hy=>?_,λ j y z hy hz=>?_⟩
 ·rcases az.1 hy with hy | hy
  ·exact hl.mem y (bh hy)
  ·exact hl.mem y (cg hy)
 ·rcases Kt hn hy with⟨a1,a2⟩ | ⟨a1,a2⟩ <;> rcases Kt hn hz with⟨b1,b2⟩ | ⟨b1,b2⟩
  ·exact hl.asc j y z a2 b2
  ·exact (Acx (hsm y (af a2)) (hsm z (af b2))).2 (hs j (j+1+1) y z (by omega) a2 b2)
  ·omega
  ·exact hl.asc (j+1) y z a2 b2
theorem Ayc {b:Aa} (h:Aw b) {l:List Ak} (hl:D1 b l) {n:Nat} {x:Ak} (hx:l[n]? = some x):At (l.take n++l.drop (n+1)) x n/\(l.take n++l.drop (n+1))[n]? ≠ some x:=by
 have hs:=G5 h hl
 have hn:=(aa.1 hx).1
 refine⟨⟨by simp;omega,λ j y hj hy=>?_,λ j y hj hy=>?_⟩,λ e=>?_⟩
 ·rcases Kt hn hy with⟨_,a2⟩ | ⟨a1,_⟩
  ·exact hs j n y x hj a2 hx
  ·omega
 ·rcases Kt hn hy with⟨a1,_⟩ | ⟨_,a2⟩
  ·omega
  ·have:=hs n (j+1) x y (by omega) hx a2;omega
 ·rcases Kt hn e with⟨a1,_⟩ | ⟨_,a2⟩
  ·omega
  ·have:=hs n (n+1) x x (by omega) hx a2;omega
theorem A10 {b:Aa} (h:Aw b) {p:Ab} (hp:Ax b p) (t:Int) {x:Ak} (hx:B8 b x) (v:Bool):Ok (Hg ⟨b,p,t⟩ x v) (Wr b):=by
 obtain⟨n,hat⟩:=A7n h hp.brk hx
 have hlen:=hp.brk.len
 have hsearch:=Nn (G5 h hp.brk) (λ y hy=>(hp.brk.mem y hy).small h) (hx.small h) (by omega)
 have hbad:∀ (hv:(p.Am[n]? = some x)↔v=true),Ok (Hg ⟨b,p,t⟩ x v) (Wr b):=by
  intro hv
  unfold Hg
  refine hsearch.bind λ y hy=>?_
  obtain⟨m,e1,hat2,hf⟩:=hy
  have e2:=hat.uniq hat2
  subst e2
  have:y.2=v:=by
   rw [bR];exact hf.trans hv
  rw [this]
  exact c9 (λ _=>cV (.inl (by simp))) (λ hc=>by simp at hc)
 by_cases hin:p.Am[n]? = some x
 ·cases v with
  | true=>exact hbad ⟨λ _=>rfl,λ _=>hin⟩
  | false=>
   have hn:=(aa.1 hin).1
   have he:=Ayc h hp.brk hin
   have hq:Ax b ⟨p.Ag,p.Ac,p.Ap,p.Am.take n++p.Am.drop (n+1)⟩:={ncl:=hp.ncl,nso:=hp.nso,nli:=hp.nli,run:=hp.run,lim:=hp.lim,one:=hp.one,brk:=Ayb h hp.brk hn}
   have:=A1k h (p:=⟨p.Ag,p.Ac,p.Ap,p.Am.take n++p.Am.drop (n+1)⟩) hq.brk (q:=p) hx t he.1 he.2 (by simp;omega) (Aty hin).symm hp.nso
   rw [this]
   refine cV (.inr ?_)
   exact I6 hq (Tk _ _ _) (Agp hp.run (λ hk=>by have:=hp.nso;unfold B8 at hx;omega) (by omega))
 ·cases v with
  | false=>exact hbad ⟨λ e=>absurd e hin,λ e=>by cases e⟩
  | true=>
   by_cases hl:p.Am.length<32
   ·rw [A11 h hp hx t hat hin hl]
    exact cV (.inr (Aom h hp hx hat hin hl))
   ·unfold Hg
    refine hsearch.bind λ y _=>c9 (λ _=>cV (.inl (by simp))) (λ _=>c9 (λ _=>cV (.inl (by simp))) (λ hc=>?_))
    simp [Qt] at hc;omega
def A4k:Ab:=⟨[],[],[],[]⟩
theorem Axt {b:Aa} (a:Ao):Ok (zY b a) λ y=>y=true->((a.Kind=1\/a.Kind=2)->B8 b ⟨2,a.Unit⟩)/\((a.Kind=3\/a.Kind=4)->B8 b ⟨1,a.Unit⟩)/\(a.Kind=5->B8 b ⟨4,a.Unit⟩)/\((a.Kind=8\/a.Kind=9)->B8 b ⟨a.Value,a.Unit⟩):=by
 unfold zY
 refine Ok.andThen (A:=λ z=>z=true↔(a.Kind=1\/a.Kind=2)) (B:=λ (_:Unit)=>False) ?_ (λ z hz=>?_) (λ _ h=>h.elim)
 ·unfold zX
  refine c9 (λ hk=>dh ?_) (λ hk=>dh ?_)
  ·simp only [dH] at hk ⊢;omega
  ·simp only [dJ,ne_eq] at hk
   simp only [dH];omega
 refine c9 (λ hq=>cV λ hk=>?_) (λ hq=>?_)
 ·have:=hz.1 hq
  have hk:=(Mj b _ _).1 hk
  exact⟨λ _=>hk,λ e=>by omega,λ e=>by omega,λ e=>by omega⟩
 have hn12:¬(a.Kind=1\/a.Kind=2):=λ e=>by rw [hz.2 e] at hq;cases hq
 refine Ok.andThen (A:=λ z=>z=true↔(a.Kind=3\/a.Kind=4)) (B:=λ (_:Unit)=>False) ?_ (λ z hz=>?_) (λ _ h=>h.elim)
 ·unfold zW
  refine c9 (λ hk=>dh ?_) (λ hk=>dh ?_)
  ·simp only [dH] at hk ⊢;omega
  ·simp only [dJ,ne_eq] at hk
   simp only [dH];omega
 refine c9 (λ hq=>cV λ hk=>?_) (λ hq=>?_)
 ·have:=hz.1 hq
  have hk:=(Mj b _ _).1 hk
  exact⟨λ e=>by omega,λ _=>hk,λ e=>by omega,λ e=>by omega⟩
 have hn34:¬(a.Kind=3\/a.Kind=4):=λ e=>by rw [hz.2 e] at hq;cases hq
 refine c9 (λ hq=>cV λ hk=>?_) (λ hq5=>c9 (λ hq=>cV λ _=>?_) (λ hq6=>c9 (λ hq=>cV λ hk=>?_) (λ hq8=>c9 (λ hq=>cV λ hk=>?_) (λ hq9=>cV λ _=>?_))))
 ·simp only [dH] at hq
  have hk:=(Mj b _ _).1 hk
  exact⟨λ e=>by omega,λ e=>by omega,λ _=>hk,λ e=>by omega⟩
 ·simp only [dH] at hq
  exact⟨λ e=>by omega,λ e=>by omega,λ e=>by omega,λ e=>by omega⟩
 ·have hk:=(Mj b _ _).1 hk
  simp only [dH] at hq
  exact⟨λ e=>by omega,λ e=>by omega,λ e=>by omega,λ _=>hk⟩
 ·have hk:=(Mj b _ _).1 hk
  simp only [dH] at hq
  exact⟨λ e=>by omega,λ e=>by omega,λ e=>by omega,λ _=>hk⟩
 ·simp only [dJ,ne_eq] at hq5 hq8 hq9
  exact⟨λ e=>by omega,λ e=>by omega,λ e=>by omega,λ e=>by omega⟩
theorem A7h {b:Aa} (h:Aw b) {p:Ab} (hp:Ax b p) {t:Int} (ht:0<=t/\t<=2147483648) {a:Ao} (hk:1<=a.Kind/\a.Kind<=9)
  (hw:((a.Kind=1\/a.Kind=2)->B8 b ⟨2,a.Unit⟩)/\((a.Kind=3\/a.Kind=4)->B8 b ⟨1,a.Unit⟩)/\(a.Kind=5->B8 b ⟨4,a.Unit⟩)/\((a.Kind=8\/a.Kind=9)->B8 b ⟨a.Value,a.Unit⟩)):Ok (M_ ⟨b,p,t⟩ a) (Wr b):=by
 obtain⟨w1,w2,w3,w4⟩:=hw
 unfold B8 at w2 w3
 dsimp only at w2 w3
 unfold M_
 refine c9 (λ _=>(Ayk h hp _).bind λ y hy=>cV hy) (λ q1=>?_)
 refine c9 (λ _=>(A1d h hp _).bind λ y hy=>cV hy) (λ q2=>?_)
 refine c9 (λ _=>(Axj h hp _ _).bind λ y hy=>cV hy) (λ q6=>?_)
 refine c9 (λ q=>?_) (λ q3=>?_)
 ·simp only [dH] at q
  exact (Awx h hp ht (by omega) (by omega)).bind λ y hy=>cV hy
 refine c9 (λ q=>?_) (λ q4=>?_)
 ·simp only [dH] at q
  exact (A02 h hp (by omega) (by omega)).bind λ y hy=>cV hy
 refine c9 (λ q=>?_) (λ q5=>?_)
 ·simp only [dH] at q
  exact (Axq hp (by omega) (by omega)).bind λ y hy=>cV hy
 refine c9 (λ _=>(Akx h hp t).bind λ y hy=>cV (.inr hy)) (λ q7=>?_)
 simp only [dJ,ne_eq] at q1 q2 q3 q4 q5 q6 q7
 exact (A10 h hp t (w4 (by omega)) _).bind λ y hy=>cV hy
theorem A58 {b:Aa} (h:Aw b) {p:Ab} (hp:Ax b p) (t:Int) (a:Ao):Ok (F78 b p t a) λ y=>(y.2≠0/\y.1=A4k)\/(y.2=0/\Ax b y.1):=by
 unfold F78
 rw [Dm h hp,Dy h hp]
 simp only [ac]
 refine c9 (λ hc=>by simp at hc) (λ _=>c9 (λ _=>cV (.inl ⟨by simp,rfl⟩)) (λ hr=>?_))
 simp only [Ao0,bM,dG] at hr
 refine (Axt a).bind λ y hy=>c9 (λ _=>cV (.inl ⟨by simp,rfl⟩)) (λ hk=>?_)
 simp only [Bool.not_eq_false'] at hk
 refine (A7h h hp (by omega) (by omega) (hy hk)).bind λ z hz=>c9 (λ hc=>cV (.inl ⟨by simpa using hc,rfl⟩)) (λ hc=>?_)
 simp only [dL] at hc
 rcases hz with hz | hz
 ·exact absurd hc hz
 ·exact cV (.inr ⟨rfl,hz⟩)

abbrev C9:=List (Ai×Bool)
def Tie (L:C9) (i j:Nat):Prop:=∃ z,z∈L/\z.1.Kind=1/\z.2=true/\((z.1.A.toNat=i/\z.1.B.toNat=j)\/(z.1.A.toNat=j/\z.1.B.toNat=i))
theorem Tie.symm {L:C9} {i j:Nat} (h:Tie L i j):Tie L j i:=by
 obtain⟨z,h1,h2,h3,h4⟩:=h
 exact⟨z,h1,h2,h3,h4.symm⟩
inductive C_ (L:C9) (i:Nat):Nat->Nat->Prop
 | refl:C_ L i 0 i
 | stay {r j:Nat}:C_ L i r j->C_ L i (r+1) j
 | step {r j k:Nat}:C_ L i r j->Tie L j k->C_ L i (r+1) k
def E2 (L:C9) (i j:Nat):Prop:=∃ r,C_ L i r j
theorem E2.refl (L:C9) (i:Nat):E2 L i i:=⟨0,.refl⟩
theorem E2.tie {L:C9} {i j k:Nat} (h:E2 L i j) (t:Tie L j k):E2 L i k:=by
 obtain⟨r,h⟩:=h;exact⟨r+1,h.step t⟩
theorem E2.trans {L:C9} {i j k:Nat} (h:E2 L i j) (h2:E2 L j k):E2 L i k:=by
 obtain⟨r,h2⟩:=h2
 induction h2 with
 | refl=>exact h
 | stay _ ih=>exact ih
 | step _ t ih=>exact ih.tie t
theorem E2.symm {L:C9} {i j:Nat} (h:E2 L i j):E2 L j i:=by
 obtain⟨r,h⟩:=h
 induction h with
 | refl=>exact .refl L i
 | stay _ ih=>exact ih
 | step _ t ih=>exact (E2.tie (.refl L _) t.symm).trans ih
theorem C_.le {L:C9} {i j r s:Nat} (h:C_ L i r j) (hs:r<=s):C_ L i s j:=by
 induction s with
 | zero=>
  have:r=0:=by omega
  subst this;exact h
 | succ s ih=>
  by_cases e:r=s+1
  ·subst e;exact h
  ·exact (ih (by omega)).stay
open Classical in
noncomputable def cn (p:Nat->Prop):Nat->Nat
 | 0=>0
 | n+1=>cn p n+if p n then 1 else 0
theorem Azv (p:Nat->Prop):∀ n,cn p n<=n
 | 0=>an _
 | n+1=>by have:=Azv p n;unfold cn;split <;> omega
theorem yO {p q:Nat->Prop}:∀ n,(∀ k,k<n->p k->q k)->cn p n<=cn q n
 | 0,_=>an _
 | n+1,h=>by
  have:=yO n λ k hk=>h k (by omega)
  have h1:=h n (by omega)
  unfold cn
  by_cases hp:p n
  ·rw [if_pos hp,if_pos (h1 hp)];omega
  ·rw [if_neg hp];split <;> omega
theorem Aox {p q:Nat->Prop}:∀ n,(∀ k,k<n->p k->q k)->cn p n=cn q n->∀ k,k<n->q k->p k
 | 0,_,_,k,hk,_=>by omega
 | n+1,h,e,k,hk,hq=>by
  have hm:=yO n λ k hk=>h k (by omega)
  have h1:=h n (by omega)
  unfold cn at e
  by_cases hp:p n
  ·rw [if_pos hp,if_pos (h1 hp)] at e
   by_cases ek:k=n
   ·subst ek;exact hp
   ·exact Aox n (λ k hk=>h k (by omega)) (by omega) k (by omega) hq
  ·rw [if_neg hp] at e
   by_cases hqn:q n
   ·rw [if_pos hqn] at e;omega
   ·rw [if_neg hqn] at e
    by_cases ek:k=n
    ·subst ek;exact absurd hq hqn
    ·exact Aox n (λ k hk=>h k (by omega)) (by omega) k (by omega) hq
def Ac4 (L:C9) (n:Nat):Prop:=∀ i j,Tie L i j->i<n/\j<n
theorem jN {L:C9} {n i j:Nat} (hL:Ac4 L n) (_:i<n) (h:E2 L i j):C_ L i n j:=by
 have hst:∃ r,r<=n/\∀ k,k<n->C_ L i (r+1) k->C_ L i r k:=by
  by_cases hex:∃ r,r<=n/\∀ k,k<n->C_ L i (r+1) k->C_ L i r k
  ·exact hex
  exfalso
  have hgrow:∀ r,r<=n->cn (C_ L i r) n<cn (C_ L i (r+1)) n:=by
   intro r hr
   have hm:=yO (p:=C_ L i r) (q:=C_ L i (r+1)) n λ k _ h=>h.stay
   rcases Nat.lt_or_eq_of_le hm with h | h
   ·exact h
   ·exact absurd ⟨r,hr,Aox n (λ k _ h=>h.stay) h⟩ hex
  have hge:∀ r,r<=n+1->r<=cn (C_ L i r) n:=by
   intro r
   induction r with
   | zero=>intro _;omega
   | succ r ih=>intro hr;have:=ih (by omega);have:=hgrow r (by omega);omega
  have h1:=hge (n+1) (an _)
  have h2:=Azv (C_ L i (n+1)) n
  omega
 obtain⟨r,hr,hs⟩:=hst
 obtain⟨s,h⟩:=h
 have key:∀ s k,C_ L i s k->C_ L i r k:=by
  intro s k h
  induction h with
  | refl=>exact C_.refl.le (by omega)
  | stay _ ih=>exact ih
  | step h0 t ih=>exact hs _ (hL _ _ t).2 (ih.step t)
 exact (key s j h).le hr
def Cj (b:Aa) (p:Ab):C9:=b.Ad.zip p.Ag
theorem uJ {b:Aa} (h:Aw b) (p:Ab):Ac4 (Cj b p) b.An.toNat:=by
 rintro i j ⟨z,hz,hk,_,he⟩
 have:=h.br z.1 (ck hz).1
 unfold Rk at this
 omega
theorem A4d {s:List Int} {i:Nat} (h:i<s.length):s[i]? = some (s.getD i 0):=by
 rw [ag h];simp [List.getD,List.getElem?_eq_getElem h]
theorem S9 {s:List Int} {z:Ai×Bool} {i:Nat} (hi:i<s.length):(Ep s z).getD i 0=if (z.1.Kind=1/\z.2=true)/\(i=z.1.A.toNat\/i=z.1.B.toNat) then min (s.getD z.1.A.toNat 0) (s.getD z.1.B.toNat 0) else s.getD i 0:=by
 unfold Ep
 by_cases hk:z.1.Kind=1/\z.2=true
 ·rw [if_pos hk]
  by_cases hB:i=z.1.B.toNat
  ·rw [if_pos ⟨hk,.inr hB⟩]
   simp [List.getD,←hB,hi]
  ·by_cases hA:i=z.1.A.toNat
   ·rw [if_pos ⟨hk,.inl hA⟩]
    have h1:¬z.1.B.toNat=i:=λ e=>hB e.symm
    simp only [List.getD,aU h1]
    rw [←hA,bG hi];rfl
   ·rw [if_neg (λ e=>e.2.elim hA hB)]
    have h1:¬z.1.B.toNat=i:=λ e=>hB e.symm
    have h2:¬z.1.A.toNat=i:=λ e=>hA e.symm
    simp only [List.getD,aU h1,aU h2]
 ·rw [if_neg hk,if_neg (λ e=>hk e.1)]
def Lab (L:C9) (s:List Int):Prop:=∀ i,i<s.length->E2 L (s.getD i 0).toNat i
theorem Atk {L:C9} {s:List Int} (h:Lab L s) {z:Ai×Bool} (hz:z∈L) (hr:z.1.Kind=1->z.1.A.toNat<s.length/\z.1.B.toNat<s.length):Lab L (Ep s z):=by
 intro i hi
 rw [D9] at hi
 rw [S9 hi]
 split
 ·rename_i hc
  obtain⟨⟨hk,hv⟩,hab⟩:=hc
  obtain⟨ha,hb⟩:=hr hk
  have tAB:Tie L z.1.A.toNat z.1.B.toNat:=⟨z,hz,hk,hv,.inl ⟨rfl,rfl⟩⟩
  have c1:=h _ ha
  have c2:=h _ hb
  rcases Int.le_total (s.getD z.1.A.toNat 0) (s.getD z.1.B.toNat 0) with e | e
  ·rw [Int.min_eq_left e]
   rcases hab with rfl | rfl
   ·exact c1
   ·exact c1.tie tAB
  ·rw [Int.min_eq_right e]
   rcases hab with rfl | rfl
   ·exact c2.tie tAB.symm
   ·exact c2
 ·exact h i hi
theorem Qj {L:C9} {n:Nat}:∀ (l:C9) (s:List Int),s.length=n->(∀ z,z∈l->z∈L/\(z.1.Kind=1->z.1.A.toNat<n/\z.1.B.toNat<n))->Lab L s->Lab L (C7 l s)
 | [],_,_,_,h=>h
 | z::l,s,hs,hz,h=>Qj l (Ep s z) (by rw [D9];exact hs) (λ y hy=>hz y (ai _ hy)) (Atk h (hz z aj).1 (by rw [hs];exact (hz z aj).2))
theorem S_ {s:List Int} (z:Ai×Bool) {i:Nat} (hi:i<s.length):(Ep s z).getD i 0<=s.getD i 0:=by
 rw [S9 hi]
 split
 ·rename_i hc
  rcases hc.2 with rfl | rfl
  ·exact Int.min_le_left _ _
  ·exact Int.min_le_right _ _
 ·exact Int.le_refl _
theorem Qk:∀ (l:C9) (s:List Int) {i:Nat},i<s.length->(C7 l s).getD i 0<=s.getD i 0
 | [],_,_,_=>Int.le_refl _
 | z::l,s,i,hi=>Int.le_trans (Qk l (Ep s z) (by rw [D9];exact hi)) (S_ z hi)
theorem Z_:∀ (l:C9) (s:List Int) {z:Ai×Bool},z∈l->z.1.Kind=1->z.2=true->z.1.A.toNat<s.length->z.1.B.toNat<s.length->∀ i,i=z.1.A.toNat\/i=z.1.B.toNat->(C7 l s).getD i 0<=min (s.getD z.1.A.toNat 0) (s.getD z.1.B.toNat 0)
 | [],_,_,h,_,_,_,_,_,_=>by cases h
 | y::l,s,z,hz,hk,hv,ha,hb,i,hi=>by
  show (C7 l (Ep s y)).getD i 0<=_
  have hil:i<s.length:=by rcases hi with rfl | rfl <;> assumption
  by_cases e:z=y
  ·subst e
   refine Int.le_trans (Qk l _ (by rw [D9];exact hil)) ?_
   rw [S9 hil,if_pos ⟨⟨hk,hv⟩,hi⟩]
   exact Int.le_refl _
  ·have hz':z∈l:=by
    rcases ah.1 hz with h | h
    ·exact absurd h e
    ·exact h
   refine Int.le_trans (Z_ l (Ep s y) hz' hk hv (by rw [D9];exact ha) (by rw [D9];exact hb) i hi) ?_
   have h1:=S_ y ha
   have h2:=S_ y hb
   omega
theorem Kl {n i:Nat} (h:i<n):(Ck n).getD i 0=(i:Int):=by
 simp [Ck,List.getD,List.getElem?_range h]
theorem Aoh {L:C9} {n:Nat} (hL:Ac4 L n):∀ r i j,i<n->j<n->C_ L j r i->((List.range r).foldl (λ s _=>C7 L s) (Ck n)).getD i 0<=(j:Int):=by
 intro r
 have hlen:∀ r,((List.range r).foldl (λ s _=>C7 L s) (Ck n)).length=n:=by
  intro r
  induction r with
  | zero=>simp [Ck]
  | succ r ih=>rw [cm,aX];simp only [bD,List.foldl_nil,E9];exact ih
 induction r with
 | zero=>
  intro i j hi hj h
  cases h
  show (Ck n).getD i 0<=_
  rw [Kl hi]
  exact Int.le_refl _
 | succ r ih=>
  intro i j hi hj h
  have hrl:=hlen r
  rw [cm,aX]
  simp only [bD,List.foldl_nil]
  generalize (List.range r).foldl (λ s _=>C7 L s) (Ck n)=s at *
  cases h with
  | stay h=>exact Int.le_trans (Qk L s (by omega)) (ih i j hi hj h)
  | step h t=>
   rename_i k
   have hk:=hL _ _ t
   have h1:=ih k j hk.1 hj h
   obtain⟨z,hz,hz1,hz2,he⟩:=t
   have hA:z.1.A.toNat<s.length:=by omega
   have hB:z.1.B.toNat<s.length:=by omega
   have h2:=Z_ L s hz hz1 hz2 hA hB i (by omega)
   rcases he with⟨e1,e2⟩ | ⟨e1,e2⟩
   ·rw [e1] at h2;omega
   ·rw [e2] at h2;omega
theorem Lg {b:Aa} (h:Aw b) (p:Ab) {i j:Nat} (hi:i<b.An.toNat) (hj:j<b.An.toNat):(A_ b p).getD i 0=(A_ b p).getD j 0↔E2 (Cj b p) i j:=by
 have hL:=uJ h p
 have hlen:=Ic b p
 have hlab:Lab (Cj b p) (A_ b p):=by
  have hz:∀ z,z∈Cj b p->z∈Cj b p/\(z.1.Kind=1->z.1.A.toNat<b.An.toNat/\z.1.B.toNat<b.An.toNat):=by
   intro z hz
   refine⟨hz,λ hk=>?_⟩
   have:=h.br z.1 (ck hz).1
   unfold Rk at this
   omega
  have key:∀ (xs:List Nat) (s:List Int),s.length=b.An.toNat->Lab (Cj b p) s->Lab (Cj b p) (xs.foldl (λ s _=>C7 (b.Ad.zip p.Ag) s) s):=by
   intro xs
   induction xs with
   | nil=>intro s _ h;exact h
   | cons x xs ih=>intro s hl h;exact ih _ (by rw [E9];exact hl) (Qj _ s hl hz h)
  refine key _ _ (by simp [Ck]) ?_
  intro k hk
  have hk':k<b.An.toNat:=by simpa [Ck] using hk
  rw [Kl hk']
  exact .refl _ k
 have hlow:∀ i j,i<b.An.toNat->j<b.An.toNat->E2 (Cj b p) j i->(A_ b p).getD i 0<=(j:Int):=λ i j hi hj hc=>Aoh hL _ i j hi hj (jN hL hj hc)
 have hlo:=Ta h p
 have hrange:∀ i,i<b.An.toNat->0<=(A_ b p).getD i 0/\((A_ b p).getD i 0).toNat<b.An.toNat:=by
  intro i hi
  have:=hlo i _ (A4d (by omega))
  omega
 constructor
 ·intro e
  have c1:=hlab i (by omega)
  have c2:=hlab j (by omega)
  rw [e] at c1
  exact c1.symm.trans c2
 ·intro hc
  have r1:=hrange i hi
  have r2:=hrange j hj
  have c1:=hlab i (by omega)
  have c2:=hlab j (by omega)
  have l1:=hlow j _ hj r1.2 (c1.trans hc)
  have l2:=hlow i _ hi r2.2 (c2.trans hc.symm)
  omega
def Ft (s:List Bool) (z:Ai×Bool):List Bool:=
 if (z.1.Kind=1/\z.2=true)/\(s.getD z.1.A.toNat false || s.getD z.1.B.toNat false)=true then (s.set z.1.A.toNat true).set z.1.B.toNat true else s
theorem Ez (s:List Bool) (z:Ai×Bool):(Ft s z).length=s.length:=by unfold Ft;split <;> simp
def Gh (L:C9) (s:List Bool):List Bool:=L.foldl Ft s
theorem K1:∀ (l:C9) (s:List Bool),(Gh l s).length=s.length
 | [],_=>rfl
 | z::l,s=>by show (Gh l (Ft s z)).length=_;rw [K1 l,Ez]
theorem Aw2 {s:List Bool} {m i:Nat} (hi:i<s.length):(s.set m true).getD i false=(decide (m=i) || s.getD i false):=by
 by_cases e:m=i
 ·subst e;simp [List.getD,hi]
 ·simp [List.getD,List.getElem?_set_ne e,e]
theorem Kj {s:List Bool} {z:Ai×Bool} {i:Nat} (hi:i<s.length):(Ft s z).getD i false=true↔s.getD i false=true\/(((z.1.Kind=1/\z.2=true)/\(s.getD z.1.A.toNat false || s.getD z.1.B.toNat false)=true)/\(i=z.1.A.toNat\/i=z.1.B.toNat)):=by
 unfold Ft
 split
 ·rename_i hc
  rw [Aw2 (by simpa using hi),Aw2 hi,aO,aO,decide_eq_true_iff,decide_eq_true_iff]
  constructor
  ·rintro (e | e | e)
   ·exact .inr ⟨hc,.inr e.symm⟩
   ·exact .inr ⟨hc,.inl e.symm⟩
   ·exact .inl e
  ·rintro (e | ⟨_,e | e⟩)
   ·exact .inr (.inr e)
   ·exact .inr (.inl e.symm)
   ·exact .inl e.symm
 ·rename_i hc
  exact⟨.inl,λ e=>e.elim id λ e=>absurd e.1 hc⟩
def Got (L:C9) (n:Nat) (s:List Bool):Prop:=∀ i,i<s.length->s.getD i false=true->E2 L n i
theorem Ass {L:C9} {n:Nat} {s:List Bool} (h:Got L n s) {z:Ai×Bool} (hz:z∈L) (hr:z.1.Kind=1->z.1.A.toNat<s.length/\z.1.B.toNat<s.length):Got L n (Ft s z):=by
 intro i hi e
 rw [Ez] at hi
 rcases (Kj hi).1 e with e | ⟨⟨⟨hk,hv⟩,ho⟩,hab⟩
 ·exact h i hi e
 ·obtain⟨ha,hb⟩:=hr hk
  have t:Tie L z.1.A.toNat z.1.B.toNat:=⟨z,hz,hk,hv,.inl ⟨rfl,rfl⟩⟩
  simp only [aO] at ho
  rcases ho with ho | ho
  ·have c:=h _ ha ho
   rcases hab with rfl | rfl
   ·exact c
   ·exact c.tie t
  ·have c:=h _ hb ho
   rcases hab with rfl | rfl
   ·exact c.tie t.symm
   ·exact c
theorem Zo {L:C9} {n m:Nat}:∀ (l:C9) (s:List Bool),s.length=m->(∀ z,z∈l->z∈L/\(z.1.Kind=1->z.1.A.toNat<m/\z.1.B.toNat<m))->Got L n s->Got L n (Gh l s)
 | [],_,_,_,h=>h
 | z::l,s,hs,hz,h=>Zo l (Ft s z) (by rw [Ez];exact hs) (λ y hy=>hz y (ai _ hy)) (Ass h (hz z aj).1 (by rw [hs];exact (hz z aj).2))
theorem P6:∀ (l:C9) (s:List Bool) {i:Nat},i<s.length->s.getD i false=true->(Gh l s).getD i false=true
 | [],_,_,_,h=>h
 | z::l,s,_,hi,h=>P6 l (Ft s z) (by rw [Ez];exact hi) ((Kj hi).2 (.inl h))
theorem Zn:∀ (l:C9) (s:List Bool) {z:Ai×Bool},z∈l->z.1.Kind=1->z.2=true->z.1.A.toNat<s.length->z.1.B.toNat<s.length->(s.getD z.1.A.toNat false || s.getD z.1.B.toNat false)=true->∀ i,i=z.1.A.toNat\/i=z.1.B.toNat->(Gh l s).getD i false=true
 | [],_,_,h,_,_,_,_,_,_,_=>by cases h
 | y::l,s,z,hz,hk,hv,ha,hb,ho,i,hi=>by
  show (Gh l (Ft s y)).getD i false=true
  have hil:i<s.length:=by rcases hi with rfl | rfl <;> assumption
  by_cases e:z=y
  ·subst e
   exact P6 l _ (by rw [Ez];exact hil) ((Kj hil).2 (.inr ⟨⟨⟨hk,hv⟩,ho⟩,hi⟩))
  ·have hz':z∈l:=by
    rcases ah.1 hz with h | h
    ·exact absurd h e
    ·exact h
   refine Zn l (Ft s y) hz' hk hv (by rw [Ez];exact ha) (by rw [Ez];exact hb) ?_ i hi
   simp only [aO] at ho ⊢
   exact ho.imp (λ e=>(Kj ha).2 (.inl e)) (λ e=>(Kj hb).2 (.inl e))
def Kk (L:C9) (r:Nat) (s:List Bool):List Bool:=(List.range r).foldl (λ s _=>Gh L s) s
theorem Kb (L:C9) (r:Nat) (s:List Bool):Kk L (r+1) s=Gh L (Kk L r s):=by
 unfold Kk;rw [cm,aX];rfl
theorem Hh (L:C9) (s:List Bool):∀ r,(Kk L r s).length=s.length
 | 0=>rfl
 | r+1=>by rw [Kb,K1,Hh L s r]
theorem Ann {L:C9} {n m:Nat} (hL:Ac4 L m) {s:List Bool} (hs:s.length=m) (hn:s.getD n false=true):∀ r i,i<m->C_ L n r i->(Kk L r s).getD i false=true:=by
 intro r
 induction r with
 | zero=>intro i _ h;cases h;exact hn
 | succ r ih=>
  intro i hi h
  rw [Kb]
  have hl:=Hh L s r
  cases h with
  | stay h=>exact P6 L _ (by omega) (ih i hi h)
  | step h t=>
   rename_i k
   have hk:=hL _ _ t
   have h1:=ih k hk.1 h
   obtain⟨z,hz,hz1,hz2,he⟩:=t
   refine Zn L _ hz hz1 hz2 (by omega) (by omega) ?_ i (by omega)
   rcases he with⟨e1,_⟩ | ⟨_,e2⟩
   ·rw [e1,h1];rfl
   ·rw [e2,h1];simp
def I8 (b:Aa) (p:Ab) (n:Nat):List Int:=((List.range b.An.toNat).filter λ i=>(A_ b p).getD i 0==(A_ b p).getD n 0).map λ (i:Nat)=>(i:Int)
theorem Aw5 {b:Aa} (h:Aw b) {p:Ab} (hp:Ax b p) {n:Nat} (hn:n<b.An.toNat):Ajx b p (n:Int)=some (I8 b p n):=by
 have hbu:=h.buses
 have hbl:=h.brl
 have hncl:=hp.ncl
 have hL:=uJ h p
 refine db ?_
 unfold Ajx
 refine (Ok.mkI (by omega) (by omega)).bind λ y hy=>?_
 have hyl:y.length=b.An.toNat:=by rw [hy];simp
 refine (di (by omega) (by omega)).bind λ _ _=>(da (by omega) (by omega)).bind λ z hz=>?_
 rw [aH] at hz
 have hzl:z.length=b.An.toNat:=by rw [hz];simpa using hyl
 have hzn:z.getD n false=true:=by rw [hz];simp [List.getD,hyl,hn]
 have hzg:Got (Cj b p) n z:=by
  intro i hi e
  have hiy:i<y.length:=by omega
  rw [hz,Aw2 hiy] at e
  simp only [aO,dF] at e
  rcases e with e | e
  ·subst e;exact .refl _ _
  ·rw [hy] at e;simp [List.getD,show i<b.An.toNat by omega] at e
 clear hz
 refine Ok.andThen (A:=λ s=>s=Kk (Cj b p) b.An.toNat z) (B:=λ (_:Unit)=>False) ?_ (λ s hs=>?_) (λ _ h=>h.elim)
 ·refine cX (I:=λ j s=>s=Kk (Cj b p) j z) rfl (λ j x s hx hs=>?_) λ s hs=>by rw [hs,hzl]
  unfold zM
  have hsl:s.length=b.An.toNat:=by rw [hs,Hh,hzl]
  refine (cX (I:=λ k r=>r=Gh ((Cj b p).take k) s) (A:=λ r=>r=Gh (Cj b p) s) (B:=λ (_:Unit)=>False) rfl (λ k u r hu hr=>?_) λ r hr=>?_).inner (λ r hr=>cW (by rw [hr,hs,Kb])) (λ _ h=>h.elim)
  ·have hk:=(aa.1 hu).1
   have hcnt:cnt 0 k=(k:Int):=Cr (by omega)
   have hrl:r.length=b.An.toNat:=by rw [hr,K1,hsl]
   obtain⟨⟨a0,a1⟩,hkind⟩:=h.br u (af hu)
   obtain⟨v,hv⟩:∃ v,p.Ag[k]? = some v:=⟨_,ag (by omega)⟩
   have hzk:(Cj b p)[k]? = some (u,v):=by unfold Cj;rw [List.getElem?_zip_eq_some];exact⟨hu,hv⟩
   have hnext:Gh ((Cj b p).take (k+1)) s=Ft r (u,v):=by
    rw [Bj hzk,Gh,aX,hr];rfl
   rw [hnext]
   have hB:u.Kind=1->0<=u.B/\u.B<b.An:=λ e=>by omega
   unfold zL
   rw [hcnt,Bi hv]
   by_cases k1:u.Kind=1
   ·have h2:=hB k1
    obtain⟨ga,hga⟩:∃ ga,r[u.A.toNat]? = some ga:=⟨_,ag (by omega)⟩
    obtain⟨gb,hgb⟩:∃ gb,r[u.B.toNat]? = some gb:=⟨_,ag (by omega)⟩
    have hda:r.getD u.A.toNat false=ga:=by simp [List.getD,hga]
    have hdb:r.getD u.B.toNat false=gb:=by simp [List.getD,hgb]
    have ea:getI r u.A=some ga:=by have:=Bi hga;rwa [bQ a0] at this
    have eb:getI r u.B=some gb:=by have:=Bi hgb;rwa [bQ h2.1] at this
    rw [dH.2 k1]
    refine Ok.bind (P:=λ w=>w=v) (d4 (λ _=>cV rfl) λ hn=>(hn ⟨rfl,trivial⟩).elim) λ w hw=>?_
    subst hw
    cases w with
    | false=>
     refine Ok.bind (P:=λ _=>True) (dj (λ _=>di a0 (by omega)) λ _=>trivial) λ _ _=>?_
     refine Ok.bind (P:=λ _=>True) (dj (λ _=>di h2.1 (by omega)) λ _=>trivial) λ _ _=>?_
     refine c9 (λ hq=>by simp [Tx] at hq) (λ _=>cW ?_)
     unfold Ft
     rw [if_neg (by simp)]
    | true=>
     rw [ea,eb]
     refine Ok.bind (P:=λ w=>w=ga) (d4 (λ _=>cV rfl) λ hn=>(hn ⟨rfl,trivial⟩).elim) λ w hw=>?_
     subst hw
     refine Ok.bind (P:=λ x=>(w || x)=(w || gb)) (d4 (λ _=>cV rfl) λ hn=>?_) λ x hx=>?_
     ·cases w with
      | true=>rfl
      | false=>exact (hn ⟨rfl,rfl,trivial⟩).elim
     have hc8:Tx u true w x=(w || gb):=by
      unfold Tx
      rw [hx,dH.2 k1];rfl
     rw [hc8]
     refine c9 (λ hq=>?_) (λ hq=>cW ?_)
     ·refine Ok.bind (P:=λ _=>True) (dk rfl) λ _ _=>(da a0 (by omega)).bind λ r1 e1=>?_
      refine (di h2.1 (by rw [e1];simp;omega)).bind λ _ _=>(da h2.1 (by rw [e1];simp;omega)).bind λ r2 e2=>cW ?_
      rw [e2,e1]
      unfold Ft
      rw [if_pos ⟨⟨k1,rfl⟩,by rw [hda,hdb];exact hq⟩]
     ·unfold Ft
      rw [if_neg (λ e=>by have:=e.2;rw [hda,hdb,hq] at this;cases this)]
   ·have k0:(u.Kind==1)=false:=dJ.2 k1
    rw [k0]
    refine Ok.bind (P:=λ _=>True) (d4 (λ hg=>absurd hg.1 (by simp)) λ _=>trivial) λ y7 _=>?_
    refine Ok.bind (P:=λ _=>True) (d4 (λ hg=>absurd hg.1 (by simp)) λ _=>trivial) λ y9 _=>?_
    refine Ok.bind (P:=λ _=>True) (d4 (λ hg=>absurd hg.1 (by simp)) λ _=>trivial) λ y11 _=>?_
    refine c9 (λ hq=>by simp [Tx,k0] at hq) (λ _=>cW ?_)
    unfold Ft
    rw [if_neg (λ e=>k1 e.1.1)]
  ·have:b.Ad.length=(Cj b p).length:=by unfold Cj;rw [List.length_zip];omega
   rw [hr,this,aI]
 ·have hsl:s.length=b.An.toNat:=by rw [hs,Hh,hzl]
  have hval:∀ i,i<b.An.toNat->s.getD i false=((A_ b p).getD i 0==(A_ b p).getD n 0):=by
   intro i hi
   rw [bR,dH,Lg h p hi hn]
   have hg:∀ r,Got (Cj b p) n (Kk (Cj b p) r z):=by
    intro r
    induction r with
    | zero=>exact hzg
    | succ r ih=>
     rw [Kb]
     refine Zo (m:=b.An.toNat) _ _ (by rw [Hh,hzl]) (λ y hy=>⟨hy,λ hk=>?_⟩) ih
     have:=h.br y.1 (ck hy).1
     unfold Rk at this
     omega
   constructor
   ·intro e
    rw [hs] at e
    exact (hg _ i (by rw [Hh,hzl];exact hi) e).symm
   ·intro c
    rw [hs]
    exact Ann hL hzl hzn _ i hi (jN hL hn c.symm)
  refine Ok.andThen (A:=λ y=>y=I8 b p n) (B:=λ (_:Unit)=>False) ?_ (λ y hy=>cV hy) (λ _ h=>h.elim)
  refine cX (I:=λ j y=>y=((List.range j).filter λ i=>(A_ b p).getD i 0==(A_ b p).getD n 0).map λ (i:Nat)=>(i:Int)) rfl (λ j x y hx hy=>?_) λ y hy=>?_
  ·have hj:=(aa.1 hx).1
   have hcnt:cnt 0 j=(j:Int):=Cr (by omega)
   have hv:=hval j (by omega)
   have hxd:s.getD j false=x:=by simp [List.getD,hx]
   rw [hxd] at hv
   have hyl2:y.length<=j:=by rw [hy];exact Dc _ j
   rw [Ff,←hy]
   unfold zK
   refine c9 (λ hq=>?_) (λ hq=>cW ?_)
   ·refine (d3 (by simp;omega)).bind λ w hw=>cW ?_
    rw [hw,hcnt,if_pos (by rw [←hv];exact hq)]
   ·rw [if_neg (by rw [←hv,hq];simp),aV]
  ·rw [hy,hsl];rfl
def ofZ (b:Aa) (k i:Int):List (Ai×Nat):=b.Ad.zipIdx.filter λ z=>z.1.Kind==k&&z.1.B==i
theorem Anx {b:Aa} {k:Int} (hk:k≠1) (i:Int):(ofL b λ x=>Lk k i x)=(ofZ b k i).map λ z=>(z.2:Int):=by
 unfold ofL ofZ
 congr 1
 exact List.filter_congr λ z _=>Aw7 k hk i z.1
theorem Vn {b:Aa} {k i:Int} {z:Ai×Nat} (h:z∈ofZ b k i):b.Ad[z.2]? = some z.1:=by
 have:=(aF.1 h).1
 rwa [cT] at this
theorem Adk (q:Ai->Bool) (C:List Bool):∀ (l:List Ai) (c:List Bool) (k:Nat),C.drop k=c->l.length=c.length ->
  (((l.zipIdx k).filter λ z=>q z.1).find? λ z=>C.getD z.2 false).map (·.1)=((l.zip c).find? λ z=>q z.1&&z.2).map (·.1)
 | [],_,_,_,_=>by simp
 | x::l,[],_,_,h=>by simp at h
 | x::l,v::c,k,hd,h=>by
  have hv:C[k]? = some v:=by
   have:=congrArg (·[0]?) hd
   simpa [List.getElem?_drop] using this
  have hd':C.drop (k+1)=c:=by rw [←bX,hd];rfl
  have ih:=Adk q C l c (k+1) hd' (by simpa using h)
  have hg:C.getD k false=v:=by simp [List.getD,hv]
  simp only [List.zipIdx_cons,bo,bF,cN]
  cases hq:q x with
  | false=>simpa only [Bool.false_and,bW,if_false] using ih
  | true=>
   simp only [if_true,cN,hg,bi]
   cases v with
   | false=>exact ih
   | true=>rfl
theorem Af7 {b:Aa} {p:Ab} (hc:p.Ag.length=b.Ad.length) (k i:Int):Ei b p k i=((ofZ b k i).find? λ z=>p.Ag.getD z.2 false).map (·.1.A):=by
 have:=Adk (λ x=>x.Kind==k&&x.B==i) p.Ag b.Ad p.Ag 0 rfl (by omega)
 unfold Ei ofZ
 have h2:=congrArg (Option.map (·.A)) this
 simp only [Option.map_map] at h2
 exact h2.symm
theorem jP {b:Aa} {p:Ab} (hc:p.Ag.length=b.Ad.length) {k i:Int} {z:Ai×Nat} (h:z∈ofZ b k i):p.Ag[z.2]? = some (p.Ag.getD z.2 false):=by
 have:=(aa.1 (Vn h)).1
 rw [ag (by omega)]
 simp [List.getD,List.getElem?_eq_getElem (show z.2<p.Ag.length by omega)]
theorem yN {b:Aa} (h:Aw b) {p:Ab} (hp:Ax b p) (i:Int):Ajw b p i=some (F1 (Ea b p i)):=by
 have hn:=hp.nso
 have hc:=hp.ncl
 refine db ?_
 unfold Ajw
 rw [Mf h hp]
 simp only [ac]
 by_cases hi:0<=i/\i<b.Ac.length
 ·obtain⟨x,hx⟩:∃ x,p.Ac[i.toNat]? = some x:=⟨_,ag (by omega)⟩
  have hg:getI p.Ac i=some x:=by have:=Bi hx;rwa [bQ hi.1] at this
  have hd:p.Ac.getD i.toNat default=x:=by simp [List.getD,hx]
  have hcond:((((0:Int) != 0) || (decide (i<0))) || (decide (i>=(b.Ac.length:Int))))=false:=by
   rw [cO];intro e;simp at e;omega
  rw [hcond,hg]
  refine Ok.bind (P:=λ y=>y=x) (d4 (λ _=>cV rfl) λ hn=>(hn ⟨rfl,trivial⟩).elim) λ y hy=>?_
  subst hy
  refine c9 (λ hq=>cV ?_) (λ hq=>?_)
  ·simp only [jV,hcond,bk,bne_iff_ne,ne_eq] at hq
   unfold Ea
   rw [if_neg (λ e=>by rw [hd] at e;exact hq e.2.2)];rfl
  ·simp only [jV,hcond,bk,dL] at hq
   have hcon:Ea b p i=Ei b p 2 i:=by
    unfold Ea
    rw [if_pos ⟨hi.1,by omega,by rw [hd];exact hq⟩]
   rw [Afu h,Anx (by decide),hcon,Af7 hc]
   simp only [ac]
   obtain⟨n,rfl⟩:∃ n:Nat,i=(n:Int):=⟨i.toNat,by omega⟩
   have hlen:=vH (b:=b) (k:=2) (by decide) n
   rw [Anx (by decide),h.one n (by omega),au] at hlen
   obtain⟨z,hz⟩:=List.length_eq_one_iff.1 hlen
   have hzm:z∈ofZ b 2 (n:Int):=by rw [hz];exact aj
   have hcz:=jP hc hzm
   have hbz:=Vn hzm
   rw [hz]
   show Ok ((getI [(z.2:Int)] 0).bind _) _
   rw [show getI [(z.2:Int)] 0=some (z.2:Int) from rfl]
   simp only [ac,Bi hcz,cN,List.find?_nil]
   cases hv:p.Ag.getD z.2 false with
   | false=>exact cV rfl
   | true=>
    simp only [bj,cond_false,Bi hbz,ac]
    exact cV rfl
 ·refine Ok.bind (P:=λ _=>True) (d4 (λ hg=>?_) λ _=>trivial) λ y _=>?_
  ·have:=hg.1
   simp at this;omega
  refine c9 (λ hq=>cV ?_) (λ hq=>?_)
  ·unfold Ea
   rw [if_neg (λ e=>hi (by omega))];rfl
  ·simp [jV] at hq;omega
theorem Aya {b:Aa} (h:Aw b) {p:Ab} (hp:Ax b p) {i:Int} (h0:0<=i) (h1:i<b.Ae.length):Ajv b p i=some (F1 (Ei b p 3 i)):=by
 have hc:=hp.ncl
 refine db ?_
 unfold Ajv
 rw [Mf h hp]
 simp only [ac]
 refine c9 (λ hq=>?_) (λ _=>?_)
 ·simp [Aum] at hq;omega
 rw [Afu h,Anx (by decide),Af7 hc]
 simp only [ac]
 have key:∀ (m:List (Ai×Nat)) (k:Nat),(∀ z,z∈m->b.Ad[z.2]? = some z.1/\p.Ag[z.2]? = some (p.Ag.getD z.2 false)) ->
   foldI (Wk b p) (m.map λ z=>(z.2:Int)) k ()=match m.find? λ z=>p.Ag.getD z.2 false with
    | some z=>some (.ret (z.1.A,true))
    | none=>some (.next ()):=by
  intro m
  induction m with
  | nil=>intro k _;rfl
  | cons z m ih=>
   intro k hm
   obtain⟨e1,e2⟩:=hm z aj
   simp only [bP,foldI,Wk,Bi e1,Bi e2,ac,cN]
   cases p.Ag.getD z.2 false with
   | true=>rfl
   | false=>exact ih (k+1) λ y hy=>hm y (ai _ hy)
 rw [key _ 0 λ z hz=>⟨Vn hz,jP hc hz⟩]
 cases (ofZ b 3 i).find? λ z=>p.Ag.getD z.2 false with
 | none=>exact cV rfl
 | some z=>exact cV rfl
theorem Ati (l:List Int) (x:Int):zJ l x=some (l.any (· == x)):=by
 unfold zJ
 have:∀ (l:List Int) (k:Nat),foldI (Wl x) l k ()=bif l.any (· == x) then some (.ret true) else some (.next ()):=by
  intro l
  induction l with
  | nil=>intro k;rfl
  | cons y l ih=>
   intro k
   simp only [foldI,Wl,List.any_cons]
   cases hy:(y==x) with
   | true=>rfl
   | false=>simp only [cond_false,bk];exact ih (k+1)
 rw [this]
 cases l.any (· == x) <;> rfl
theorem Aez {b:Aa} {p:Ab} {n:Nat} {a:Int} (h0:0<=a) (h1:a<b.An):(I8 b p n).any (· == a)=((A_ b p).getD a.toNat 0==(A_ b p).getD n 0):=by
 rw [bR,List.any_eq_true]
 constructor
 ·rintro⟨x,hx,e⟩
  rw [dH] at e;subst e
  obtain⟨i,hi,rfl⟩:=am.1 hx
  rw [aH]
  exact (aF.1 hi).2
 ·intro e
  refine⟨a,am.2 ⟨a.toNat,aF.2 ⟨aZ.2 (by omega),e⟩,by omega⟩,by simp⟩
theorem Hd {b:Aa} (h:Aw b) (p:Ab) {n:Nat} (hn:n<b.An.toNat):0<=(A_ b p).getD n 0/\((A_ b p).getD n 0).toNat<=n/\(((A_ b p).getD n 0).toNat:Int)=(A_ b p).getD n 0:=by
 have:=Ta h p n _ (A4d (by rw [Ic];exact hn))
 omega
theorem A1g {b:Aa} (h:Aw b) {p:Ab} (hp:Ax b p) {n:Nat} (hn:n<b.An.toNat):Aj5 b p (n:Int)=some (isl b p ((A_ b p).getD n 0).toNat,true):=by
 have hso:=h.sol
 have hco:=h.col
 have hg:=Hd h p hn
 refine db ?_
 unfold Aj5
 rw [Mf h hp]
 simp only [ac]
 refine c9 (λ hc=>?_) (λ _=>?_)
 ·simp [Auv] at hc;omega
 rw [Aw5 h hp hn]
 simp only [ac]
 refine Ok.andThen (A:=λ s=>s.2=Fb b p b.Ac.length ((A_ b p).getD n 0).toNat) (B:=λ (_:Unit)=>False) ?_ (λ s hs=>?_) (λ _ h=>h.elim)
 ·refine cZ (λ s=>(0<=s.1/\s.1<=(b.Ac.length:Int))/\s.2=Fb b p s.1.toNat ((A_ b p).getD n 0).toNat) (λ s=>((b.Ac.length:Int)-s.1).toNat) _ _ ?_ ?_ ?_
  ·exact⟨by dsimp only;omega,rfl⟩
  ·dsimp only;omega
  ·rintro⟨i,s⟩ ⟨⟨g1,g2⟩,g3⟩
   dsimp only at g1 g2 g3
   unfold zV Auu
   dsimp only
   have hsl:s.length<=i.toNat:=by rw [g3];exact Dc _ _
   refine c9 (λ hq=>?_) (λ hq=>de ?_)
   ·simp only [dF] at hq
    have e1:w64 (i+1)=i+1:=Bd (by omega)
    have e2:(i+1).toNat=i.toNat+1:=by omega
    have e3:((i.toNat:Nat):Int)=i:=by omega
    rw [e1,yN h hp]
    simp only [ac,Ati]
    have hnext:Fb b p (i.toNat+1) ((A_ b p).getD n 0).toNat=s++if (Fe b p (Ea b p i)==some (((A_ b p).getD n 0).toNat:Int))=true then [i] else []:=by
     unfold Fb at g3 ⊢
     rw [Ff,←g3,e3]
    have hskip:(Fe b p (Ea b p i)==some (((A_ b p).getD n 0).toNat:Int))=false->Ok (some (.next (i+1,s)):Option (Ctl (Int×List Int) Unit)) (Gv (λ s'=>((0<=s'.1/\s'.1<=(b.Ac.length:Int))/\s'.2=Fb b p s'.1.toNat ((A_ b p).getD n 0).toNat)/\((b.Ac.length:Int)-s'.1).toNat<((b.Ac.length:Int)-i).toNat) (λ s=>s.2=Fb b p b.Ac.length ((A_ b p).getD n 0).toNat) (λ _=>False)):=by
     intro hf
     refine cW ⟨⟨by dsimp only;omega,?_⟩,by dsimp only;omega⟩
     dsimp only
     rw [e2,hnext,hf];simp
    cases hco:Ea b p i with
    | none=>
     refine Ok.bind (P:=λ _=>True) (d4 (λ hg=>absurd hg.1 (by simp [F1])) λ _=>trivial) λ y _=>?_
     refine c9 (λ hq=>by simp [F1] at hq) (λ _=>hskip (by rw [hco];rfl))
    | some a=>
     have ha:=Mz h hco
     refine Ok.bind (P:=λ y=>y=(I8 b p n).any (· == a)) (d4 (λ _=>cV rfl) λ hn=>(hn ⟨rfl,trivial⟩).elim) λ y hy=>?_
     rw [Aez ha.1 ha.2] at hy
     have hgr:(Fe b p (Ea b p i)==some (((A_ b p).getD n 0).toNat:Int))=((A_ b p).getD a.toNat 0==(A_ b p).getD n 0):=by
      rw [hco,hg.2.2];rfl
     refine c9 (λ hq=>?_) (λ hq=>?_)
     ·simp only [F1,bi] at hq
      refine (d3 (by simp;omega)).bind λ w hw=>cW ⟨⟨by dsimp only;omega,?_⟩,by dsimp only;omega⟩
      dsimp only
      rw [e2,hnext,hgr,←hy,hq,hw];rfl
     ·simp only [F1,bi] at hq
      exact hskip (by rw [hgr,←hy,hq])
   ·simp only [dG] at hq
    dsimp only
    rw [g3]
    have:i.toNat=b.Ac.length:=by omega
    rw [this]
 ·refine Ok.andThen (A:=λ s=>s.2=Gk b p b.Ae.length ((A_ b p).getD n 0).toNat) (B:=λ (_:Unit)=>False) ?_ (λ t ht=>cV ?_) (λ _ h=>h.elim)
  ·refine cZ (λ s=>(0<=s.1/\s.1<=(b.Ae.length:Int))/\s.2=Gk b p s.1.toNat ((A_ b p).getD n 0).toNat) (λ s=>((b.Ae.length:Int)-s.1).toNat) _ _ ?_ ?_ ?_
   ·exact⟨by dsimp only;omega,rfl⟩
   ·dsimp only;omega
   ·rintro⟨i,s⟩ ⟨⟨g1,g2⟩,g3⟩
    dsimp only at g1 g2 g3
    unfold zU Aut
    dsimp only
    have hsl:s.length<=i.toNat:=by rw [g3];exact Dc _ _
    refine c9 (λ hq=>?_) (λ hq=>de ?_)
    ·simp only [dF] at hq
     have e1:w64 (i+1)=i+1:=Bd (by omega)
     have e2:(i+1).toNat=i.toNat+1:=by omega
     have e3:((i.toNat:Nat):Int)=i:=by omega
     rw [e1,Aya h hp g1 hq]
     simp only [ac,Ati]
     have hnext:Gk b p (i.toNat+1) ((A_ b p).getD n 0).toNat=s++if (Fe b p (Ei b p 3 i)==some (((A_ b p).getD n 0).toNat:Int))=true then [i] else []:=by
      unfold Gk at g3 ⊢
      rw [Ff,←g3,e3]
     have hskip:(Fe b p (Ei b p 3 i)==some (((A_ b p).getD n 0).toNat:Int))=false->Ok (some (.next (i+1,s)):Option (Ctl (Int×List Int) Unit)) (Gv (λ s'=>((0<=s'.1/\s'.1<=(b.Ae.length:Int))/\s'.2=Gk b p s'.1.toNat ((A_ b p).getD n 0).toNat)/\((b.Ae.length:Int)-s'.1).toNat<((b.Ae.length:Int)-i).toNat) (λ s=>s.2=Gk b p b.Ae.length ((A_ b p).getD n 0).toNat) (λ _=>False)):=by
      intro hf
      refine cW ⟨⟨by dsimp only;omega,?_⟩,by dsimp only;omega⟩
      dsimp only
      rw [e2,hnext,hf];simp
     cases hco:Ei b p 3 i with
     | none=>
      refine Ok.bind (P:=λ _=>True) (d4 (λ hg=>absurd hg.1 (by simp [F1])) λ _=>trivial) λ y _=>?_
      refine c9 (λ hq=>by simp [F1] at hq) (λ _=>hskip (by rw [hco];rfl))
     | some a=>
      have ha:=X0 h hco
      refine Ok.bind (P:=λ y=>y=(I8 b p n).any (· == a)) (d4 (λ _=>cV rfl) λ hn=>(hn ⟨rfl,trivial⟩).elim) λ y hy=>?_
      rw [Aez ha.1 ha.2] at hy
      have hgr:(Fe b p (Ei b p 3 i)==some (((A_ b p).getD n 0).toNat:Int))=((A_ b p).getD a.toNat 0==(A_ b p).getD n 0):=by
       rw [hco,hg.2.2];rfl
      refine c9 (λ hq=>?_) (λ hq=>?_)
      ·simp only [F1,bi] at hq
       refine (d3 (by simp;omega)).bind λ w hw=>cW ⟨⟨by dsimp only;omega,?_⟩,by dsimp only;omega⟩
       dsimp only
       rw [e2,hnext,hgr,←hy,hq,hw];rfl
      ·simp only [F1,bi] at hq
       exact hskip (by rw [hgr,←hy,hq])
    ·simp only [dG] at hq
     dsimp only
     rw [g3]
     have:i.toNat=b.Ae.length:=by omega
     rw [this]
  ·rw [hs,ht]
   unfold isl Dz I8
   rw [hg.2.2]
def Hb (b:Aa) (p:Ab) (f:Nat):Bool:=(A_ b p).getD f 0==(f:Int)
theorem Hv {b:Aa} (h:Aw b) (p:Ab) {n:Nat} (hn:n<b.An.toNat):Hb b p ((A_ b p).getD n 0).toNat=true:=by
 have hg:=Hd h p hn
 unfold Hb
 rw [dH,hg.2.2]
 have hm:((A_ b p).getD n 0).toNat<b.An.toNat:=by omega
 have hL:=uJ h p
 have hself:E2 (Cj b p) ((A_ b p).getD n 0).toNat n:=by
  have hlab:∀ (xs:List Nat) (s:List Int),s.length=b.An.toNat->Lab (Cj b p) s->Lab (Cj b p) (xs.foldl (λ s _=>C7 (b.Ad.zip p.Ag) s) s):=by
   intro xs
   induction xs with
   | nil=>intro s _ h;exact h
   | cons x xs ih=>
    intro s hl h2
    refine ih _ (by rw [E9];exact hl) (Qj _ s hl (λ z hz=>⟨hz,λ hk=>?_⟩) h2)
    have:=h.br z.1 (ck hz).1
    unfold Rk at this
    omega
  refine hlab (List.range b.An.toNat) (Ck b.An.toNat) (by simp [Ck]) ?_ n ?_
  ·intro k hk
   rw [Kl (by simpa [Ck] using hk)]
   exact .refl _ k
  ·have:=Ic b p
   unfold A_ at this
   rw [this];exact hn
 exact (Lg h p hm hn).2 hself
theorem Ax8 {b:Aa} (h:Aw b) (p:Ab) {f:Nat} (hf:f<b.An.toNat):Ip (isl b p f)=Hb b p f:=by
 rw [bR]
 unfold Ip isl Dz
 simp only [bn,dJ,ne_eq,au]
 constructor
 ·intro e
  have hne:(List.range b.An.toNat).filter (λ i=>(A_ b p).getD i 0==(f:Int))≠[]:=λ e2=>e (by rw [e2];rfl)
  obtain⟨i,hi⟩:=List.exists_mem_of_ne_nil _ hne
  obtain⟨h1,h2⟩:=aF.1 hi
  rw [dH] at h2
  have:=Hv h p (aZ.1 h1)
  rw [h2,aH] at this
  exact this
 ·intro e e2
  have hm:f∈(List.range b.An.toNat).filter (λ i=>(A_ b p).getD i 0==(f:Int)):=aF.2 ⟨aZ.2 hf,e⟩
  have:=List.length_pos_iff.2 (List.ne_nil_of_mem hm)
  omega
def Ke (b:Aa) (p:Ab) (n:Nat):List Nat:=(List.range n).filter (Hb b p)
theorem Gj {b:Aa} (h:Aw b) (p:Ab):Bl b p=(Ke b p b.An.toNat).map (isl b p):=by
 unfold Bl Ke
 rw [List.filter_map]
 congr 1
 exact List.filter_congr λ f hf=>Ax8 h p (aZ.1 hf)
theorem Arb {b:Aa} (h:Aw b) (p:Ab) {n:Nat} (hn:n<b.An.toNat):∃ m:Nat,(I8 b p n)[0]? = some (m:Int)/\(m=n↔Hb b p n=true):=by
 have hg:=Hd h p hn
 have hm:((A_ b p).getD n 0).toNat<b.An.toNat:=by omega
 have hgg:=Hv h p hn
 unfold Hb at hgg
 rw [dH,hg.2.2] at hgg
 have hfind:(List.range b.An.toNat).find? (λ i=>(A_ b p).getD i 0==(A_ b p).getD n 0)=some ((A_ b p).getD n 0).toNat:=by
  rw [List.find?_range_eq_some]
  refine⟨by rw [dH];exact hgg,aZ.2 hm,λ j hj=>?_⟩
  simp only [bn,dJ,ne_eq]
  intro e
  have:=Hd h p (n:=j) (by omega)
  omega
 refine⟨((A_ b p).getD n 0).toNat,?_,?_⟩
 ·unfold I8
  rw [ax,←List.head?_eq_getElem?,List.head?_filter,hfind];rfl
 ·unfold Hb
  rw [dH];omega
theorem Agc {b:Aa} (h:Aw b) {p:Ab} (hp:Ax b p):F85 b p=some (Bl b p):=by
 have hbu:=h.buses
 rw [Gj h]
 refine db ?_
 unfold F85
 rw [Mf h hp]
 simp only [ac]
 refine c9 (λ hc=>by simp at hc) (λ _=>?_)
 refine Ok.andThen (A:=λ s=>s.2=(Ke b p b.An.toNat).map (isl b p)) (B:=λ (_:Unit)=>False) ?_ (λ s hs=>cV hs) (λ _ h=>h.elim)
 refine cZ (λ s=>(0<=s.1/\s.1<=b.An)/\s.2=(Ke b p s.1.toNat).map (isl b p)) (λ s=>(b.An-s.1).toNat) _ _ ?_ ?_ ?_
 ·exact⟨by dsimp only;omega,rfl⟩
 ·dsimp only;omega
 ·rintro⟨i,s⟩ ⟨⟨g1,g2⟩,g3⟩
  dsimp only at g1 g2 g3
  unfold Aiu
  dsimp only
  refine c9 (λ hq=>?_) (λ hq=>de ?_)
  ·simp only [dF] at hq
   obtain⟨n,rfl⟩:∃ n:Nat,i=(n:Int):=⟨i.toNat,by omega⟩
   have hn:n<b.An.toNat:=by omega
   have e1:w64 ((n:Int)+1)=(n:Int)+1:=Bd (by omega)
   have e2:((n:Int)+1).toNat=n+1:=by omega
   have hg:=Hd h p hn
   obtain⟨m,hm,hmn⟩:=Arb h p hn
   have hbuses:(isl b p ((A_ b p).getD n 0).toNat).An=I8 b p n:=by
    unfold isl Dz I8
    rw [hg.2.2]
   rw [aH] at g3
   have hsl:s.length<=n:=by
    rw [g3,au]
    exact aJ (bC _ _) (by simp)
   have hnext:Ke b p (n+1)=Ke b p n++if Hb b p n=true then [n] else []:=by
    unfold Ke
    rw [cm,bq]
    congr 1
    cases hq:Hb b p n <;> simp [hq]
   rw [e1,A1g h hp hn]
   simp only [ac,hbuses]
   have hg0:getI (I8 b p n) 0=some (m:Int):=Bi (j:=0) hm
   rw [hg0]
   simp only [ac]
   refine c9 (λ hq=>?_) (λ hq=>cW ⟨⟨by dsimp only;omega,?_⟩,by dsimp only;omega⟩)
   ·simp only [dH] at hq
    have hle:=hmn.1 (by omega)
    refine (d3 (by simp;omega)).bind λ w hw=>cW ⟨⟨by dsimp only;omega,?_⟩,by dsimp only;omega⟩
    dsimp only
    have hgn:((A_ b p).getD n 0).toNat=n:=by
     unfold Hb at hle
     rw [dH] at hle;omega
    rw [e2,hnext,if_pos hle,hw,g3,bE,hgn];rfl
   ·simp only [dJ,ne_eq] at hq
    have hle:¬Hb b p n=true:=λ e=>hq (by rw [hmn.2 e])
    dsimp only
    rw [e2,hnext,if_neg hle,aV,g3]
  ·simp only [dG] at hq
   dsimp only
   have:i.toNat=b.An.toNat:=by omega
   rw [g3,this]
theorem Aki {b:Aa} (h:Aw b) {p:Ab} (hp:Ax b p):F45 b p=some (⟨p.Ag,Ec b p,p.Ap,p.Am⟩,0):=by
 have hn:=hp.nso
 refine db ?_
 unfold F45
 rw [Mf h hp]
 simp only [ac]
 refine c9 (λ hc=>by simp at hc) (λ _=>?_)
 refine Ok.bind (P:=λ y=>y=⟨p.Ag,Ec b p,p.Ap,p.Am⟩) ?_ λ y hy=>cV (by rw [hy])
 unfold F63
 rw [A18 h hp,Agc h hp]
 simp only [ac]
 refine Ok.andThen (A:=λ s=>s=Ec b p) (B:=λ (_:Unit)=>False) ?_ (λ s hs=>cV (by rw [hs])) (λ _ h=>h.elim)
 refine cX (I:=λ j s=>s=((Bl b p).take j).foldl (Cu p) p.Ac) rfl (λ j x s hx hs=>?_) λ s hs=>?_
 ·have hi:=O3 (af hx)
  have hl:s.length=p.Ac.length:=by rw [hs,Kf]
  have hnext:((Bl b p).take (j+1)).foldl (Cu p) p.Ac=Cu p s x:=by rw [Bj hx,aX,←hs];rfl
  rw [hnext]
  unfold Ai4
  cases hsrc:x.Ac with
  | nil=>exact cW (by unfold Cu;rw [hsrc])
  | cons m l=>
   have hm:=hi m (by rw [hsrc];exact aj)
   obtain⟨u,hu⟩:∃ u,p.Ac[m.toNat]? = some u:=⟨_,ag (by omega)⟩
   have hgu:getI p.Ac m=some u:=by have:=Bi hu;rwa [bQ hm.1] at this
   have hd:p.Ac.getD m.toNat default=u:=by simp [List.getD,hu]
   have hf:Cu p s x=Ef u (m::l) s:=by unfold Cu;rw [hsrc];simp only [hd]
   rw [hf]
   have hin:∀ k,k∈m::l->0<=k/\k<p.Ac.length:=λ k hk=>by
    have:=hi k (by rw [hsrc];exact hk)
    omega
   refine (cX (I:=λ k r=>r=Ef u ((m::l).take k) s) (A:=λ r=>r=Ef u (m::l) s) (B:=λ (_:Unit)=>False) rfl (λ k n r hk hr=>?_) λ r hr=>by rw [hr,aI]).inner (λ r hr=>cW hr) (λ _ h=>h.elim)
   have hnk:=hin n (af hk)
   have hrl:r.length=p.Ac.length:=by rw [hr,Gr,hl]
   unfold Ai3
   rw [hsrc,show getI (m::l) 0=some m from rfl]
   simp only [ac,hgu]
   refine (cY hnk.1 (by omega)).bind λ v hv=>(da hnk.1 (by omega)).bind λ r1 e1=>?_
   have hvg:r1[n.toNat]? = some (⟨v.State,v.Since,u.Aq,v.Phase⟩:Af):=by rw [e1,bG (by omega)]
   refine Ok.bind (P:=λ w=>w=(⟨v.State,v.Since,u.Aq,v.Phase⟩:Af)) ((cY hnk.1 (by rw [e1];simp;omega)).mono λ w hw=>by rw [hvg] at hw;cases hw;rfl) λ w hw=>?_
   refine (da hnk.1 (by rw [e1];simp;omega)).bind λ r2 e2=>cW ?_
   have hdv:r.getD n.toNat default=v:=by simp [List.getD,hv]
   rw [Aal hk,←hr,hdv,e2,e1,hw,List.set_set];rfl
 ·rw [aI] at hs;exact hs
theorem Aw0 {ss:List Af} {n:Nat} (h:n<ss.length):ss.set n (ss.getD n default)=ss:=by
 apply bJ
 intro i
 rw [aw]
 split
 ·rename_i e;subst e
  simp [List.getD,List.getElem?_eq_getElem h]
 ·rfl
theorem Aam {B4:Af}:∀ (idx:List Int) (ss:List Af),(∀ i,i∈idx->i.toNat<ss.length/\Xd B4 (ss.getD i.toNat default)=ss.getD i.toNat default)->Ef B4 idx ss=ss
 | [],_,_=>rfl
 | i::idx,ss,h=>by
  obtain⟨h1,h2⟩:=h i aj
  show Ef B4 idx (ss.set i.toNat (Xd B4 (ss.getD i.toNat default)))=ss
  rw [h2,Aw0 h1]
  exact Aam idx ss λ j hj=>h j (ai _ hj)
theorem X4 {ss:List Af} {m n:Nat} {y:Af}:(ss.set m y).getD n default=if m=n/\m<ss.length then y else ss.getD n default:=by
 unfold List.getD
 rw [aw]
 by_cases e:m=n
 ·subst e
  by_cases hl:m<ss.length
  ·simp [hl]
  ·simp [hl]
 ·simp [e]
theorem Zj (B4:Af):∀ (idx:List Int) (ss:List Af) (n:Nat),((Ef B4 idx ss).getD n default).State=(ss.getD n default).State
 | [],_,_=>rfl
 | i::idx,ss,n=>by
  show ((Ef B4 idx _).getD n default).State=_
  rw [Zj B4 idx,X4]
  split
  ·rename_i e;rw [←e.1];rfl
  ·rfl
theorem Xo {B4:Af}:∀ (idx:List Int) (ss:List Af) {n:Nat},(∀ i,i∈idx->i.toNat≠n)->(Ef B4 idx ss).getD n default=ss.getD n default
 | [],_,_,_=>rfl
 | i::idx,ss,n,h=>by
  show (Ef B4 idx _).getD n default=_
  rw [Xo idx _ (λ j hj=>h j (ai _ hj)),X4,if_neg (λ e=>h i aj e.1)]
theorem Ak6 {B4:Af}:∀ (idx:List Int) (ss:List Af) {n:Nat},n<ss.length->(∃ i,i∈idx/\i.toNat=n)->((Ef B4 idx ss).getD n default).Aq=B4.Aq/\((Ef B4 idx ss).getD n default).Phase=B4.Phase
 | [],_,_,_,h=>by obtain⟨_,h,_⟩:=h;cases h
 | i::idx,ss,n,hn,h=>by
  by_cases hr:∃ j,j∈idx/\j.toNat=n
  ·exact Ak6 idx _ (by simpa using hn) hr
  ·have hi:i.toNat=n:=by
    obtain⟨j,hj,e⟩:=h
    rcases ah.1 hj with rfl | hj
    ·exact e
    ·exact absurd ⟨j,hj,e⟩ hr
   have:(Ef B4 (i::idx) ss).getD n default=Xd B4 (ss.getD i.toNat default):=by
    show (Ef B4 idx _).getD n default=_
    rw [Xo idx _ (λ j hj e=>hr ⟨j,hj,e⟩),X4,if_pos ⟨hi,by omega⟩]
   rw [this];exact⟨rfl,rfl⟩
def Fl (b:Aa) (p:Ab):Prop:=∀ x,x∈Bl b p->∀ i j,i∈x.Ac->j∈x.Ac ->
 (p.Ac.getD i.toNat default).Aq=(p.Ac.getD j.toNat default).Aq/\(p.Ac.getD i.toNat default).Phase=(p.Ac.getD j.toNat default).Phase
theorem Tf {b:Aa} {p:Ab} (hn:p.Ac.length=b.Ac.length) (h:Fl b p):Ec b p=p.Ac:=by
 have key:∀ l:List Ah,(∀ x,x∈l->x∈Bl b p)->l.foldl (Cu p) p.Ac=p.Ac:=by
  intro l
  induction l with
  | nil=>intro _;rfl
  | cons x l ih=>
   intro hl
   have hx:=hl x aj
   have hst:Cu p p.Ac x=p.Ac:=by
    unfold Cu
    split
    ·rfl
    ·rename_i i r e
     refine Aam _ _ λ j hj=>?_
     have hj2:=O3 hx j hj
     have ha:=h x hx i j (by rw [e];exact aj) hj
     refine⟨by omega,?_⟩
     unfold Xd
     rw [ha.1,ha.2]
   rw [bD,hst]
   exact ih λ y hy=>hl y (ai _ hy)
 exact key _ λ _ hx=>hx
theorem Akh (p:Ab) (s:List Af) (x:Ah) (n:Nat):((Cu p s x).getD n default).State=(s.getD n default).State:=by
 unfold Cu
 split
 ·rfl
 ·exact Zj _ _ _ _
theorem Aco (b:Aa) (p:Ab) (n:Nat):((Ec b p).getD n default).State=(p.Ac.getD n default).State:=by
 have key:∀ (l:List Ah) (s:List Af),((l.foldl (Cu p) s).getD n default).State=(s.getD n default).State:=by
  intro l
  induction l with
  | nil=>intro s;rfl
  | cons x l ih=>intro s;rw [bD,ih,Akh]
 exact key _ _
theorem Acn {b:Aa} {p q:Ab} (hc:q.Ag=p.Ag) (hl:q.Ac.length=p.Ac.length) (hs:∀ n:Nat,(q.Ac.getD n default).State=(p.Ac.getD n default).State):Bl b q=Bl b p:=by
 have hled:∀ k i,Ei b q k i=Ei b p k i:=λ k i=>by unfold Ei;rw [hc]
 have hgr:A_ b q=A_ b p:=by unfold A_;rw [hc]
 have hcon:∀ i,Ea b q i=Ea b p i:=λ i=>by unfold Ea;rw [hled,hl,hs]
 have hgo:∀ o,Fe b q o=Fe b p o:=λ o=>by unfold Fe;rw [hgr]
 have hisl:isl b q=isl b p:=by
  funext f
  unfold isl Dz Fb Gk
  simp only [hgr,hled,hcon,hgo]
 unfold Bl
 rw [hisl]
theorem Jq {b:Aa} {p:Ab} {f:Nat} {i:Int}:i∈(isl b p f).Ac↔∃ k:Nat,i=(k:Int)/\k<b.Ac.length/\Fe b p (Ea b p (k:Int))=some (f:Int):=by
 constructor
 ·intro h
  obtain⟨k,hk,e⟩:=am.1 h
  obtain⟨h1,h2⟩:=aF.1 hk
  exact⟨k,e.symm,aZ.1 h1,by rwa [dH] at h2⟩
 ·rintro⟨k,e,h1,h2⟩
  exact am.2 ⟨k,aF.2 ⟨aZ.2 h1,by rw [dH];exact h2⟩,e.symm⟩
theorem Awy {b:Aa} {p:Ab} {f g:Nat} (hfg:f≠g) {i j:Int} (hi:i∈(isl b p f).Ac) (hj:j∈(isl b p g).Ac):i.toNat≠j.toNat:=by
 obtain⟨k,rfl,_,e1⟩:=Jq.1 hi
 obtain⟨m,rfl,_,e2⟩:=Jq.1 hj
 rw [aH,aH]
 intro e;subst e
 rw [e1] at e2
 have:=bN e2
 exact hfg (by omega)
def Acy (b:Aa) (p:Ab) (f:Nat):Af:=p.Ac.getD ((isl b p f).Ac.headD 0).toNat default
theorem Agi {b:Aa} {p:Ab} {n:Nat}:∀ (fs:List Nat) (s:List Af),(∀ f,f∈fs->∀ i,i∈(isl b p f).Ac->i.toNat≠n)->((fs.map (isl b p)).foldl (Cu p) s).getD n default=s.getD n default
 | [],_,_=>rfl
 | f::fs,s,h=>by
  rw [bP,bD,Agi fs _ (λ g hg=>h g (ai _ hg))]
  have hf:=h f aj
  unfold Cu
  split
  ·rfl
  ·exact Xo _ _ hf
theorem yF {b:Aa} {p:Ab} (hn:p.Ac.length=b.Ac.length):∀ (fs:List Nat) (s:List Af),s.length=p.Ac.length->fs.Nodup->∀ f,f∈fs->∀ i,i∈(isl b p f).Ac ->
  (((fs.map (isl b p)).foldl (Cu p) s).getD i.toNat default).Aq=(Acy b p f).Aq/\(((fs.map (isl b p)).foldl (Cu p) s).getD i.toNat default).Phase=(Acy b p f).Phase
 | [],_,_,_,_,h,_,_=>by cases h
 | g::fs,s,hs,hnd,f,hf,i,hi=>by
  obtain⟨h1,h2⟩:=List.nodup_cons.1 hnd
  rw [bP,bD]
  by_cases e:f=g
  ·subst e
   rw [Agi fs _ (λ k hk j hj=>Awy (λ e=>h1 (by rw [←e];exact hk)) hj hi)]
   obtain⟨k,rfl,hk,_⟩:=Jq.1 hi
   unfold Cu
   split
   ·rename_i e;rw [e] at hi;cases hi
   ·rename_i m r e
    have:Acy b p f=p.Ac.getD m.toNat default:=by unfold Acy;rw [e];rfl
    rw [this]
    exact Ak6 _ _ (by rw [aH];omega) ⟨_,hi,rfl⟩
  ·rcases ah.1 hf with h | hf
   ·exact absurd h e
   ·exact yF hn fs _ (by rw [Mv];exact hs) h2 f hf i hi
theorem J2 {b:Aa} (h:Aw b) {p:Ab} (hn:p.Ac.length=b.Ac.length):Fl b ⟨p.Ag,Ec b p,p.Ap,p.Am⟩:=by
 have hisl:Bl b ⟨p.Ag,Ec b p,p.Ap,p.Am⟩=Bl b p:=Acn rfl (Hy b p) (Aco b p)
 intro x hx i j hi hj
 rw [hisl,Gj h] at hx
 obtain⟨f,hf,rfl⟩:=am.1 hx
 have hnd:(Ke b p b.An.toNat).Nodup:=(List.nodup_range).sublist List.filter_sublist
 have hfl:Ec b p=((Ke b p b.An.toNat).map (isl b p)).foldl (Cu p) p.Ac:=by
  rw [←Gj h];rfl
 have e1:=yF hn _ p.Ac rfl hnd f hf i hi
 have e2:=yF hn _ p.Ac rfl hnd f hf j hj
 dsimp only
 rw [hfl]
 exact⟨e1.1.trans e2.1.symm,e1.2.trans e2.2.symm⟩
def Aoa (b:Aa) (p:Ab) (n:Nat):Bool:=decide (((isl b p ((A_ b p).getD n 0).toNat).Ac.length:Int)>0)
theorem Auy {b:Aa} {p:Ab} {n f:Nat} (hn:n<b.An.toNat):(isl b p f).An.any ((n:Int) == ·)=((A_ b p).getD n 0==(f:Int)):=by
 rw [bR,List.any_eq_true]
 constructor
 ·rintro⟨x,hx,e⟩
  rw [dH] at e;subst e
  obtain⟨i,hi,e⟩:=am.1 hx
  have:i=n:=by omega
  subst this
  exact (aF.1 hi).2
 ·intro e
  exact⟨n,am.2 ⟨n,aF.2 ⟨aZ.2 hn,e⟩,rfl⟩,by simp⟩
theorem of_eq {b:Aa} (h:Aw b) {p:Ab} (hp:Ax b p) {n:Nat} (hn:n<b.An.toNat):Gg b p (n:Int)=some (isl b p ((A_ b p).getD n 0).toNat,true):=by
 have hg:=Hd h p hn
 have hbu:=h.buses
 unfold Gg
 rw [Ht h hp,Gj h]
 simp only [ac]
 have key:∀ (fs:List Nat) (k:Nat),foldI (L5 (n:Int)) (fs.map (isl b p)) k ()=if ((A_ b p).getD n 0).toNat∈fs then some (.ret (isl b p ((A_ b p).getD n 0).toNat,true)) else some (.next ()):=by
  intro fs
  induction fs with
  | nil=>intro k;rfl
  | cons f fs ih=>
   intro k
   have hbl:(isl b p f).An.length<=9223372036854775807:=by
    have:=Dc (λ i=>(A_ b p).getD i 0==(f:Int)) b.An.toNat
    simp only [isl,Dz]
    omega
   simp only [bP,foldI,L5,Dr _ _ hbl,ac,Auy hn]
   by_cases e:(A_ b p).getD n 0=(f:Int)
   ·have e2:((A_ b p).getD n 0).toNat=f:=by omega
    rw [dH.2 e,e2,if_pos aj];rfl
   ·have e2:((A_ b p).getD n 0).toNat≠f:=by omega
    rw [dJ.2 e]
    simp only [cond_false]
    rw [ih]
    by_cases hm:((A_ b p).getD n 0).toNat∈fs
    ·rw [if_pos hm,if_pos (ai _ hm)]
    ·rw [if_neg hm,if_neg (λ hh=>(ah.1 hh).elim e2 hm)]
 have hm:((A_ b p).getD n 0).toNat∈Ke b p b.An.toNat:=aF.2 ⟨aZ.2 (by omega),Hv h p hn⟩
 rw [key,if_pos hm]
 rfl
theorem vZ {b:Aa} (h:Aw b) {p:Ab} (hp:Ax b p) {n:Nat} (hn:n<b.An.toNat):Y3 b p (n:Int)=some (Aoa b p n):=by
 unfold Y3
 rw [of_eq h hp hn]
 simp [Aoa]
theorem Akv {b:Aa} (h:Aw b) {s:Aj} (hs:B1 s):Ok (qS s b) λ y=>(Ax b y.1/\Fl b y.1/\y.1.Am.length<=4)/\B1 y.2:=by
 unfold qS
 refine (Ay5 h hs).bind λ y hy=>?_
 rw [Aki h hy.1.1]
 exact cV ⟨⟨I6 hy.1.1 (Hy b _) (Qo hy.1.1),J2 h hy.1.1.nso,hy.1.2⟩,hy.2⟩
theorem Ay6 {b:Aa} (h:Aw b) {s:Aj} (hs:B1 s):Ok (uA s b) λ y=>((∀ t,Fa b t y.1)/\(5<=y.1.Time/\y.1.Time<=20)/\y.1.A8=[]/\y.1.Power.Am.length<=4)/\B1 y.2:=by
 have hbu:=h.buses
 unfold uA
 refine (M5 hs 5 20 (by omega) (by omega) (by omega)).bind λ y hy=>(Akv h hy.1).bind λ z hz=>?_
 refine Ok.andThen (A:=λ s=>B1 ⟨s.2.1,s.2.2.1⟩/\s.2.2.2.length=b.An.toNat/\∀ x,x∈s.2.2.2->(-1<=x.High/\x.High<=4) /\ -1<=x.Low/\x.Low<=4) (B:=λ (_:Unit)=>False) ?_ (λ s hs=>?_) (λ _ h=>h.elim)
 ·refine cZ (λ s=>(0<=s.1/\s.1<=b.An)/\B1 ⟨s.2.1,s.2.2.1⟩/\(s.2.2.2.length:Int)=s.1/\∀ x,x∈s.2.2.2->(-1<=x.High/\x.High<=4) /\ -1<=x.Low/\x.Low<=4) (λ s=>(b.An-s.1).toNat) _ _ ?_ ?_ ?_
  ·exact⟨by dsimp only;omega,hz.2,by simp,λ x hx=>by cases hx⟩
  ·dsimp only;omega
  ·rintro⟨i,L,a,l⟩ ⟨⟨g1,g2⟩,g3,g4,g5⟩
   dsimp only at g1 g2 g3 g4 g5
   unfold Y2
   dsimp only
   refine c9 (λ hq=>?_) (λ hq=>de ?_)
   ·simp only [dF] at hq
    have e1:w64 (i+1)=i+1:=Bd (by omega)
    rw [e1]
    refine (M5 g3 (-1) 4 (by omega) (by omega) (by omega)).bind λ u hu=>(M5 hu.1 (-1) 4 (by omega) (by omega) (by omega)).bind λ v hv=>(d3 (by simp;omega)).bind λ w hw=>cW ?_
    refine⟨⟨by dsimp only;omega,hv.1,by rw [hw];simp;omega,λ x hx=>?_⟩,by dsimp only;omega⟩
    rw [hw] at hx
    rcases az.1 hx with hx | hx
    ·exact g5 x hx
    ·simp only [bz] at hx
     subst hx
     exact⟨hu.2,hv.2⟩
   ·simp only [dG] at hq
    exact⟨g3,by dsimp only;omega,g5⟩
 ·refine cV ⟨⟨λ t=>?_,hy.2,rfl,hz.1.2.2⟩,hs.1⟩
  exact {
   st:=hz.1.1
   fol:=Tf hz.1.1.nso hz.1.2.1
   time:=by have:=hy.2;dsimp only;omega
   nro:=hs.2.1
   ros:=λ x hx=>by
    have:=hs.2.2 x hx
    have:=hy.2
    unfold Er
    dsimp only
    omega}
theorem Gc {b:Aa} {i:Nat} (h:i<b.Ae.length):b.Ae[i]? = some (b.Ae.getD i default):=by
 rw [ag h];simp [List.getD,List.getElem?_eq_getElem h]
theorem Al6 {p:Ab} {i:Nat} (h:i<p.Ap.length):p.Ap[i]? = some (p.Ap.getD i 0):=by
 rw [ag h];simp [List.getD,List.getElem?_eq_getElem h]

theorem Tw {b:Aa} {p:Ab} (hp:Ax b p) {j:Nat} (hj:j<b.Ad.length):p.Ag[j]? = some (p.Ag.getD j false):=by
 have:=hp.ncl
 rw [ag (by omega)];simp [List.getD,List.getElem?_eq_getElem (show j<p.Ag.length by omega)]
theorem Auz {b:Aa} {j:Nat} {x:Ai} (hx:b.Ad[j]? = some x):b.Ad.getD j default=x:=by simp [List.getD,hx]
def Dq (p:Ab) (x:Ai):Bool:=
 brk p.Am 3 x.A || (if x.Kind=1 then brk p.Am 3 x.B else if x.Kind=2 then brk p.Am 1 x.B || ((p.Ac.getD x.B.toNat default).State != 2) else brk p.Am 4 x.B)
theorem A2f {b:Aa} {p:Ab} (hp:Ax b p) (k n:Int) (acts:List Ao):Kv k n ⟨b,p,acts⟩=some (brk p.Am k n,⟨b,p,acts⟩):=by
 have:=hp.brk.len
 unfold Kv
 rw [Ev (by dsimp only;omega)];rfl
theorem Aub {b:Aa} (h:Aw b) {p:Ab} (hp:Ax b p) (acts:List Ao) {x:Ai} (hx:x∈b.Ad):Ur ⟨b,p,acts⟩ x=some (Dq p x,⟨b,p,acts⟩):=by
 have hbr:=(h.br x hx).2
 have hns:=hp.nso
 unfold Ur Dq
 simp only [A2f hp,ac]
 cases brk p.Am 3 x.A with
 | true=>rfl
 | false=>
  simp only [cond_false,bk]
  rcases hbr with⟨hk,_⟩ | ⟨hk,h0,h1⟩ | ⟨hk,_⟩
  ·rw [hk];rfl
  ·rw [hk]
   have e:p.Ac[x.B.toNat]? = some (p.Ac.getD x.B.toNat default):=by
    rw [ag (by omega)];simp [List.getD,List.getElem?_eq_getElem (show x.B.toNat<p.Ac.length by omega)]
   have e2:getI p.Ac x.B=some (p.Ac.getD x.B.toNat default):=by
    unfold getI;rw [dK h0];exact e
   rw [e2]
   cases brk p.Am 1 x.B <;> rfl
  ·rw [hk];rfl
def C8 (b:Aa) (C:List Bool) (q:Ai->Bool) (n:Nat):List Int:=((List.range n).filter λ i=>C.getD i false&&q (b.Ad.getD i default)).map λ (i:Nat)=>(i:Int)
theorem Hw {b:Aa} {C:List Bool} {q:Ai->Bool} {n:Nat} {i:Int}:i∈C8 b C q n↔∃ k:Nat,i=(k:Int)/\k<n/\C.getD k false=true/\q (b.Ad.getD k default)=true:=by
 unfold C8
 simp only [am,aF,aZ,ae]
 constructor
 ·rintro⟨k,⟨h1,h2,h3⟩,rfl⟩;exact⟨k,rfl,h1,h2,h3⟩
 ·rintro⟨k,rfl,h1,h2,h3⟩;exact⟨k,⟨h1,h2,h3⟩,rfl⟩
theorem Gb (b:Aa) (C:List Bool) (q:Ai->Bool) (n:Nat):(C8 b C q n).length<=n:=Dc _ n
def Ga (C:List Bool) (l:List Int):List Bool:=l.foldl (λ c i=>c.set i.toNat false) C
def Lc (l:List Int):List Ao:=l.map λ i=>⟨2,i,0⟩
theorem Nt:∀ (l:List Int) (C:List Bool),(Ga C l).length=C.length
 | [],_=>rfl
 | i::l,C=>by
  show (Ga (C.set i.toNat false) l).length=_
  rw [Nt l];simp
theorem Anv (C:List Bool) (l:List Int) (i:Int):Ga C (l++[i])=(Ga C l).set i.toNat false:=by
 unfold Ga;rw [aX];rfl
theorem Abb:∀ (l:List Int) (C:List Bool) (k:Nat),(Ga C l).getD k false=(C.getD k false && !l.any λ i=>i.toNat==k)
 | [],_,_=>by simp [Ga]
 | i::l,C,k=>by
  show (Ga (C.set i.toNat false) l).getD k false=_
  rw [Abb l]
  simp only [List.any_cons]
  by_cases e:i.toNat=k
  ·subst e
   have:(C.set i.toNat false).getD i.toNat false=false:=by
    simp only [List.getD,aw]
    by_cases hl:i.toNat<C.length
    ·simp [hl]
    ·simp [hl]
   rw [this];simp
  ·have:(C.set i.toNat false).getD k false=C.getD k false:=by
    simp only [List.getD,aw,if_neg e]
   rw [this]
   have e2:(i.toNat==k)=false:=by simpa using e
   rw [e2,bk]
theorem Aft {b:Aa}:∀ (l:List Int) {p:Ab},Ax b p->Ax b ⟨Ga p.Ag l,p.Ac,p.Ap,p.Am⟩
 | [],_,hp=>hp
 | i::l,p,hp=>Aft l (p:=⟨p.Ag.set i.toNat false,p.Ac,p.Ap,p.Am⟩) (Anw hp i.toNat)
theorem Axe {b:Aa} {p:Ab} {acts:List Ao} (ha:acts.length<=1000000) {i:Int} (h0:0<=i) (h1:i<p.Ag.length):M8 ⟨b,p,acts⟩ i=some ⟨b,⟨p.Ag.set i.toNat false,p.Ac,p.Ap,p.Am⟩,acts++[⟨2,i,0⟩]⟩:=by
 refine db ?_
 unfold M8
 refine (cY h0 h1).bind λ _ _=>(da h0 h1).bind λ y hy=>(d3 (by simp;omega)).bind λ z hz=>cV ?_
 rw [hy,hz]
theorem Xu {b:Aa} {p:Ab} {acts:List Ao} {l:List Int} (ha:acts.length+l.length<=1000000) (hl:∀ i,i∈l->0<=i/\i<p.Ag.length) :
  Ok (foldI N7 l 0 (b.An,b.Ad,b.Ac,b.Ae,b.Phase,b.Aq,p.Ag,p.Ac,p.Ap,p.Am,acts)) (Dg (λ s=>s=(b.An,b.Ad,b.Ac,b.Ae,b.Phase,b.Aq,Ga p.Ag l,p.Ac,p.Ap,p.Am,acts++Lc l)) λ (_:Unit)=>False):=by
 refine cX (I:=λ j s=>s=(b.An,b.Ad,b.Ac,b.Ae,b.Phase,b.Aq,Ga p.Ag (l.take j),p.Ac,p.Ap,p.Am,acts++Lc (l.take j))) (by simp [Ga,Lc]) (λ j i s hi hs=>?_) λ s hs=>?_
 ·have hj:=(aa.1 hi).1
  have hin:=hl i (af hi)
  subst hs
  unfold N7
  have e:=Axe (b:=b) (p:=⟨Ga p.Ag (l.take j),p.Ac,p.Ap,p.Am⟩) (acts:=acts++Lc (l.take j)) (by simp [Lc];omega) hin.1 (by rw [Nt];exact hin.2)
  refine Ok.bind (P:=λ y=>y=_) (d7 e rfl) λ y hy=>cW ?_
  subst hy
  rw [Bj hi,Anv]
  simp [Lc]
 ·rw [aI] at hs;exact hs
def acA (b:Aa) (C:List Bool) (q:Ai->Bool):List Ao:=Lc (C8 b C q b.Ad.length)
def acC (b:Aa) (C:List Bool) (q:Ai->Bool):List Bool:=Ga C (C8 b C q b.Ad.length)
theorem V8 (b:Aa) (C:List Bool) (q:Ai->Bool):(acA b C q).length<=b.Ad.length:=by
 unfold acA Lc
 rw [au];exact Gb b C q _
theorem Ahr {b:Aa} {p:Ab} (hp:Ax b p) (q:Ai->Bool):Ax b ⟨acC b p.Ag q,p.Ac,p.Ap,p.Am⟩:=Aft _ hp
theorem A2l (b:Aa) (C:List Bool) (q:Ai->Bool) {k:Nat} (hk:k<b.Ad.length):(acC b C q).getD k false=(C.getD k false && !q (b.Ad.getD k default)):=by
 unfold acC
 rw [Abb]
 cases hc:C.getD k false with
 | false=>rfl
 | true=>
  rw [bi,bi]
  congr 1
  rw [bR,List.any_eq_true]
  constructor
  ·rintro⟨i,hi,e⟩
   obtain⟨m,rfl,_,_,hq⟩:=Hw.1 hi
   have:m=k:=by simpa using e
   subst this;exact hq
  ·intro hq
   exact⟨(k:Int),Hw.2 ⟨k,rfl,hk,hc,hq⟩,by simp⟩
theorem Qm {b:Aa} {C:List Bool} {q:Ai->Bool} {j:Nat} {x:Ai} (hx:b.Ad[j]? = some x):C8 b C q (j+1)=C8 b C q j++if (C.getD j false&&q x)=true then [(j:Int)] else []:=by
 unfold C8
 rw [Ff,Auz hx]
theorem Aq3 {b:Aa} (h:Aw b) {p:Ab} (hp:Ax b p) {acts:List Ao} (ha:acts.length<=1000):Ux ⟨b,p,acts⟩=some ⟨b,⟨acC b p.Ag (Dq p),p.Ac,p.Ap,p.Am⟩,acts++acA b p.Ag (Dq p)⟩:=by
 have hbl:=h.brl
 have hnc:=hp.ncl
 refine db ?_
 unfold Ux
 refine Ok.andThen (A:=λ s=>s=(b.An,b.Ad,b.Ac,b.Ae,b.Phase,b.Aq,C8 b p.Ag (Dq p) b.Ad.length,p.Ag,p.Ac,p.Ap,p.Am,acts)) (B:=λ (_:Unit)=>False) ?_ (λ s hs=>?_) (λ _ h=>h.elim)
 ·refine cX (I:=λ j s=>s=(b.An,b.Ad,b.Ac,b.Ae,b.Phase,b.Aq,C8 b p.Ag (Dq p) j,p.Ag,p.Ac,p.Ap,p.Am,acts)) rfl (λ j x s hx hs=>?_) λ s hs=>hs
  have hj:j<b.Ad.length:=(aa.1 hx).1
  have hfl:=Gb b p.Ag (Dq p) j
  have hfs:=Qm (C:=p.Ag) (q:=Dq p) hx
  subst hs
  unfold Uw
  rw [Cr (by omega),Bi (Tw hp hj)]
  simp only [ac]
  have hd:=Aub h hp acts (af hx)
  cases hC:p.Ag.getD j false with
  | false=>
   rw [hC] at hfs
   refine cW ?_
   rw [hfs];simp
  | true=>
   rw [hC] at hfs
   refine Ok.bind (P:=λ y=>y=(Dq p x,(⟨b,p,acts⟩:Ay))) (d7 hd rfl) λ y hy=>?_
   subst hy
   cases hq:Dq p x with
   | false=>
    rw [hq] at hfs
    refine cW ?_
    rw [hfs];simp
   | true=>
    rw [hq] at hfs
    refine Ok.bind (P:=λ y=>y=C8 b p.Ag (Dq p) j++[(j:Int)]) (d3 (by simp;omega)) λ y hy=>cW ?_
    rw [hy,hfs];simp
 ·subst hs
  have hfl:=Gb b p.Ag (Dq p) b.Ad.length
  refine Ok.andThen (Xu (b:=b) (p:=p) (acts:=acts) (l:=C8 b p.Ag (Dq p) b.Ad.length) (by omega) λ i hi=>?_) (λ s hs=>?_) (λ _ h=>h.elim)
  ·obtain⟨k,rfl,hk,_⟩:=Hw.1 hi
   omega
  ·subst hs
   exact cV rfl
def Fh (b:Aa) (p:Ab) (x:Ai):Bool:=x.Kind==3 && !Aoa b p x.A.toNat
theorem A17 {b:Aa} (h:Aw b) {p:Ab} (hp:Ax b p) (acts:List Ao) {x:Ai} (hx:x∈b.Ad):Uq x ⟨b,p,acts⟩=some (Fh b p x,⟨b,p,acts⟩):=by
 have hA:=(h.br x hx).1
 have hl:=vZ h hp (n:=x.A.toNat) (by omega)
 rw [bQ hA.1] at hl
 unfold Uq Fh
 rw [hl]
 cases x.Kind==3 <;> rfl
theorem Aq2 {b:Aa} (h:Aw b) {p:Ab} (hp:Ax b p) {acts:List Ao} (ha:acts.length<=1000):Uv ⟨b,p,acts⟩=some ⟨b,⟨acC b p.Ag (Fh b p),p.Ac,p.Ap,p.Am⟩,acts++acA b p.Ag (Fh b p)⟩:=by
 have hbl:=h.brl
 have hnc:=hp.ncl
 refine db ?_
 unfold Uv
 refine Ok.andThen (A:=λ s=>s=(b.An,b.Ad,b.Ac,b.Ae,b.Phase,b.Aq,C8 b p.Ag (Fh b p) b.Ad.length,p.Ag,p.Ac,p.Ap,p.Am,acts)) (B:=λ (_:Unit)=>False) ?_ (λ s hs=>?_) (λ _ h=>h.elim)
 ·refine cX (I:=λ j s=>s=(b.An,b.Ad,b.Ac,b.Ae,b.Phase,b.Aq,C8 b p.Ag (Fh b p) j,p.Ag,p.Ac,p.Ap,p.Am,acts)) rfl (λ j x s hx hs=>?_) λ s hs=>hs
  have hj:j<b.Ad.length:=(aa.1 hx).1
  have hfl:=Gb b p.Ag (Fh b p) j
  have hfs:=Qm (C:=p.Ag) (q:=Fh b p) hx
  subst hs
  unfold Uu
  rw [Cr (by omega),Bi (Tw hp hj)]
  simp only [ac]
  have hd:=A17 h hp acts (af hx)
  cases hC:p.Ag.getD j false with
  | false=>
   rw [hC] at hfs
   refine cW ?_
   rw [hfs];simp
  | true=>
   rw [hC] at hfs
   refine Ok.bind (P:=λ y=>y=(Fh b p x,(⟨b,p,acts⟩:Ay))) (d7 hd rfl) λ y hy=>?_
   subst hy
   cases hq:Fh b p x with
   | false=>
    rw [hq] at hfs
    refine cW ?_
    rw [hfs];simp
   | true=>
    rw [hq] at hfs
    refine Ok.bind (P:=λ y=>y=C8 b p.Ag (Fh b p) j++[(j:Int)]) (d3 (by simp;omega)) λ y hy=>cW ?_
    rw [hy,hfs];simp
 ·subst hs
  have hfl:=Gb b p.Ag (Fh b p) b.Ad.length
  refine Ok.andThen (Xu (b:=b) (p:=p) (acts:=acts) (l:=C8 b p.Ag (Fh b p) b.Ad.length) (by omega) λ i hi=>?_) (λ s hs=>?_) (λ _ h=>h.elim)
  ·obtain⟨k,rfl,hk,_⟩:=Hw.1 hi
   omega
  ·subst hs
   exact cV rfl
def Tv (b:Aa) (p:Ab):Ab:=⟨acC b p.Ag (Dq p),p.Ac,p.Ap,p.Am⟩
def Ayj (b:Aa) (p:Ab):Ab:=⟨acC b (Tv b p).Ag (Fh b (Tv b p)),p.Ac,p.Ap,p.Am⟩
def J3 (b:Aa) (p:Ab):Ab:=⟨(Ayj b p).Ag,Ec b (Ayj b p),p.Ap,p.Am⟩
def Tu (b:Aa) (p:Ab):List Ao:=acA b p.Ag (Dq p)++acA b (Tv b p).Ag (Fh b (Tv b p))
theorem Amd {b:Aa} {p:Ab} (hp:Ax b p):Ax b (Tv b p):=Ahr hp _
theorem V5 {b:Aa} {p:Ab} (hp:Ax b p):Ax b (Ayj b p):=Ahr (Amd hp) _
theorem V4 {b:Aa} {p:Ab} (hp:Ax b p):Ax b (J3 b p):=I6 (V5 hp) (Hy b _) (Qo (V5 hp))
theorem Aoy {b:Aa} (h:Aw b) {p:Ab} (hp:Ax b p):Fl b (J3 b p):=J2 h (V5 hp).nso
theorem Ag8 (b:Aa) (p:Ab):(Tu b p).length<=2*b.Ad.length:=by
 have h1:=V8 b p.Ag (Dq p)
 have h2:=V8 b (Tv b p).Ag (Fh b (Tv b p))
 unfold Tu
 rw [aA];omega
theorem Ayl {b:Aa} (h:Aw b) {p:Ab} (hp:Ax b p):U5 ⟨b,p,[]⟩=some ⟨b,J3 b p,Tu b p⟩:=by
 have hbl:=h.brl
 have hl:=V8 b p.Ag (Dq p)
 unfold U5
 rw [Aq3 h hp (by simp)]
 simp only [ac,bI]
 have e2:=Aq2 h (Amd hp) (acts:=acA b p.Ag (Dq p)) (by omega)
 have e3:=Te h (V5 hp)
 refine db ?_
 refine Ok.bind (P:=λ y=>y=_) (d7 e2 rfl) λ y hy=>?_
 subst hy
 refine Ok.bind (P:=λ y=>y=_) (d7 e3 rfl) λ y hy=>?_
 subst hy
 exact cV rfl
def key (b:Aa) (c:Int):Int:=(b.Ae.getD c.toNat default).Bm*100+c
theorem Tc {l:List Int} {m k:Nat} {v:Int}:(l.set m v).getD k 0=if m=k/\m<l.length then v else l.getD k 0:=by
 simp only [List.getD,aw]
 by_cases e:m=k
 ·subst e
  by_cases hl:m<l.length
  ·simp [hl]
  ·simp [hl]
 ·simp [e]
theorem Tb {l:List Int} {k:Nat} (h:k<l.length):getI l (k:Int)=some (l.getD k 0):=Bi (by
 rw [ag h];simp [List.getD,List.getElem?_eq_getElem h])
structure Srt (b:Aa) (n i:Nat) (d:List Int):Prop where
 len:d.length=n
 low:∀ k,k<i->k<n->0<=d.getD k 0/\d.getD k 0<(i:Int)
 asc:∀ k m,k<m->m<i->m<n->key b (d.getD k 0)<key b (d.getD m 0)
 rest:∀ k,i<=k->k<n->d.getD k 0=(k:Int)
 mem:∀ v,v<n->∃ k,k<n/\d.getD k 0=(v:Int)
structure Ins (b:Aa) (n i j:Nat) (d:List Int):Prop where
 len:d.length=n
 here:d.getD j 0=(i:Int)
 low:∀ k,k<=i->k≠j->0<=d.getD k 0/\d.getD k 0<(i:Int)
 asc:∀ k m,k<m->m<=i->k≠j->m≠j->key b (d.getD k 0)<key b (d.getD m 0)
 big:∀ k,j<k->k<=i->key b (i:Int)<key b (d.getD k 0)
 rest:∀ k,i<k->k<n->d.getD k 0=(k:Int)
 mem:∀ v,v<n->∃ k,k<n/\d.getD k 0=(v:Int)
theorem Srt.ins {b:Aa} {n i:Nat} {d:List Int} (h:Srt b n i d) (hi:i<n):Ins b n i i d where
 len:=h.len
 here:=h.rest i (an _) hi
 low k hk hne:=h.low k (by omega) (by omega)
 asc k m hkm hm hk hm2:=h.asc k m hkm (by omega) (by omega)
 big k h1 h2:=by omega
 rest k h1 h2:=h.rest k (by omega) h2
 mem:=h.mem
theorem Ins.done {b:Aa} {n i j:Nat} {d:List Int} (h:Ins b n i j d) (hj:j<=i) (hk:0<j->key b (d.getD (j-1) 0)<key b (i:Int)):Srt b n (i+1) d:=by
 refine⟨h.len,λ k h1 h2=>?_,λ k m hkm hm hn=>?_,λ k h1 h2=>h.rest k (by omega) h2,h.mem⟩
 ·by_cases e:k=j
  ·rw [e,h.here];omega
  ·have:=h.low k (by omega) e
   omega
 ·have lo:∀ k,k<j->key b (d.getD k 0)<key b (i:Int):=λ k hkj=>by
   have h3:=hk (by omega)
   by_cases e:k=j-1
   ·rw [e];exact h3
   ·have:=h.asc k (j-1) (by omega) (by omega) (by omega) (by omega)
    omega
  by_cases e:k=j
  ·subst e
   rw [h.here]
   exact h.big m hkm (by omega)
  ·by_cases e2:m=j
   ·subst e2
    rw [h.here]
    exact lo k hkm
   ·exact h.asc k m hkm (by omega) e e2
theorem Ins.step {b:Aa} {n i j:Nat} {d:List Int} (h:Ins b n i j d) (hj:j<=i) (h0:0<j) (hi:i<n) (hk:key b (i:Int)<key b (d.getD (j-1) 0)):Ins b n i (j-1) ((d.set j (d.getD (j-1) 0)).set (j-1) (i:Int)):=by
 have hl:=h.len
 have ev:∀ k,((d.set j (d.getD (j-1) 0)).set (j-1) (i:Int)).getD k 0=if k=j-1 then (i:Int) else if k=j then d.getD (j-1) 0 else d.getD k 0:=λ k=>by
  rw [Tc,Tc,bH]
  by_cases e1:k=j-1
  ·have c1:j-1=k/\j-1<d.length:=⟨e1.symm,by omega⟩
   rw [if_pos c1,if_pos e1]
  ·have c1:¬(j-1=k/\j-1<d.length):=λ hh=>e1 hh.1.symm
   rw [if_neg c1,if_neg e1]
   by_cases e2:k=j
   ·have c2:j=k/\j<d.length:=⟨e2.symm,by omega⟩
    rw [if_pos c2,if_pos e2]
   ·have c2:¬(j=k/\j<d.length):=λ hh=>e2 hh.1.symm
    rw [if_neg c2,if_neg e2]
 refine⟨by simp [hl],?_,λ k h1 h2=>?_,λ k m hkm hm hk1 hm1=>?_,λ k h1 h2=>?_,λ k h1 h2=>?_,λ v hv=>?_⟩
 ·rw [ev,if_pos rfl]
 ·rw [ev,if_neg h2]
  split
  ·exact h.low (j-1) (by omega) (by omega)
  ·exact h.low k h1 (by omega)
 ·rw [ev,ev,if_neg hk1,if_neg hm1]
  by_cases e1:k=j
  ·rw [if_pos e1,if_neg (by omega)]
   subst e1
   exact h.asc (k-1) m (by omega) hm (by omega) (by omega)
  ·rw [if_neg e1]
   by_cases e2:m=j
   ·rw [if_pos e2]
    exact h.asc k (j-1) (by omega) (by omega) e1 (by omega)
   ·rw [if_neg e2]
    exact h.asc k m hkm hm e1 e2
 ·rw [ev,if_neg (by omega)]
  split
  ·exact hk
  ·exact h.big k (by omega) h2
 ·rw [ev,if_neg (by omega),if_neg (by omega)]
  exact h.rest k h1 h2
 ·obtain⟨k,hk1,hk2⟩:=h.mem v hv
  by_cases e1:k=j
  ·refine⟨j-1,by omega,?_⟩
   rw [ev,if_pos rfl,←hk2,e1,h.here]
  ·by_cases e2:k=j-1
   ·refine⟨j,by omega,?_⟩
    rw [ev,if_neg (by omega),if_pos rfl,←hk2,e2]
   ·refine⟨k,hk1,?_⟩
    rw [ev,if_neg e2,if_neg e1];exact hk2
theorem Asy {b:Aa} {x y:Nat} (hx:x<b.Ae.length) (hy:y<b.Ae.length):M7 (x:Int) (y:Int) b=some (if (b.Ae.getD x default).Bm<(b.Ae.getD y default).Bm then -1 else if (b.Ae.getD x default).Bm>(b.Ae.getD y default).Bm then 1 else 0):=by
 unfold M7
 rw [Bi (Gc hx),Bi (Gc hy)]
 simp only [ac,Ag7]
theorem Ax3 {b:Aa} (h:Aw b) {i:Nat} (hi:i<b.Ae.length) {d:List Int} (hd:Ins b b.Ae.length i i d) :
  Ok (whileN (N3 0 b) 1152921504606846976 ((i:Int),d)) (Dg (λ s=>Srt b b.Ae.length (i+1) s.2) λ (_:Unit)=>False):=by
 have hcl:=h.col
 refine cZ (λ s=>∃ j:Nat,s.1=(j:Int)/\j<=i/\Ins b b.Ae.length i j s.2) (λ s=>s.1.toNat) _ _ ⟨i,rfl,an _,hd⟩ (by dsimp only;omega) ?_
 rintro⟨z,d⟩ ⟨j,hz,hj,hI⟩
 dsimp only at hz hI
 subst hz
 have hl:=hI.len
 unfold N3
 dsimp only
 by_cases h0:0<j
 ·have e1:decide ((j:Int)>0)=true:=dK (by omega)
  have e2:w64 ((j:Int)-1)=((j-1:Nat):Int):=by rw [Bd (by omega)];omega
  have hlow:=hI.low (j-1) (by omega) (by omega)
  obtain⟨v,hv⟩:∃ v:Nat,d.getD (j-1) 0=(v:Int):=⟨(d.getD (j-1) 0).toNat,by omega⟩
  have hvi:v<i:=by omega
  have ec:=Asy (b:=b) hi (show v<b.Ae.length by omega)
  have g1:A3 [(decide ((j:Int)>0),true)] (getI d (j:Int)) default=some (i:Int):=by
   rw [e1,Tb (by omega),hI.here];rfl
  have g2:A3 [(decide ((j:Int)>0),true)] (getI d (w64 ((j:Int)-1))) default=some (v:Int):=by
   rw [e1,e2,Tb (by omega),hv];rfl
  rw [g1,g2]
  simp only [ac]
  have g3:A3 [(decide ((j:Int)>0),true)] (M7 (i:Int) (v:Int) b) default=M7 (i:Int) (v:Int) b:=by rw [e1];rw [ec];rfl
  rw [g3,ec]
  simp only [ac]
  have hci:=h.co i _ (Gc hi)
  have hcv:=h.co v _ (Gc (show v<b.Ae.length by omega))
  have ki:key b (i:Int)=(b.Ae.getD i default).Bm*100+(i:Int):=by unfold key;rw [aH]
  have kv:key b (v:Int)=(b.Ae.getD v default).Bm*100+(v:Int):=by unfold key;rw [aH]
  refine c9 (λ hq=>?_) (λ hq=>?_)
  ·simp only [Yc,ae,dF] at hq
   have hlt:(b.Ae.getD i default).Bm<(b.Ae.getD v default).Bm:=by
    have:=hq.2
    split at this
    ·assumption
    ·split at this <;> omega
   have e3:getI d (w64 ((j:Int)-1))=some (d.getD (j-1) 0):=by rw [e2,Tb (by omega)]
   have e4:getI d (j:Int)=some (i:Int):=by rw [Tb (by omega),hI.here]
   rw [e3,e4]
   simp only [ac]
   rw [e2,Mb (by omega)]
   simp only [ac]
   rw [Tb (by rw [bH];omega)]
   simp only [ac]
   rw [Mb (by rw [bH];omega)]
   simp only [ac]
   refine cW ⟨⟨j-1,rfl,by omega,hI.step hj h0 hi ?_⟩,by dsimp only;omega⟩
   rw [hv,ki,kv];omega
  ·refine de (hI.done hj λ _=>?_)
   simp only [Yc,Bool.and_eq_false_iff,dG] at hq
   have hge:¬(b.Ae.getD i default).Bm<(b.Ae.getD v default).Bm:=by
    intro hlt
    rw [if_pos hlt] at hq
    omega
   rw [hv,ki,kv];omega
 ·have h00:j=0:=by omega
  subst h00
  exact de (hI.done hj λ hh=>by omega)
theorem A04 {b:Aa} (h:Aw b) {d:List Int} (hd:Srt b b.Ae.length 0 d):Ok (Ud d b) λ y=>Srt b b.Ae.length b.Ae.length y.1:=by
 have hcl:=h.col
 have hl:=hd.len
 unfold Ud qU
 rw [hl]
 refine Ok.bind (P:=λ y=>Srt b b.Ae.length b.Ae.length y.1) ?_ λ y hy=>cV hy
 refine Ok.andThen (A:=λ s=>s=((0:Int),(20:Int),d,b.An,b.Ad,b.Ac,b.Ae,b.Phase,b.Aq)) (B:=λ (_:Unit)=>False) ?_ (λ s hs=>?_) (λ _ h=>h.elim)
 ·refine cZ (λ s=>s=((0:Int),(20:Int),d,b.An,b.Ad,b.Ac,b.Ae,b.Phase,b.Aq)) (λ _=>0) _ _ rfl (by omega) ?_
  intro s hs
  subst hs
  unfold Ub
  dsimp only
  refine c9 (λ hq=>?_) (λ _=>de rfl)
  simp only [dF] at hq
  omega
 ·subst hs
  dsimp only
  refine Ok.bind (P:=λ y=>Srt b b.Ae.length b.Ae.length y.1) ?_ λ y hy=>?_
  ·unfold T_
   have e1:w64 (0+1)=1:=by rw [Bd (by omega)];rfl
   rw [e1]
   refine Ok.andThen (A:=λ s=>Srt b b.Ae.length b.Ae.length s.2) (B:=λ (_:Unit)=>False) ?_ (λ s hs=>cV hs) (λ _ h=>h.elim)
   refine cZ (λ s=>∃ i:Nat,s.1=(i:Int)/\1<=i/\(i<=b.Ae.length\/b.Ae.length=0)/\Srt b b.Ae.length i s.2) (λ s=>(100-s.1).toNat) _ _ ⟨1,rfl,by omega,by omega,?_⟩ (by dsimp only;omega) ?_
   ·refine⟨hl,λ k h1 h2=>?_,λ k m h1 h2 h3=>by omega,λ k h1 h2=>hd.rest k (by omega) h2,hd.mem⟩
    have:k=0:=by omega
    subst this
    have:=hd.rest 0 (an _) h2
    dsimp only
    rw [this];omega
   ·rintro⟨z,d'⟩ ⟨i,hz,h1,h2,hS⟩
    dsimp only at hz hS
    subst hz
    unfold T9
    dsimp only
    refine c9 (λ hq=>?_) (λ hq=>de ?_)
    ·simp only [dF] at hq
     have hin:i<b.Ae.length:=by omega
     refine Ok.inner (Ax3 h hin (hS.ins hin)) (λ s hs=>?_) (λ _ h=>h.elim)
     have e2:w64 ((i:Int)+1)=((i+1:Nat):Int):=by rw [Bd (by omega)];omega
     rw [e2]
     exact cW ⟨⟨i+1,rfl,by omega,by omega,hs⟩,by dsimp only;omega⟩
    ·simp only [dG] at hq
     dsimp only
     have hge:b.Ae.length<=i:=by omega
     refine⟨hS.len,λ k g1 g2=>?_,λ k m g1 g2 g3=>hS.asc k m g1 (by omega) g3,λ k g1 g2=>by omega,hS.mem⟩
     obtain⟨w1,w2⟩:=hS.low k (by omega) g2
     exact⟨w1,by omega⟩
  ·refine Ok.andThen (A:=λ _=>True) (B:=λ (_:Unit)=>False) ?_ (λ s hs=>cV hy) (λ _ h=>h.elim)
   refine cZ (λ _=>True) (λ _=>0) _ _ trivial (by omega) ?_
   intro s _
   unfold Ua
   refine c9 (λ hq=>?_) (λ _=>de trivial)
   simp only [dF] at hq
   omega
def Mk (b:Aa):List Int:=(Y0 b).getD []
theorem Xt {b:Aa} (h:Aw b):Y0 b=some (Mk b)/\Srt b b.Ae.length b.Ae.length (Mk b):=by
 have hcl:=h.col
 have key:Ok (Y0 b) λ y=>Srt b b.Ae.length b.Ae.length y:=by
  unfold Y0
  rw [Ag9 h]
  simp only [ac]
  refine c9 (λ hc=>by simp at hc) (λ _=>?_)
  refine Ok.andThen (A:=λ s=>s.2=Ck b.Ae.length) (B:=λ (_:Unit)=>False) ?_ (λ s hs=>?_) (λ _ h=>h.elim)
  ·refine cZ (λ s=>∃ i:Nat,s.1=(i:Int)/\i<=b.Ae.length/\s.2=Ck i) (λ s=>(100-s.1).toNat) _ _ ⟨0,rfl,by omega,rfl⟩ (by dsimp only;omega) ?_
   rintro⟨z,d⟩ ⟨i,hz,h1,h2⟩
   dsimp only at hz h2
   subst hz
   subst h2
   unfold zI Aul
   dsimp only
   refine c9 (λ hq=>?_) (λ hq=>de ?_)
   ·simp only [dF] at hq
    refine (d3 (by simp [Ck];omega)).bind λ y hy=>?_
    have e2:w64 ((i:Int)+1)=((i+1:Nat):Int):=by rw [Bd (by omega)];omega
    rw [e2]
    refine cW ⟨⟨i+1,rfl,by omega,?_⟩,by dsimp only;omega⟩
    dsimp only
    rw [hy]
    unfold Ck
    rw [cm,bE];rfl
   ·simp only [dG] at hq
    have:i=b.Ae.length:=by omega
    subst this;rfl
  ·rw [hs]
   refine (A04 h ?_).bind λ y hy=>cV hy
   refine⟨by simp [Ck],λ k h1=>by omega,λ k m _ h1=>by omega,λ k _ h2=>Kl h2,λ v hv=>⟨v,hv,Kl hv⟩⟩
 obtain⟨r,e,hr⟩:=key
 have:Mk b=r:=by unfold Mk;rw [e];rfl
 rw [this]
 exact⟨e,hr⟩
theorem A21 {b:Aa} (h:Aw b) {c:Int} (hc:c∈Mk b):0<=c/\c<b.Ae.length:=by
 have hs:=(Xt h).2
 obtain⟨k,hk⟩:=List.mem_iff_getElem?.1 hc
 have hlt:=(aa.1 hk).1
 have:=hs.low k (by have:=hs.len;omega) (by have:=hs.len;omega)
 have e:(Mk b).getD k 0=c:=by simp [List.getD,hk]
 rwa [e] at this
theorem Aly {b:Aa} (h:Aw b):(Mk b).length=b.Ae.length:=(Xt h).2.len
def R6 (L:List Int) (l:List Int):Int:=l.foldl (λ s c=>s+L.getD c.toNat 0) 0
theorem Aaf (L:List Int) (l:List Int) (c:Int):R6 L (l++[c])=R6 L l+L.getD c.toNat 0:=by
 unfold R6;rw [aX];rfl
def Gy (b:Aa) (p:Ab) (n:Nat):Nat:=((A_ b p).getD n 0).toNat
def G3 (b:Aa) (p:Ab) (n:Nat):Int:=if 0<(isl b p (Gy b p n)).Ac.length then R6 p.Ap (isl b p (Gy b p n)).Ae else 0
def Acu (b:Aa):List Int:=b.Ac.map (·.Rating)
def Mg (b:Aa) (p:Ab) (n:Nat):Int:=R6 (Acu b) (isl b p (Gy b p n)).Ac
theorem A1p {b:Aa} {p:Ab} {f:Nat} {i:Int} (hi:i∈(isl b p f).Ae):0<=i/\i<b.Ae.length:=by
 obtain⟨k,hk,rfl⟩:=am.1 hi
 have:=aZ.1 (aF.1 hk).1
 omega
theorem Vw {b:Aa} {p:Ab} {f:Nat} {i:Int} (hi:i∈(isl b p f).Ac):0<=i/\i<b.Ac.length:=by
 obtain⟨k,hk,rfl⟩:=am.1 hi
 have:=aZ.1 (aF.1 hk).1
 omega
theorem Af5 {b:Aa} (h:Aw b) {p:Ab} (hp:Ax b p) {c:Int} (h0:0<=c) (h1:c<b.Ae.length):getI p.Ap c=some (p.Ap.getD c.toNat 0)/\0<=p.Ap.getD c.toNat 0/\p.Ap.getD c.toNat 0<=(b.Ae.getD c.toNat default).Load/\p.Ap.getD c.toNat 0<=50000:=by
 have hn:=hp.nli
 obtain⟨k,rfl⟩:∃ k:Nat,c=(k:Int):=⟨c.toNat,by omega⟩
 rw [aH]
 have hg:=Gc (b:=b) (i:=k) (by omega)
 have hl:=hp.lim k _ _ (Al6 (p:=p) (by omega)) hg
 have hc:=(h.co k _ hg).1
 exact⟨Bi (Al6 (by omega)),hl.1,hl.2,by omega⟩
theorem A91 {b:Aa} {c:Int} (h0:0<=c) (h1:c<b.Ae.length):getI b.Ae c=some (b.Ae.getD c.toNat default):=by
 obtain⟨k,rfl⟩:∃ k:Nat,c=(k:Int):=⟨c.toNat,by omega⟩
 rw [aH]
 exact Bi (Gc (by omega))
theorem Vu {b:Aa} (h:Aw b) {p:Ab} (hp:Ax b p) {n:Nat} (hn:n<b.An.toNat):Ui b p (n:Int)=some (G3 b p n)/\0<=G3 b p n/\G3 b p n<=800000:=by
 have hcl:=h.col
 have hlen:(isl b p (Gy b p n)).Ae.length<=b.Ae.length:=Dc _ _
 have key:Ok (Ui b p (n:Int)) λ y=>y=G3 b p n/\0<=G3 b p n/\G3 b p n<=800000:=by
  unfold Ui
  have hof:Gg b p (n:Int)=some (isl b p (Gy b p n),true):=of_eq h hp hn
  rw [hof]
  simp only [ac]
  refine Ok.andThen (A:=λ s=>s=G3 b p n/\0<=G3 b p n/\G3 b p n<=800000) (B:=λ (_:Unit)=>False) ?_ (λ s hs=>cV hs) (λ _ h=>h.elim)
  by_cases hs:0<(isl b p (Gy b p n)).Ac.length
  ·refine cX (I:=λ j s=>s=R6 p.Ap ((isl b p (Gy b p n)).Ae.take j)/\0<=s/\s<=50000*(j:Int)) ⟨rfl,by omega,by omega⟩ (λ j c s hc hI=>?_) λ s hI=>?_
   ·obtain⟨h1,h2,h3⟩:=hI
    have hj:j<(isl b p (Gy b p n)).Ae.length:=(aa.1 hc).1
    have hcm:=A1p (af hc)
    obtain⟨g1,g2,g3,g4⟩:=Af5 h hp hcm.1 hcm.2
    unfold Wj
    have e:decide (((isl b p (Gy b p n)).Ac.length:Int)>0)=true:=dK (by omega)
    show Ok (bif decide (((isl b p (Gy b p n)).Ac.length:Int)>0) then _ else _) _
    rw [e,g1]
    simp only [cond_true,ac]
    rw [Bd (by omega)]
    refine cW ⟨?_,by omega,by omega⟩
    rw [Bj hc,Aaf,h1]
   ·rw [aI] at hI
    have e:G3 b p n=R6 p.Ap (isl b p (Gy b p n)).Ae:=by unfold G3;rw [if_pos hs]
    rw [e,←hI.1]
    exact⟨rfl,hI.2.1,by omega⟩
  ·have e:G3 b p n=0:=by unfold G3;rw [if_neg hs]
   rw [e]
   refine cX (I:=λ _ s=>s=0) rfl (λ j c s hc hI=>?_) λ s hI=>⟨hI,by omega,by omega⟩
   unfold Wj
   have e:decide (((isl b p (Gy b p n)).Ac.length:Int)>0)=false:=decide_eq_false (by omega)
   show Ok (bif decide (((isl b p (Gy b p n)).Ac.length:Int)>0) then _ else _) _
   rw [e]
   exact cW hI
 obtain⟨r,e,h1,h2⟩:=key
 rw [h1] at e
 exact⟨e,h2⟩
theorem Nr {b:Aa} (h:Aw b) {p:Ab} (hp:Ax b p) {n:Nat} (hn:n<b.An.toNat):Uj b p (n:Int)=some (Mg b p n)/\0<=Mg b p n/\Mg b p n<=400000:=by
 have hcl:=h.sol
 have hlen:(isl b p (Gy b p n)).Ac.length<=b.Ac.length:=Dc _ _
 have key:Ok (Uj b p (n:Int)) λ y=>y=Mg b p n/\0<=Mg b p n/\Mg b p n<=400000:=by
  unfold Uj
  have hof:Gg b p (n:Int)=some (isl b p (Gy b p n),true):=of_eq h hp hn
  rw [hof]
  simp only [ac]
  refine Ok.andThen (A:=λ s=>s=Mg b p n/\0<=Mg b p n/\Mg b p n<=400000) (B:=λ (_:Unit)=>False) ?_ (λ s hs=>cV hs) (λ _ h=>h.elim)
  refine cX (I:=λ j s=>s=R6 (Acu b) ((isl b p (Gy b p n)).Ac.take j)/\0<=s/\s<=50000*(j:Int)) ⟨rfl,by omega,by omega⟩ (λ j c s hc hI=>?_) λ s hI=>?_
  ·obtain⟨h1,h2,h3⟩:=hI
   have hj:j<(isl b p (Gy b p n)).Ac.length:=(aa.1 hc).1
   have hcm:=Vw (af hc)
   unfold zH
   refine (cY hcm.1 hcm.2).bind λ y hy=>?_
   have hr:=(h.so y (af hy)).1
   have e:(Acu b).getD c.toNat 0=y.Rating:=by simp [Acu,List.getD,hy]
   rw [Bd (by omega)]
   refine cW ⟨?_,by omega,by omega⟩
   rw [Bj hc,Aaf,h1,e]
  ·rw [aI] at hI
   unfold Mg
   rw [←hI.1]
   exact⟨rfl,hI.2.1,by omega⟩
 obtain⟨r,e,h1,h2⟩:=key
 rw [h1] at e
 exact⟨e,h2⟩
def Mw (b:Aa) (p:Ab) (n:Nat):Int:=max 0 (G3 b p n-Mg b p n)
theorem Abe {b:Aa} (h:Aw b) {p:Ab} (hp:Ax b p) (acts:List Ao) {n:Nat} (hn:n<b.An.toNat):Pj ⟨b,p,acts⟩ (n:Int)=some (Mw b p n):=by
 obtain⟨h1,h2,h3⟩:=Vu h hp hn
 obtain⟨h4,h5,h6⟩:=Nr h hp hn
 unfold Pj
 simp only [h1,h4,ac]
 rw [Bd (by omega)];rfl
theorem A12 {b:Aa} (h:Aw b) {p:Ab} (hp:Ax b p) {n:Nat} (hn:n<b.An.toNat):0<=Mw b p n/\Mw b p n<=800000:=by
 obtain⟨h1,h2,h3⟩:=Vu h hp hn
 obtain⟨h4,h5,h6⟩:=Nr h hp hn
 unfold Mw
 omega
def B2 (p:Ab) (L:List Int):Ab:=⟨p.Ag,p.Ac,L,p.Am⟩
def D2 (p:Ab) (C:List Bool):Ab:=⟨C,p.Ac,p.Ap,p.Am⟩
def G4 (b:Aa) (p:Ab) (n:Nat) (c:Int):Int:=min (Mw b p n) (p.Ap.getD c.toNat 0-(b.Ae.getD c.toNat default).Least)
def Od (b:Aa) (p:Ab) (n:Nat) (z:List Int×List Ao) (c:Int):List Int×List Ao:=
 if 0<G4 b (B2 p z.1) n c then (z.1.set c.toNat (z.1.getD c.toNat 0-G4 b (B2 p z.1) n c),z.2++[⟨5,c,z.1.getD c.toNat 0-G4 b (B2 p z.1) n c⟩]) else z
def Ik (b:Aa) (p:Ab) (n:Nat) (l:List Int) (z:List Int×List Ao):List Int×List Ao:=l.foldl (Od b p n) z
theorem Aak {b:Aa} {p:Ab} (hp:Ax b p) {c:Nat} {v:Int} (hv:0<=v/\v<=(b.Ae.getD c default).Load):Ax b (B2 p (p.Ap.set c v)) where
 ncl:=hp.ncl
 nso:=hp.nso
 nli:=by simp [B2,hp.nli]
 run:=hp.run
 lim i n x hn hx:=by
  simp only [B2,aw] at hn
  by_cases e:c=i
  ·subst e
   have ex:b.Ae.getD c default=x:=by simp [List.getD,hx]
   rw [ex] at hv
   rw [if_pos rfl] at hn
   split at hn
   ·cases hn;exact hv
   ·cases hn
  ·rw [if_neg e] at hn
   exact hp.lim i n x hn hx
 one:=hp.one
 brk:=hp.brk
theorem Al5 {b:Aa} (h:Aw b) {p:Ab} {n:Nat} {z:List Int×List Ao} (hz:Ax b (B2 p z.1)) {c:Int} (h0:0<=c) (h1:c<b.Ae.length):Ax b (B2 p (Od b p n z c).1):=by
 unfold Od
 split
 ·rename_i hl
  obtain⟨_,g2,g3,_⟩:=Af5 h hz h0 h1
  have hco:=(h.co c.toNat _ (Gc (b:=b) (i:=c.toNat) (by omega))).2.1
  have hm:G4 b (B2 p z.1) n c<=z.1.getD c.toNat 0-(b.Ae.getD c.toNat default).Least:=Int.min_le_right _ _
  exact Aak (p:=B2 p z.1) hz (c:=c.toNat) ⟨by omega,by
   have:(B2 p z.1).Ap.getD c.toNat 0=z.1.getD c.toNat 0:=rfl
   omega⟩
 ·exact hz
theorem Af4 {b:Aa} (h:Aw b) {p:Ab} (hp:Ax b p) {acts:List Ao} {l:List Int} (hl:∀ c,c∈l->0<=c/\c<b.Ae.length) (ha:acts.length+l.length<=100000) {n:Nat} (hn:n<b.An.toNat) :
  Pm ⟨b,p,acts⟩ l (n:Int)=some ⟨b,B2 p (Ik b p n l (p.Ap,acts)).1,(Ik b p n l (p.Ap,acts)).2⟩/\Ax b (B2 p (Ik b p n l (p.Ap,acts)).1)/\(Ik b p n l (p.Ap,acts)).2.length<=acts.length+l.length:=by
 have key : Ok (Pm ⟨b, p, acts⟩ l (n : Int)) λ y => y = ⟨b, B2 p (Ik b p n l (p.Ap, acts)).1, (Ik b p n l (p.Ap, acts)).2⟩ /\ Ax b (B2 p (Ik b p n l (p.Ap, acts)).1) /\ (Ik b p n l (p.Ap, acts)).2.length <= acts.length + l.length := by
  unfold Pm
  refine Ok.andThen (A:=λ s=>s=Ik b p n l (p.Ap,acts)/\Ax b (B2 p s.1)/\s.2.length<=acts.length+l.length) (B:=λ (_:Unit)=>False) ?_ (λ s hs=>?_) (λ _ h=>h.elim)
  ·refine cX (I:=λ j s=>s=Ik b p n (l.take j) (p.Ap,acts)/\Ax b (B2 p s.1)/\s.2.length<=acts.length+j) ⟨rfl,hp,by simp⟩ (λ j c s hc hI=>?_) λ s hI=>?_
   ·obtain⟨h1,h2,h3⟩:=hI
    have hj:j<l.length:=(aa.1 hc).1
    have hin:=hl c (af hc)
    obtain⟨g1,g2,g3,g4⟩:=Af5 h h2 hin.1 hin.2
    have hco:=(h.co c.toNat _ (Gc (b:=b) (i:=c.toNat) (by omega))).2.1
    have hcl:=(h.co c.toNat _ (Gc (b:=b) (i:=c.toNat) (by omega))).1
    have hex:=A12 h h2 hn
    have hE:=Abe h h2 s.2 hn
    have hsucc:Ik b p n (l.take (j+1)) (p.Ap,acts)=Od b p n s c:=by
     rw [Bj hc,h1];unfold Ik;rw [aX];rfl
    have hok:=Al5 (n:=n) h h2 hin.1 hin.2
    have hless:w64 ((B2 p s.1).Ap.getD c.toNat 0-(b.Ae.getD c.toNat default).Least)=(B2 p s.1).Ap.getD c.toNat 0-(b.Ae.getD c.toNat default).Least:=Bd (by omega)
    have hlen:s.1.length=b.Ae.length:=h2.nli
    unfold Um
    refine Ok.bind (P:=λ y=>y=Mw b (B2 p s.1) n) (d7 hE rfl) λ y hy=>?_
    subst hy
    refine Ok.bind (P:=λ y=>y=(B2 p s.1).Ap.getD c.toNat 0) (d7 g1 rfl) λ y hy=>?_
    subst hy
    refine Ok.bind (P:=λ y=>y=b.Ae.getD c.toNat default) (d7 (A91 hin.1 hin.2) rfl) λ y hy=>?_
    subst hy
    have em:min (Mw b (B2 p s.1) n) (w64 ((B2 p s.1).Ap.getD c.toNat 0-(b.Ae.getD c.toNat default).Least))=G4 b (B2 p s.1) n c:=by rw [hless];rfl
    have hlb:0<G4 b (B2 p s.1) n c->0<=(B2 p s.1).Ap.getD c.toNat 0-G4 b (B2 p s.1) n c/\(B2 p s.1).Ap.getD c.toNat 0-G4 b (B2 p s.1) n c<=50000:=λ hh=>by
     have hm:G4 b (B2 p s.1) n c<=(B2 p s.1).Ap.getD c.toNat 0-(b.Ae.getD c.toNat default).Least:=Int.min_le_right _ _
     omega
    refine c9 (λ hq=>?_) (λ hq=>?_)
    ·simp only [Yd,em,dF,gt_iff_lt] at hq
     have hb2:=hlb hq
     rw [em,Bd (by omega)]
     have eS:Od b p n s c=(s.1.set c.toNat (s.1.getD c.toNat 0-G4 b (B2 p s.1) n c),s.2++[⟨5,c,s.1.getD c.toNat 0-G4 b (B2 p s.1) n c⟩]):=by unfold Od;rw [if_pos hq]
     refine (da hin.1 (by omega)).bind λ y hy=>?_
     subst hy
     refine Ok.bind (P:=λ v=>v=s.1.getD c.toNat 0-G4 b (B2 p s.1) n c) ?_ λ v hv=>?_
     ·refine (cY hin.1 (by rw [bH];omega)).mono λ v hv=>?_
      rw [bG (by omega)] at hv
      cases hv;rfl
     ·subst hv
      refine (d3 (by simp;omega)).bind λ w hw=>cW ?_
      subst hw
      rw [hsucc,eS]
      rw [eS] at hok
      exact⟨rfl,hok,by simp;omega⟩
    ·simp only [Yd,em,dG,gt_iff_lt] at hq
     have eS:Od b p n s c=s:=by unfold Od;rw [if_neg hq]
     refine cW ?_
     rw [hsucc,eS]
     exact⟨rfl,h2,by show s.2.length<=_;omega⟩
   ·rw [aI] at hI
    exact hI
  ·obtain⟨h1,h2,h3⟩:=hs
   subst h1
   exact cV ⟨rfl,h2,h3⟩
 obtain⟨r,e,h1,h2⟩:=key
 rw [h1] at e
 exact⟨e,h2⟩
def isC (c:Int) (x:Ai):Bool:=x.Kind==3&&x.B==c
theorem Aq1 {b:Aa} (h:Aw b) {p:Ab} (hp:Ax b p) {acts:List Ao} (ha:acts.length<=100000) (c:Int):Ut ⟨b,p,acts⟩ c=some (⟨b,D2 p (acC b p.Ag (isC c)),acts++acA b p.Ag (isC c)⟩,c):=by
 have hbl:=h.brl
 have hnc:=hp.ncl
 refine db ?_
 unfold Ut
 refine Ok.andThen (A:=λ s=>s=C8 b p.Ag (isC c) b.Ad.length) (B:=λ (_:Unit)=>False) ?_ (λ s hs=>?_) (λ _ h=>h.elim)
 ·refine cX (I:=λ j s=>s=C8 b p.Ag (isC c) j) rfl (λ j x s hx hs=>?_) λ s hs=>hs
  have hj:j<b.Ad.length:=(aa.1 hx).1
  have hfl:=Gb b p.Ag (isC c) j
  have hfs:=Qm (C:=p.Ag) (q:=isC c) hx
  subst hs
  unfold Us
  rw [Cr (by omega),Bi (Tw hp hj)]
  simp only [ac]
  have e:Uc x c=isC c x:=rfl
  rw [e,hfs]
  cases (p.Ag.getD j false&&isC c x) with
  | false=>refine cW ?_;simp
  | true=>
   refine Ok.bind (P:=λ y=>y=C8 b p.Ag (isC c) j++[(j:Int)]) (d3 (by simp;omega)) λ y hy=>cW ?_
   rw [hy];simp
 ·subst hs
  have hfl:=Gb b p.Ag (isC c) b.Ad.length
  refine Ok.andThen (Xu (b:=b) (p:=p) (acts:=acts) (l:=C8 b p.Ag (isC c) b.Ad.length) (by omega) λ i hi=>?_) (λ s hs=>?_) (λ _ h=>h.elim)
  ·obtain⟨k,rfl,hk,_⟩:=Hw.1 hi
   omega
  ·subst hs
   exact cV rfl
def Ib (b:Aa) (p:Ab) (n:Nat) (z:List Bool×List Ao) (c:Int):List Bool×List Ao:=
 if 0<p.Ap.getD c.toNat 0/\0<Mw b (D2 p z.1) n then (acC b z.1 (isC c),z.2++acA b z.1 (isC c)) else z
def E3 (b:Aa) (p:Ab) (n:Nat) (l:List Int) (z:List Bool×List Ao):List Bool×List Ao:=l.foldl (Ib b p n) z
theorem Ak0 {b:Aa} (h:Aw b) {p:Ab} (hp:Ax b p) {acts:List Ao} {l:List Int} (hl:∀ c,c∈l->0<=c/\c<b.Ae.length) (ha:acts.length+24*l.length<=100000) {n:Nat} (hn:n<b.An.toNat) :
  Pl ⟨b,p,acts⟩ l (n:Int)=some ⟨b,D2 p (E3 b p n l (p.Ag,acts)).1,(E3 b p n l (p.Ag,acts)).2⟩/\Ax b (D2 p (E3 b p n l (p.Ag,acts)).1)/\(E3 b p n l (p.Ag,acts)).2.length<=acts.length+24*l.length:=by
 have hbl:=h.brl
 have key : Ok (Pl ⟨b, p, acts⟩ l (n : Int)) λ y => y = ⟨b, D2 p (E3 b p n l (p.Ag, acts)).1, (E3 b p n l (p.Ag, acts)).2⟩ /\ Ax b (D2 p (E3 b p n l (p.Ag, acts)).1) /\ (E3 b p n l (p.Ag, acts)).2.length <= acts.length + 24 * l.length := by
  unfold Pl
  refine Ok.andThen (A:=λ s=>∃ z:List Bool×List Ao,s=(b.An,b.Ad,b.Ac,b.Ae,b.Phase,b.Aq,z.1,p.Ac,p.Ap,p.Am,z.2)/\z=E3 b p n l (p.Ag,acts)/\Ax b (D2 p z.1)/\z.2.length<=acts.length+24*l.length) (B:=λ (_:Unit)=>False) ?_ (λ s hs=>?_) (λ _ h=>h.elim)
  ·refine cX (I:=λ j s=>∃ z:List Bool×List Ao,s=(b.An,b.Ad,b.Ac,b.Ae,b.Phase,b.Aq,z.1,p.Ac,p.Ap,p.Am,z.2)/\z=E3 b p n (l.take j) (p.Ag,acts)/\Ax b (D2 p z.1)/\z.2.length<=acts.length+24*j) ⟨(p.Ag,acts),rfl,rfl,hp,by simp⟩ (λ j c s hc hI=>?_) λ s hI=>?_
   ·obtain⟨z,h0,h1,h2,h3⟩:=hI
    subst h0
    have hj:j<l.length:=(aa.1 hc).1
    have hin:=hl c (af hc)
    obtain⟨g1,g2,g3,g4⟩:=Af5 h hp hin.1 hin.2
    have hE:=Abe h h2 z.2 hn
    have hsucc:E3 b p n (l.take (j+1)) (p.Ag,acts)=Ib b p n z c:=by
     rw [Bj hc,h1];unfold E3;rw [aX];rfl
    unfold Ul
    refine Ok.bind (P:=λ y=>y=p.Ap.getD c.toNat 0) (d7 g1 rfl) λ y hy=>?_
    subst hy
    have stay:¬(0<p.Ap.getD c.toNat 0/\0<Mw b (D2 p z.1) n)->∃ w:List Bool×List Ao,(b.An,b.Ad,b.Ac,b.Ae,b.Phase,b.Aq,z.1,p.Ac,p.Ap,p.Am,z.2)=(b.An,b.Ad,b.Ac,b.Ae,b.Phase,b.Aq,w.1,p.Ac,p.Ap,p.Am,w.2)/\w=E3 b p n (l.take (j+1)) (p.Ag,acts)/\Ax b (D2 p w.1)/\w.2.length<=acts.length+24*(j+1):=λ hh=>by
     have eS:Ib b p n z c=z:=by unfold Ib;rw [if_neg hh]
     exact⟨z,rfl,by rw [hsucc,eS],h2,by omega⟩
    cases hq:decide (p.Ap.getD c.toNat 0>0) with
    | false=>
     simp only [dG] at hq
     exact cW (stay λ hh=>hq hh.1)
    | true=>
     simp only [dF] at hq
     refine Ok.bind (P:=λ y=>y=Mw b (D2 p z.1) n) (d7 hE rfl) λ y hy=>?_
     subst hy
     cases hq2:decide (Mw b (D2 p z.1) n>0) with
     | false=>
      simp only [dG] at hq2
      exact cW (stay λ hh=>hq2 hh.2)
     | true=>
      simp only [dF] at hq2
      have hS:=Aq1 h h2 (acts:=z.2) (by omega) c
      refine Ok.bind (P:=λ y=>y=_) (d7 hS rfl) λ y hy=>cW ?_
      subst hy
      have eS:Ib b p n z c=(acC b z.1 (isC c),z.2++acA b z.1 (isC c)):=by unfold Ib;rw [if_pos ⟨hq,hq2⟩]
      refine⟨(acC b z.1 (isC c),z.2++acA b z.1 (isC c)),rfl,by rw [hsucc,eS],Ahr h2 (isC c),?_⟩
      have:=V8 b z.1 (isC c)
      show (z.2++acA b z.1 (isC c)).length<=_
      rw [aA];omega
   ·rw [aI] at hI
    exact hI
  ·obtain⟨z,h0,h1,h2,h3⟩:=hs
   subst h0;subst h1
   exact cV ⟨rfl,h2,h3⟩
 obtain⟨r,e,h1,h2⟩:=key
 rw [h1] at e
 exact⟨e,h2⟩
def Hr (x:Ah) (c:Int):Bool:=x.Ae.any (c == ·)
theorem Azm {x:Ah} (hx:x.Ae.length<=1000) (c:Int):Pn c x=some (!Hr x c):=by
 unfold Pn
 rw [Dr _ _ (by omega)];rfl
theorem Abj {x:Ah} (hx:x.Ae.length<=1000):∀ (l:List Int) (k:Nat),foldI (N4 x) l k ()=match l.findIdx? λ c=>!Hr x c with
  | some j=>some (.ret (cnt 0 (k+j),x))
  | none=>some (.next ())
 | [],_=>rfl
 | c::l,k=>by
  simp only [foldI,N4,Azm hx,ac,List.findIdx?_cons]
  cases hq:(!Hr x c) with
  | true=>rfl
  | false=>
   simp only [cond_false,bW,if_false]
   rw [Abj hx l (k+1)]
   cases l.findIdx? λ c=>!Hr x c with
   | none=>rfl
   | some j=>
    have e:k+1+j=k+(j+1):=by omega
    simp only [bU,e]
theorem A16 {x:Ah} (hx:x.Ae.length<=1000) (l:List Int) (hl:l.length<=1000):Uo l x=some (l.filter (Hr x),x):=by
 refine db ?_
 unfold Uo qV
 rw [Abj hx]
 cases hf:l.findIdx? λ c=>!Hr x c with
 | none=>
  rw [cQ] at hf
  refine cV ?_
  have:l.filter (Hr x)=l:=by
   rw [cM]
   intro c hc
   have:=hf c hc
   simpa using this
  rw [this]
 | some i=>
  rw [cR] at hf
  obtain⟨hi,hp,hn⟩:=hf
  have e0:cnt 0 (0+i)=(i:Int):=by rw [aG];exact Cr (by omega)
  simp only [e0,andThen,ac]
  refine c9 (λ hc=>?_) (λ _=>?_)
  ·simp only [dH] at hc;omega
  have e1:w64 ((i:Int)+1)=(i:Int)+1:=Bd (by omega)
  rw [e1]
  refine Ok.andThen (A:=λ s=>0<=s.1/\s.1<=(l.length:Int)/\s.2.2.length=l.length/\s.2.2.take s.1.toNat=l.filter (Hr x)) (B:=λ (_:Unit)=>False) ?_ ?_ (λ _ h=>h.elim)
  ·refine cZ (λ s=>(0<=s.1/\s.1<s.2.1/\s.2.1<=(l.length:Int))/\s.2.2.length=l.length/\s.2.2.take s.1.toNat=(l.take s.2.1.toNat).filter (Hr x)/\s.2.2.drop s.2.1.toNat=l.drop s.2.1.toNat) (λ s=>((l.length:Int)-s.2.1).toNat) _ _ ?_ ?_ ?_
   ·refine⟨by dsimp only;omega,rfl,?_,rfl⟩
    dsimp only
    have e2:((i:Int)+1).toNat=i+1:=by omega
    rw [e2,aH,Bj (ag hi),bq]
    have h1:(l.take i).filter (Hr x)=l.take i:=by
     rw [cM]
     intro c hc
     obtain⟨j,hj,rfl⟩:=cG hc
     simp only [aW] at hj
     rw [List.getElem_take]
     have:=hn j (by omega)
     simpa using this
    have h2:Hr x l[i]=false:=by simpa using hp
    rw [h1]
    simp [h2]
   ·dsimp only;omega
   ·rintro⟨a,j,m⟩ ⟨⟨h1,h2,h3⟩,h4,h5,h6⟩
    dsimp only at h1 h2 h3 h4 h5 h6
    unfold Un Ahd
    dsimp only
    refine c9 (λ hq=>?_) (λ hq=>?_)
    ·simp only [dF] at hq
     have e1:w64 (j+1)=j+1:=Bd (by omega)
     have e2:w64 (a+1)=a+1:=Bd (by omega)
     have e3:(j+1).toNat=j.toNat+1:=by omega
     have e4:(a+1).toNat=a.toNat+1:=by omega
     refine (cY (by omega) (by omega)).bind λ y hy=>?_
     have hyl:l[j.toNat]? = some y:=by
      have:=congrArg (·[0]?) h6
      simp only [aq,cq] at this
      rw [←this];exact hy
     have hdrop:∀ (q:List Int),q.drop j.toNat=l.drop j.toNat->q.drop (j.toNat+1)=l.drop (j.toNat+1):=λ q hq=>by
      rw [←bX,hq,bX]
     rw [Azm hx]
     simp only [ac,Bool.not_not]
     refine c9 (λ hf=>?_) (λ hf=>?_)
     ·refine (cY (by omega) (by omega)).bind λ _ _=>(da (by omega) (by omega)).bind λ z hz=>?_
      rw [e1,e2]
      subst hz
      refine cW ⟨⟨by dsimp only;omega,by simpa using h4,?_,?_⟩,by dsimp only;omega⟩
      ·dsimp only
       rw [e3,e4,Bj hyl,bq,←h5]
       rw [Bj (x:=y) (by rw [bG (by omega)])]
       simp [hf,List.take_set_of_le]
      ·dsimp only
       rw [e3,List.drop_set_of_lt (by omega)]
       exact hdrop m h6
     ·rw [e1]
      refine cW ⟨⟨by dsimp only;omega,h4,?_,?_⟩,by dsimp only;omega⟩
      ·dsimp only
       rw [e3,Bj hyl,bq,←h5]
       simp [hf]
      ·dsimp only
       rw [e3];exact hdrop m h6
    ·simp only [dG] at hq
     have e:j.toNat=l.length:=by omega
     refine de ⟨h1,by dsimp only;omega,h4,?_⟩
     dsimp only
     rw [h5,e,aI]
  ·rintro⟨a,j,m⟩ ⟨h1,h2,h3,h4⟩
   dsimp only at h1 h2 h3 h4 ⊢
   have hc:(Gd m a.toNat ((Int.toNat (m.length:Int))-a.toNat) (0:Int)).length=l.length:=by
    simp [Gd];omega
   refine (Ok.bndI h1 (by omega) (by omega)).bind λ _ _=>(Ok.bndI (by omega) h1 (by rw [hc];omega)).bind λ _ _=>cV ?_
   rw [←h4]
   unfold Gd
   rw [Nat.sub_zero,cD (by simp;omega),List.take_take,Nat.min_self]
def H6 (b:Aa) (x:Ah):List Int:=(Mk b).filter (Hr x)
theorem Oy {b:Aa} (h:Aw b) {x:Ah} {c:Int} (hc:c∈H6 b x):0<=c/\c<b.Ae.length:=A21 h (aF.1 hc).1
theorem Afs {b:Aa} (h:Aw b) (x:Ah):(H6 b x).length<=16:=by
 have h1:=bC (Hr x) (Mk b)
 have h2:=Aly h
 have h3:=h.col
 unfold H6;omega
def Qu (x:Ah):Nat:=(x.An.headD 0).toNat
def Gw (b:Aa) (x:Ah) (z:Ab×List Ao):List Int×List Ao:=Ik b z.1 (Qu x) (H6 b x) (z.1.Ap,z.2)
def P7 (b:Aa) (x:Ah) (z:Ab×List Ao):List Bool×List Ao:=E3 b (B2 z.1 (Gw b x z).1) (Qu x) (H6 b x) (z.1.Ag,(Gw b x z).2)
def G8 (b:Aa) (z:Ab×List Ao) (x:Ah):Ab×List Ao:=
 if 0<x.Ac.length then (D2 (B2 z.1 (Gw b x z).1) (P7 b x z).1,(P7 b x z).2) else z
def G9 (b:Aa) (l:List Ah) (z:Ab×List Ao):Ab×List Ao:=l.foldl (G8 b) z
structure Adg (b:Aa) (x:Ah):Prop where
 cons:x.Ae.length<=16
 ne:x.An≠[]
 bus:∀ n,n∈x.An->0<=n/\n<b.An
theorem Agd {b:Aa} (h:Aw b) {p:Ab} {x:Ah} (hx:x∈Bl b p):Adg b x:=by
 have hcl:=h.col
 unfold Bl at hx
 obtain⟨h1,h2⟩:=aF.1 hx
 obtain⟨f,hf,rfl⟩:=am.1 h1
 have hc:(isl b p f).Ae.length<=b.Ae.length:=Dc _ _
 refine⟨by omega,λ e=>?_,λ n hn=>?_⟩
 ·unfold Ip at h2
  rw [e] at h2;simp at h2
 ·obtain⟨k,hk,rfl⟩:=am.1 hn
  have:=aZ.1 (aF.1 hk).1
  omega
theorem Yf {b:Aa} {x:Ah} (hx:Adg b x):getI x.An 0=some ((Qu x:Nat):Int)/\Qu x<b.An.toNat:=by
 unfold Qu
 cases hb:x.An with
 | nil=>exact absurd hb hx.ne
 | cons n l=>
  have:=hx.bus n (by rw [hb];exact aj)
  simp only [List.headD_cons]
  refine⟨?_,by omega⟩
  have e:(n.toNat:Int)=n:=by omega
  rw [e];rfl
theorem A06 {b:Aa} (h:Aw b) {p:Ab} (hp:Ax b p) {acts:List Ao} (ha:acts.length<=1000) :
  Po ⟨b,p,acts⟩=some ⟨b,(G9 b (Bl b p) (p,acts)).1,(G9 b (Bl b p) (p,acts)).2⟩/\Ax b (G9 b (Bl b p) (p,acts)).1/\(G9 b (Bl b p) (p,acts)).2.length<=10000:=by
 have hil:=Hs b p
 have hbu:=h.buses
 have hcl:=h.col
 have hol:=Aly h
 have key:Ok (Po ⟨b,p,acts⟩) λ y=>y=⟨b,(G9 b (Bl b p) (p,acts)).1,(G9 b (Bl b p) (p,acts)).2⟩/\Ax b (G9 b (Bl b p) (p,acts)).1/\(G9 b (Bl b p) (p,acts)).2.length<=10000:=by
  unfold Po
  simp only [(Xt h).1,ac]
  have hi:F67 b p=some (Bl b p):=Ht h hp
  refine Ok.bind (P:=λ y=>y=Bl b p) (d7 hi rfl) λ y hy=>?_
  subst hy
  refine Ok.andThen (A:=λ s=>∃ z:Ab×List Ao,s=(b.An,b.Ad,b.Ac,b.Ae,b.Phase,b.Aq,z.1.Ag,z.1.Ac,z.1.Ap,z.1.Am,z.2)/\z=G9 b (Bl b p) (p,acts)/\Ax b z.1/\z.2.length<=10000) (B:=λ (_:Unit)=>False) ?_ (λ s hs=>?_) (λ _ h=>h.elim)
  ·refine cX (I:=λ j s=>∃ z:Ab×List Ao,s=(b.An,b.Ad,b.Ac,b.Ae,b.Phase,b.Aq,z.1.Ag,z.1.Ac,z.1.Ap,z.1.Am,z.2)/\z=G9 b ((Bl b p).take j) (p,acts)/\Ax b z.1/\z.2.length<=1000+400*j) ⟨(p,acts),rfl,rfl,hp,by simpa using ha⟩ (λ j x s hx hI=>?_) λ s hI=>?_
   ·obtain⟨z,h0,h1,h2,h3⟩:=hI
    subst h0
    have hj:j<(Bl b p).length:=(aa.1 hx).1
    have hin:=Agd h (af hx)
    have hsucc:G9 b ((Bl b p).take (j+1)) (p,acts)=G8 b z x:=by
     rw [Bj hx,h1];unfold G9;rw [aX];rfl
    have hc:=hin.cons
    have hol2:=Afs h x
    obtain⟨e0,hb0⟩:=Yf hin
    unfold U4
    have ecl:F95 (Mk b)=some (Mk b):=by
     unfold F95
     rw [K9 (by omega)]
    rw [ecl]
    simp only [ac]
    rw [A16 (by omega) _ (by omega)]
    simp only [ac]
    refine c9 (λ hq=>?_) (λ hq=>?_)
    ·simp only [dF] at hq
     rw [e0]
     simp only [ac]
     obtain⟨l1,l2,l3⟩:=Af4 h h2 (acts:=z.2) (l:=H6 b x) (λ c hc=>Oy h hc) (by omega) hb0
     refine Ok.bind (P:=λ y=>y=_) (d7 l1 rfl) λ y hy=>?_
     subst hy
     obtain⟨t1,t2,t3⟩:=Ak0 h l2 (acts:=(Gw b x z).2) (l:=H6 b x) (λ c hc=>Oy h hc) (by unfold Gw;omega) hb0
     refine Ok.bind (P:=λ y=>y=_) (d7 t1 rfl) λ y hy=>cW ?_
     subst hy
     have eS:G8 b z x=(D2 (B2 z.1 (Gw b x z).1) (P7 b x z).1,(P7 b x z).2):=by unfold G8;rw [if_pos (by omega)]
     refine⟨(D2 (B2 z.1 (Gw b x z).1) (P7 b x z).1,(P7 b x z).2),rfl,by rw [hsucc,eS],t2,?_⟩
     have t4:(P7 b x z).2.length<=(Gw b x z).2.length+24*(H6 b x).length:=t3
     have l4:(Gw b x z).2.length<=z.2.length+(H6 b x).length:=l3
     show (P7 b x z).2.length<=_
     omega
    ·simp only [dG] at hq
     have eS:G8 b z x=z:=by unfold G8;rw [if_neg (by omega)]
     exact cW ⟨z,rfl,by rw [hsucc,eS],h2,by omega⟩
   ·rw [aI] at hI
    obtain⟨z,h0,h1,h2,h3⟩:=hI
    exact⟨z,h0,h1,h2,by omega⟩
  ·obtain⟨z,h0,h1,h2,h3⟩:=hs
   subst h0;subst h1
   exact cV ⟨rfl,h2,h3⟩
 obtain⟨r,e,h1,h2⟩:=key
 rw [h1] at e
 exact⟨e,h2⟩
def A2z (b:Aa) (p:Ab):Ab×List Ao:=G9 b (Bl b (J3 b p)) (J3 b p,Tu b p)
def Mi (b:Aa) (p:Ab):Ab:=(A2z b p).1
def Em (b:Aa) (p:Ab):List Ao:=(A2z b p).2
theorem I9 {b:Aa} (h:Aw b) {p:Ab} (hp:Ax b p):Aj8 b p=some (Mi b p,Em b p,0)/\Ax b (Mi b p)/\(Em b p).length<=10000:=by
 have hbl:=h.brl
 have hcl:=Ag8 b p
 obtain⟨s1,s2,s3⟩:=A06 h (V4 hp) (acts:=Tu b p) (by omega)
 refine⟨?_,s2,s3⟩
 unfold Aj8 uC uB
 rw [Dm h hp,Dy h hp]
 simp only [ac,dM,cond_false]
 rw [Ayl h hp]
 simp only [ac]
 rw [s1]
 rfl
theorem Ny {α:Type} {f:Nat->α->Unit->Option (Ctl Unit Bool)} {l m:List α} {e:α->α->Bool} (he:∀ x y,e x y=true->x=y)
  (hf:∀ (j:Nat) x y,l[j]? = some x->m[j]? = some y->f j x ()=bif !e x y then some (.ret false) else some (.next ())) (hl:l.length=m.length) :
  Ok (andThen (foldI f l 0 ()) some λ _=>some true) λ v=>v=true->l=m:=by
 refine Ok.andThen (A:=λ _=>l=m) (B:=λ v=>v=false) ?_ (λ _ hs=>cV λ _=>hs) (λ v hv=>cV λ hh=>by rw [hv] at hh;cases hh)
 refine cX (I:=λ j _=>l.take j=m.take j) rfl (λ j x _ hx hI=>?_) λ _ hI=>?_
 ·have hj:=(aa.1 hx).1
  have hy:m[j]? = some (m[j]'(by omega)):=ag (by omega)
  rw [hf j x _ hx hy]
  refine c9 (λ _=>Ok.ret rfl) (λ hq=>cW ?_)
  have:=he _ _ (by simpa using hq)
  rw [Bj hx,Bj hy,hI,←this]
 ·rw [aI] at hI
  rw [hI,hl,aI]
theorem A4j {l m:List Bool} (h:l.length<=1000):Ok (F69 l m) λ v=>v=true->l=m:=by
 unfold F69
 refine c9 (λ _=>cV λ hh=>by cases hh) (λ hq=>?_)
 have hl:l.length=m.length:=by simp only [dL] at hq;omega
 refine Ny (e:=λ x y=>x==y) (λ x y hh=>by simpa using hh) (λ j x y hx hy=>?_) hl
 have hj:=(aa.1 hx).1
 unfold qP
 rw [Cr (by omega),Bi hy];rfl
theorem A4i {l m:List Int} (h:l.length<=1000):Ok (F71 l m) λ v=>v=true->l=m:=by
 unfold F71
 refine c9 (λ _=>cV λ hh=>by cases hh) (λ hq=>?_)
 have hl:l.length=m.length:=by simp only [dL] at hq;omega
 refine Ny (e:=λ x y=>x==y) (λ x y hh=>by simpa using hh) (λ j x y hx hy=>?_) hl
 have hj:=(aa.1 hx).1
 unfold qN
 rw [Cr (by omega),Bi hy];rfl
theorem A4g {l m:List Af} (h:l.length<=1000):Ok (F70 l m) λ v=>v=true->l=m:=by
 unfold F70
 refine c9 (λ _=>cV λ hh=>by cases hh) (λ hq=>?_)
 have hl:l.length=m.length:=by simp only [dL] at hq;omega
 refine Ny (e:=λ x y=>(x.State==y.State)&&((x.Since==y.Since)&&((x.Aq==y.Aq)&&((x.Phase==y.Phase)&&true)))) (λ x y hh=>?_) (λ j x y hx hy=>?_) hl
 ·simp only [ae,dH] at hh
  obtain⟨h1,h2,h3,h4,_⟩:=hh
  cases x;cases y;simp_all
 ·have hj:=(aa.1 hx).1
  unfold qO
  rw [Cr (by omega),Bi hy];rfl
theorem A4h {l m:List Ak} (h:l.length<=1000):Ok (F72 l m) λ v=>v=true->l=m:=by
 unfold F72
 refine c9 (λ _=>cV λ hh=>by cases hh) (λ hq=>?_)
 have hl:l.length=m.length:=by simp only [dL] at hq;omega
 refine Ny (e:=λ x y=>(x.Kind==y.Kind)&&((x.Number==y.Number)&&true)) (λ x y hh=>?_) (λ j x y hx hy=>?_) hl
 ·simp only [ae,dH] at hh
  obtain⟨h1,h2,_⟩:=hh
  cases x;cases y;simp_all
 ·have hj:=(aa.1 hx).1
  unfold qM
  rw [Cr (by omega),Bi hy];rfl
def J_ (p q:Ab):Bool:=(F50 p q).getD false
theorem A08 {p:Ab} (hp:Aqi p) (q:Ab):F50 p q=some (J_ p q)/\(J_ p q=true->p=q):=by
 have h1:=hp.c
 have h2:=hp.s
 have h3:=hp.l
 have h4:=hp.k
 have key:Ok (F50 p q) λ v=>v=true->p=q:=by
  unfold F50
  refine (A4j (l:=p.Ag) (m:=q.Ag) (by omega)).bind λ v1 e1=>?_
  cases v1 with
  | false=>exact cV λ hh=>by simp at hh
  | true=>
   refine Ok.bind (P:=λ v=>v=true->p.Ac=q.Ac) (A4g (by omega)) λ v2 e2=>?_
   cases v2 with
   | false=>exact cV λ hh=>by simp at hh
   | true=>
    refine Ok.bind (P:=λ v=>v=true->p.Ap=q.Ap) (A4i (by omega)) λ v3 e3=>?_
    cases v3 with
    | false=>exact cV λ hh=>by simp at hh
    | true=>
     refine Ok.bind (P:=λ v=>v=true->p.Am=q.Am) (A4h (by omega)) λ v4 e4=>cV λ hh=>?_
     have w1:=e1 rfl
     have w2:=e2 rfl
     have w3:=e3 rfl
     have w4:=e4 (by simpa using hh)
     cases p;cases q;simp_all
 obtain⟨r,e,hr⟩:=key
 have:J_ p q=r:=by unfold J_;rw [e];rfl
 rw [this]
 exact⟨e,hr⟩
def ap (p:Ab) (x:Ao):Ab:=if x.Kind=2 then D2 p (p.Ag.set x.Unit.toNat false) else B2 p (p.Ap.set x.Unit.toNat x.Value)
def Aqu (b:Aa) (x:Ao):Prop:=(x.Kind=2/\0<=x.Unit/\x.Unit<b.Ad.length)\/(x.Kind=5/\(0<=x.Unit/\x.Unit<b.Ae.length)/\0<=x.Value/\x.Value<=(b.Ae.getD x.Unit.toNat default).Load)
theorem A0s {b:Aa} {p:Ab} (hp:Ax b p) {x:Ao} (hx:Aqu b x):Ax b (ap p x):=by
 unfold ap
 rcases hx with⟨hk,_⟩ | ⟨hk,h1,h2⟩
 ·rw [if_pos hk];exact Anw hp _
 ·rw [if_neg (by omega)];exact Aak hp h2
def El (b:Aa) (p:Ab) (z:Ab×List Ao):Prop:=z.2.foldl ap p=⟨z.1.Ag,p.Ac,z.1.Ap,p.Am⟩/\∀ x,x∈z.2->Aqu b x
theorem Ahq {p q:Ab}:∀ (l:List Int) (C:List Bool),q=D2 p C->(Lc l).foldl ap q=D2 p (Ga C l)
 | [],C,hq=>hq
 | i::l,C,hq=>by
  subst hq
  exact Ahq l (C.set i.toNat false) rfl
theorem uI {b:Aa} {p:Ab} {z:Ab×List Ao} (hz:El b p z) (q:Ai->Bool) (S:List Af):El b p (⟨acC b z.1.Ag q,S,z.1.Ap,z.1.Am⟩,z.2++acA b z.1.Ag q):=by
 refine⟨?_,λ x hx=>?_⟩
 ·dsimp only
  rw [aX,hz.1]
  exact Ahq (p:=⟨z.1.Ag,p.Ac,z.1.Ap,p.Am⟩) (C8 b z.1.Ag q b.Ad.length) z.1.Ag rfl
 ·rcases az.1 hx with hx | hx
  ·exact hz.2 x hx
  ·obtain⟨i,hi,rfl⟩:=am.1 hx
   obtain⟨k,rfl,hk,_⟩:=Hw.1 hi
   exact .inl ⟨rfl,by dsimp only;omega,by dsimp only;omega⟩
theorem A7t {b:Aa} {p q r:Ab} {l:List Ao} (hz:El b p (q,l)) (h1:r.Ag=q.Ag) (h2:r.Ap=q.Ap):El b p (r,l):=by
 refine⟨?_,hz.2⟩
 have:=hz.1
 dsimp only at this ⊢
 rw [this,h1,h2]
theorem Aqy {b:Aa} (h:Aw b) {p q:Ab} (n:Nat):∀ (l:List Int) (z:List Int×List Ao),(∀ c,c∈l->0<=c/\c<b.Ae.length)->Ax b (B2 q z.1)->El b p (B2 q z.1,z.2)->El b p (B2 q (Ik b q n l z).1,(Ik b q n l z).2)
 | [],_,_,_,hz=>hz
 | c :: l, z, hl, hs, hz => by
  have hin:=hl c aj
  have hok:=Al5 (n:=n) h hs hin.1 hin.2
  refine Aqy h n l (Od b q n z c) (λ d hd=>hl d (ai _ hd)) hok ?_
  unfold Od at hok ⊢
  split
  ·rename_i hq
   rw [if_pos hq] at hok
   obtain⟨_,w2,w3,_⟩:=Af5 h hok hin.1 hin.2
   have hlen:z.1.length=b.Ae.length:=hs.nli
   have ev:∀ v:Int,(z.1.set c.toNat v).getD c.toNat 0=v:=λ v=>by rw [Tc,if_pos ⟨rfl,by omega⟩]
   have w2':0<=(z.1.set c.toNat (z.1.getD c.toNat 0-G4 b (B2 q z.1) n c)).getD c.toNat 0:=w2
   have w3':(z.1.set c.toNat (z.1.getD c.toNat 0-G4 b (B2 q z.1) n c)).getD c.toNat 0<=(b.Ae.getD c.toNat default).Load:=w3
   rw [ev] at w2' w3'
   refine⟨?_,λ x hx=>?_⟩
   ·dsimp only
    rw [aX,hz.1];rfl
   ·rcases az.1 hx with hx | hx
    ·exact hz.2 x hx
    ·simp only [bz] at hx
     subst hx
     exact .inr ⟨rfl,hin,w2',w3'⟩
  ·exact hz
theorem Ak1 {b:Aa} {p q:Ab} (n:Nat):∀ (l:List Int) (z:List Bool×List Ao),El b p (D2 q z.1,z.2)->El b p (D2 q (E3 b q n l z).1,(E3 b q n l z).2)
 | [],_,hz=>hz
 | c::l,z,hz=>by
  refine Ak1 n l (Ib b q n z c) ?_
  unfold Ib
  split
  ·exact uI (z:=(D2 q z.1,z.2)) hz (isC c) q.Ac
  ·exact hz
theorem A1a {b:Aa} (h:Aw b) {x:Ah} (hx:Adg b x) {p:Ab} {z:Ab×List Ao} (hs:Ax b z.1) (ha:z.2.length<=10000) (hz:El b p z):Ax b (G8 b z x).1/\El b p (G8 b z x)/\(G8 b z x).2.length<=z.2.length+400:=by
 have hol2:=Afs h x
 obtain⟨e0,hb0⟩:=Yf hx
 unfold G8
 split
 ·obtain⟨_,l2,l3⟩:=Af4 h hs (acts:=z.2) (l:=H6 b x) (λ c hc=>Oy h hc) (by omega) hb0
  obtain⟨_,t2,t3⟩:=Ak0 h l2 (acts:=(Gw b x z).2) (l:=H6 b x) (λ c hc=>Oy h hc) (by unfold Gw;omega) hb0
  have t4:(P7 b x z).2.length<=(Gw b x z).2.length+24*(H6 b x).length:=t3
  have l4:(Gw b x z).2.length<=z.2.length+(H6 b x).length:=l3
  refine⟨t2,?_,by dsimp only;omega⟩
  have hl:El b p (B2 z.1 (Gw b x z).1,(Gw b x z).2):=Aqy h (Qu x) (H6 b x) (z.1.Ap,z.2) (λ c hc=>Oy h hc) hs hz
  exact Ak1 (Qu x) (H6 b x) (z.1.Ag,(Gw b x z).2) hl
 ·exact⟨hs,hz,by omega⟩
theorem Alv {b:Aa} (h:Aw b) {p:Ab}:∀ (l:List Ah) (z:Ab×List Ao),(∀ x,x∈l->Adg b x)->Ax b z.1->z.2.length+400*l.length<=10000->El b p z->El b p (G9 b l z)
 | [],_,_,_,_,hz=>hz
 | x::l,z,hl,hs,ha,hz=>by
  rw [aP] at ha
  obtain⟨h1,h2,h3⟩:=A1a h (hl x aj) hs (by omega) hz
  exact Alv h l (G8 b z x) (λ y hy=>hl y (ai _ hy)) h1 (by omega) h2
theorem A5u {b:Aa} (p:Ab):El b p (J3 b p,Tu b p):=by
 have h0:El b p (p,[]):=⟨rfl,λ x hx=>by cases hx⟩
 have h1:=uI h0 (Dq p) p.Ac
 have h2:=uI h1 (Fh b (Tv b p)) p.Ac
 exact A7t h2 rfl rfl
theorem A2y {b:Aa} (h:Aw b) {p:Ab} (hp:Ax b p):El b p (Mi b p,Em b p):=by
 have hil:=Hs b (J3 b p)
 have hbu:=h.buses
 have hbl:=h.brl
 have hcl:=Ag8 b p
 exact Alv h (Bl b (J3 b p)) (J3 b p,Tu b p) (λ x hx=>Agd h hx) (V4 hp) (by dsimp only;omega) (A5u p)
def Fc:List Ao->Ab->List Ab
 | [],_=>[]
 | x::l,p=>ap p x::Fc l (ap p x)
theorem Ko:∀ (l:List Ao) (p:Ab),(Fc l p).length=l.length
 | [],_=>rfl
 | x::l,p=>by simp [Fc,Ko l]
theorem Z9:∀ (l:List Ao) (x:Ao) (p:Ab),Fc (l++[x]) p=Fc l p++[ap (l.foldl ap p) x]
 | [],_,_=>rfl
 | y::l,x,p=>by
  show ap p y::Fc (l++[x]) (ap p y)=_
  rw [Z9 l x];rfl
def By (b:Aa) (p:Ab) (t:Int) (a:Ao):Ab×Int:=(F78 b p t a).getD default
theorem Amk {b:Aa} (h:Aw b) {p:Ab} (hp:Ax b p) (t:Int) (a:Ao):F78 b p t a=some (By b p t a)/\((By b p t a).2≠0\/Ax b (By b p t a).1):=by
 obtain⟨r,e,hr⟩:=A58 h hp t a
 have:By b p t a=r:=by unfold By;rw [e];rfl
 rw [this]
 exact⟨e,hr.imp (·.1) (·.2)⟩
def Oh (b:Aa) (p:Ab) (t:Int) (a:Ao):Int:=if a.Kind=7 then 1 else (By b p t a).2
def Ml (b:Aa) (p:Ab) (t:Int) (a:Ao):Ab:=(By b p t a).1
def doP (b:Aa) (p:Ab) (t:Int) (a:Ao):Ab:=if Oh b p t a=0 then Mi b (Ml b p t a) else p
def doE (b:Aa) (p:Ab) (t:Int) (a:Ao):List A6:=⟨t,a,Oh b p t a⟩::if Oh b p t a=0 then (Em b (Ml b p t a)).map (λ x=>⟨t,x,0⟩) else []
def Qc (b:Aa) (p:Ab) (t:Int) (a:Ao):Ab:=(Em b (Ml b p t a)).foldl ap (Ml b p t a)
def doS (b:Aa) (p:Ab) (t:Int) (a:Ao):List Ab:=
 if Oh b p t a=0 then [Ml b p t a]++Fc (Em b (Ml b p t a)) (Ml b p t a)++(if J_ (Qc b p t a) (doP b p t a)=true then [] else [doP b p t a]) else []
theorem To {b:Aa} (h:Aw b) {p:Ab} (hp:Ax b p) {t:Int} {a:Ao} (he:Oh b p t a=0):Ax b (Ml b p t a)/\(By b p t a).2=0/\a.Kind≠7:=by
 unfold Oh at he
 by_cases hk:a.Kind=7
 ·rw [if_pos hk] at he;omega
 ·rw [if_neg hk] at he
  rcases (Amk h hp t a).2 with h1 | h1
  ·exact absurd he h1
  ·exact⟨h1,he,hk⟩
theorem jK {b:Aa} (h:Aw b) {p:Ab} (hp:Ax b p) (t:Int) (a:Ao):Ax b (doP b p t a):=by
 unfold doP
 split
 ·rename_i he
  exact (I9 h (To h hp he).1).2.1
 ·exact hp
theorem Qe {b:Aa} (h:Aw b) {r:A4} {p:Ab} (hp:Ax b p) (h1:r.states.length<=10000000):N2 r p=some ⟨r.A0,r.Al,r.events,r.states++[p]⟩:=by
 refine db ?_
 unfold N2
 rw [Dy h hp]
 simp only [ac]
 exact (d3 (by simp;omega)).bind λ s hs=>cV (by rw [hs])
theorem Al1 {r:A4} (h1:r.events.length<=10000000) (a:Ao) (e:Int):Pp r a e=some ⟨r.A0,r.Al,r.events++[⟨r.A0.Time,a,e⟩],r.states⟩:=by
 refine db ?_
 unfold Pp
 exact (d3 (by simp;omega)).bind λ s hs=>cV (by rw [hs])
theorem uL {b:Aa}:∀ (l:List Ao) {p:Ab},Ax b p->(∀ x,x∈l->Aqu b x)->Ax b (l.foldl ap p)
 | [],_,hp,_=>hp
 | x::l,p,hp,hl=>uL l (A0s hp (hl x aj)) λ y hy=>hl y (ai _ hy)
theorem A7i {b:Aa} (h:Aw b) {T:Int} {P:Ab} {ros:List Av} {evs ev:List A6} {sts:List Ab} (hp:Ax b P) (h1:ev.length<=1000000) (h2:sts.length<=1000000) (a:Ao) :
  Wg ⟨⟨T,P,ros,evs⟩,b,ev,sts⟩ a=some ⟨⟨T,doP b P T a,ros,evs⟩,b,ev++doE b P T a,sts++doS b P T a⟩:=by
 obtain⟨ha,_⟩:=Amk h hp T a
 refine db ?_
 unfold Wg
 simp only [ha,ac]
 refine Ok.andThen (A:=λ s=>s=Oh b P T a) (B:=λ (_:Unit)=>False) ?_ (λ s hs=>?_) (λ _ h=>h.elim)
 ·unfold Yv Oh
  refine c9 (λ hq=>dh ?_) (λ hq=>dh ?_)
  ·rw [if_pos (by simpa using hq)]
  ·rw [if_neg (by simpa using hq)]
 subst hs
 rw [Al1 (by dsimp only;omega)]
 simp only [ac]
 refine c9 (λ hq=>cV ?_) (λ hq=>?_)
 ·have he:¬Oh b P T a=0:=by simpa using hq
  unfold doP doE doS
  rw [if_neg he,if_neg he,if_neg he];simp
 have he:Oh b P T a=0:=by simpa using hq
 obtain⟨hn,_,_⟩:=To h hp he
 have hn':Ax b (By b P T a).1:=hn
 rw [Qe h hn' (by dsimp only;omega)]
 simp only [ac]
 obtain⟨p1,p2,p3⟩:=I9 h hn'
 rw [p1]
 simp only [ac]
 have htr:=A2y h hn'
 have eP:doP b P T a=Mi b (By b P T a).1:=by unfold doP Ml;rw [if_pos he]
 have eE:doE b P T a=⟨T,a,0⟩::(Em b (By b P T a).1).map (λ x=>⟨T,x,0⟩):=by unfold doE Ml;rw [if_pos he,he]
 have eL:Qc b P T a=(Em b (By b P T a).1).foldl ap (By b P T a).1:=rfl
 refine Ok.andThen (A:=λ s=>∃ q:Ab,q=Qc b P T a/\s=(T,b.An,b.Ad,b.Ac,b.Ae,b.Phase,b.Aq,P.Ag,P.Ac,P.Ap,P.Am,ros,evs,q.Ag,ev++doE b P T a,sts++([(By b P T a).1]++Fc (Em b (By b P T a).1) (By b P T a).1),q.Ap)) (B:=λ (_:Unit)=>False) ?_ (λ s hs=>?_) (λ _ h=>h.elim)
 ·refine cX (I:=λ j s=>∃ q:Ab,q=((Em b (By b P T a).1).take j).foldl ap (By b P T a).1/\(q.Ac=(By b P T a).1.Ac/\q.Am=(By b P T a).1.Am)/\s=(T,b.An,b.Ad,b.Ac,b.Ae,b.Phase,b.Aq,P.Ag,P.Ac,P.Ap,P.Am,ros,evs,q.Ag,ev++(⟨T,a,0⟩::((Em b (By b P T a).1).take j).map (λ x=>(⟨T,x,0⟩:A6))),sts++([(By b P T a).1]++Fc ((Em b (By b P T a).1).take j) (By b P T a).1),q.Ap)) ⟨(By b P T a).1,rfl,⟨rfl,rfl⟩,?_⟩ (λ j x s hx hI=>?_) λ s hI=>?_
  ·simp [Fc,he]
  ·obtain⟨q,hq1,⟨hq2,hq3⟩,rfl⟩:=hI
   have hj:j<(Em b (By b P T a).1).length:=(aa.1 hx).1
   have hin:=htr.2 x (af hx)
   have hqok:Ax b q:=by
    rw [hq1]
    exact uL _ hn' λ y hy=>htr.2 y (bh hy)
   have hapok:=A0s hqok hin
   have hcl:=hqok.ncl
   have hli:=hqok.nli
   unfold Yw
   refine Ok.bind (P:=λ y=>y=_) (d7 (Al1 (r:=⟨⟨T,P,ros,evs⟩,b,ev++(⟨T,a,0⟩::((Em b (By b P T a).1).take j).map (λ x=>(⟨T,x,0⟩:A6))),sts++([(By b P T a).1]++Fc ((Em b (By b P T a).1).take j) (By b P T a).1)⟩) (by simp;omega) x 0) rfl) λ y hy=>?_
   subst hy
   have hfold:((Em b (By b P T a).1).take (j+1)).foldl ap (By b P T a).1=ap q x:=by rw [Bj hx,aX,←hq1];rfl
   have hint:Fc ((Em b (By b P T a).1).take (j+1)) (By b P T a).1=Fc ((Em b (By b P T a).1).take j) (By b P T a).1++[ap q x]:=by rw [Bj hx,Z9,←hq1]
   refine c9 (λ hk=>?_) (λ hk=>?_)
   ·have hk2:x.Kind=2:=by simpa using hk
    have hx1:0<=x.Unit/\x.Unit<b.Ad.length:=by
     rcases hin with⟨_,h3⟩ | ⟨h3,_⟩
     ·exact h3
     ·omega
    have eA:ap q x=⟨q.Ag.set x.Unit.toNat false,(By b P T a).1.Ac,q.Ap,(By b P T a).1.Am⟩:=by
     unfold ap;rw [if_pos hk2,←hq2,←hq3];rfl
    refine (cY (l:=q.Ag) hx1.1 (by omega)).bind λ _ _=>(da (l:=q.Ag) hx1.1 (by omega)).bind λ C hC=>?_
    subst hC
    refine Ok.bind (P:=λ y=>y=_) (d7 (Qe h (r:=⟨⟨T,P,ros,evs⟩,b,(ev++(⟨T,a,0⟩::((Em b (By b P T a).1).take j).map (λ x=>(⟨T,x,0⟩:A6))))++[⟨T,x,0⟩],sts++([(By b P T a).1]++Fc ((Em b (By b P T a).1).take j) (By b P T a).1)⟩) (p:=⟨q.Ag.set x.Unit.toNat false,(By b P T a).1.Ac,q.Ap,(By b P T a).1.Am⟩) (by rw [←eA];exact hapok) (by simp [Ko];omega)) rfl) λ y hy=>cW ?_
    subst hy
    refine⟨ap q x,hfold.symm,by rw [eA];exact⟨rfl,rfl⟩,?_⟩
    rw [hint,eA,Bj hx]
    simp
   ·have hk2:¬x.Kind=2:=by simpa using hk
    have hx1:0<=x.Unit/\x.Unit<b.Ae.length:=by
     rcases hin with⟨h3,_⟩ | ⟨_,h3,_⟩
     ·omega
     ·exact h3
    have eA:ap q x=⟨q.Ag,(By b P T a).1.Ac,q.Ap.set x.Unit.toNat x.Value,(By b P T a).1.Am⟩:=by
     unfold ap;rw [if_neg hk2,←hq2,←hq3];rfl
    refine (cY (l:=q.Ap) hx1.1 (by omega)).bind λ _ _=>(da (l:=q.Ap) hx1.1 (by omega)).bind λ C hC=>?_
    subst hC
    refine Ok.bind (P:=λ y=>y=_) (d7 (Qe h (r:=⟨⟨T,P,ros,evs⟩,b,(ev++(⟨T,a,0⟩::((Em b (By b P T a).1).take j).map (λ x=>(⟨T,x,0⟩:A6))))++[⟨T,x,0⟩],sts++([(By b P T a).1]++Fc ((Em b (By b P T a).1).take j) (By b P T a).1)⟩) (p:=⟨q.Ag,(By b P T a).1.Ac,q.Ap.set x.Unit.toNat x.Value,(By b P T a).1.Am⟩) (by rw [←eA];exact hapok) (by simp [Ko];omega)) rfl) λ y hy=>cW ?_
    subst hy
    refine⟨ap q x,hfold.symm,by rw [eA];exact⟨rfl,rfl⟩,?_⟩
    rw [hint,eA,Bj hx]
    simp
  ·obtain⟨q,hq1,_,rfl⟩:=hI
   rw [aI] at hq1 ⊢
   exact⟨q,hq1,by rw [eE]⟩
 ·obtain⟨q,hq,rfl⟩:=hs
  have hqok:Ax b q:=by rw [hq,eL];exact uL _ hn' htr.2
  have hqS:q=⟨q.Ag,(By b P T a).1.Ac,q.Ap,(By b P T a).1.Am⟩:=by
   have h3:=htr.1
   rw [←eL,←hq] at h3
   rw [h3]
  have hsm:=A08 (hqok.lens h) (Mi b (By b P T a).1)
  have hsm1:=hsm.1
  rw [hqS] at hsm1
  have e6:J_ ⟨q.Ag,(By b P T a).1.Ac,q.Ap,(By b P T a).1.Am⟩ (Mi b (By b P T a).1)=J_ (Qc b P T a) (doP b P T a):=by rw [←hqS,hq,eP]
  refine Ok.bind (P:=λ y=>y=J_ (Qc b P T a) (doP b P T a)) (d7 hsm1 e6) λ y hy=>?_
  subst hy
  have eD:doS b P T a=[(By b P T a).1]++Fc (Em b (By b P T a).1) (By b P T a).1++(if J_ (Qc b P T a) (doP b P T a)=true then [] else [doP b P T a]):=by unfold doS Ml;rw [if_pos he]
  cases hsb:J_ (Qc b P T a) (doP b P T a) with
  | false=>
   rw [hsb] at eD
   refine Ok.bind (P:=λ y=>y=_) (d7 (Qe h (r:=⟨⟨T,P,ros,evs⟩,b,ev++doE b P T a,sts++([(By b P T a).1]++Fc (Em b (By b P T a).1) (By b P T a).1)⟩) p2 (by simp [Ko];omega)) rfl) λ y hy=>cV ?_
   subst hy
   rw [eD,eP]
   simp
  | true=>
   rw [hsb] at eD
   refine cV ?_
   rw [eD,eP]
   simp
end Go.Proofs.YtpdbkiafikdgpaaGreatDoor
