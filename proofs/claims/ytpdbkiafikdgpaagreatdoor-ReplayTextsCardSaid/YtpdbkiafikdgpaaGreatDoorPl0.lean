import Derived.Test.YtpdbkiafikdgpaaGreatDoorMo
import Derived.Test.YtpdbkiafikdgpaaGreatDoorHo
import Derived.Lib.ItoaLen
namespace Go.Proofs.YtpdbkiafikdgpaaGreatDoor
open Go.SL
theorem Pk {x n:Int} (h:0<n):-n<Int.tmod x n/\Int.tmod x n<n:=by
 have h1:=Int.tmod_lt_of_pos x h
 have h2:=Int.lt_tmod_of_pos x h
 exact⟨h2,h1⟩
theorem vH {x n:Int} (h:0<n) (h0:0<=x):0<=Int.tmod x n/\Int.tmod x n<n:=⟨Int.tmod_nonneg n h0,(Pk h).2⟩
structure Bm (s:Ad):Prop where
 lo:0<=s.At
 hi:s.At<=s.L.length
 len:s.L.length<=600
def InR (n r:Int):Prop:=(1<=n->0<=r/\r<n)/\(n<1->r=0)
theorem Aou (x n:Int) (h:n<=4611686018427387904):Ok (F35 x n) (InR n):=by
 unfold F35
 refine c9 (λ h1=>?_) λ h1=>?_
 ·simp only [cY] at h1
  exact cq ⟨λ h2=>by omega,λ _=>rfl⟩
 ·simp only [cZ] at h1
  refine (Ok.nzI (by omega)).bind λ _ _=>(Ok.nzI (by omega)).bind λ _ _=>cq ⟨λ _=>?_,λ h2=>by omega⟩
  have h2:=Pk (x:=x) (n:=n) (by omega)
  rw [Bp (by omega)]
  exact vH (by omega) (by omega)
theorem Ar3 {s:Ad} (hs:Bm s) (n:Int) (h:n<=4611686018427387904):Ok (F19 s n) λ y=>Bm y.2/\InR n y.1:=by
 obtain⟨h1,h2,h3⟩:=hs
 unfold F19
 refine c9 (λ h4=>?_) λ h4=>?_
 ·exact cq ⟨⟨h1,h2,h3⟩,λ h5=>⟨by simp,by show (0:Int)<n;omega⟩,λ _=>rfl⟩
 ·simp only [cZ] at h4
  have e:w64 (s.At+1)=s.At+1:=Bp (by omega)
  rw [e,Bp (n:=s.At+1-1) (by omega)]
  refine (cF (by omega) (by omega)).bind λ x _=>(Aou x n h).bind λ r hr=>cq ⟨⟨?_,?_,h3⟩,hr⟩
  ·show 0<=s.At+1;omega
  ·show s.At+1<=(s.L.length:Int);omega
theorem C5 {s:Ad} (hs:Bm s) (n:Int) (h0:1<=n) (h:n<=4611686018427387904):Ok (F19 s n) λ y=>Bm y.2/\0<=y.1/\y.1<n:=
 (Ar3 hs n h).mono λ _ h=>⟨h.1,h.2.1 h0⟩
theorem E1 {s:Ad} (hs:Bm s) (lo hi:Int) (h:lo<=hi) (h0:-1000000000000<=lo) (h1:hi<=1000000000000):Ok (F26 s lo hi) λ y=>Bm y.2/\lo<=y.1/\y.1<=hi:=by
 unfold F26
 have e:w64 (w64 (hi-lo)+1)=hi-lo+1:=by rw [Bp (n:=hi-lo) (by omega),Bp (by omega)]
 rw [e]
 refine (C5 hs _ (by omega) (by omega)).bind λ y hy=>cq ⟨hy.1,?_⟩
 have:=hy.2
 show lo<=w64 (lo+y.1)/\w64 (lo+y.1)<=hi
 rw [Bp (by omega)]
 omega
theorem D1 {s:Ad} (hs:Bm s) (l:List Int) (h:1<=l.length) (h1:l.length<=1000):Ok (F27 s l) λ y=>Bm y.2/\y.1∈l:=by
 unfold F27
 refine (C5 hs _ (by omega) (by omega)).bind λ y hy=>?_
 have:=hy.2
 refine (cF (by omega) (by omega)).bind λ x hx=>cq ⟨hy.1,ak hx⟩
theorem Aot (l:List Int):Ok (F9 l) Bm:=by
 unfold F9
 refine (Ok.cutI (by omega) (by omega) (by omega)).bind λ y hy=>cq ⟨by simp,by simp,?_⟩
 subst hy
 simp only [ca,aW]
 omega
def Pc (nb:Int) (ns nc:Nat) (x:Af):Prop:=
 (0<=x.A/\x.A<nb)/\((x.Kind=1/\x.A<x.B/\x.B<nb)\/(x.Kind=2/\0<=x.B/\x.B<ns)\/(x.Kind=3/\0<=x.B/\x.B<nc))
def brs (l:List Af) (k:Int) (i:Nat):List Af:=l.filter λ x=>x.Kind==k&&x.B==(i:Int)
def Aj6 (x:A8):Prop:=(1<=x.Rating/\x.Rating<=50000)/\(0<=x.Least/\x.Least<=x.Rating)/\0<=x.Start/\x.Start<=600
def Add (i:Nat) (x:A1):Prop:=
 (0<=x.Load/\x.Load<=50000)/\(0<=x.Least/\x.Least<=x.Load)/\(0<=x.By/\x.By<=15)/\(-1<=x.Thruster/\x.Thruster<=7)/\x.Needs.length<=4 /\
 (∀ n,n∈x.Needs->0<=n/\n<(i:Int))/\∀ (j:Nat) a b,x.Needs[j]? = some a->x.Needs[j+1]? = some b->a<b
structure Bg (b:Aa):Prop where
 buses:1<=b.Ap/\b.Ap<=6
 brl:b.Ag.length<=24
 sol:b.Ac.length<=8
 col:b.Ah.length<=16
 phase:0<=b.Phase/\b.Phase<=1800
 freq:0<=b.An/\b.An<=6000
 br:∀ x,x∈b.Ag->Pc b.Ap b.Ac.length b.Ah.length x
 one:∀ i,i<b.Ac.length->(brs b.Ag 2 i).length=1
 any:∀ i,i<b.Ah.length->brs b.Ag 3 i≠[]
 nodup:∀ i,((brs b.Ag 3 i).map (·.A)).Nodup
 so:∀ x,x∈b.Ac->Aj6 x
 co:∀ (i:Nat) x,b.Ah[i]? = some x->Add i x
theorem Gd (l m:List Af) (k:Int) (i:Nat):brs (l++m) k i=brs l k i++brs m k i:=by unfold brs;rw [bQ]
theorem Al6 (x:Af) (k:Int) (i:Nat):brs [x] k i=if x.Kind=k/\x.B=(i:Int) then [x] else []:=by
 unfold brs
 simp only [bh,List.filter_nil,ac,da]
theorem Ib {l:List Af} {k:Int} {i:Nat} (h:∀ x,x∈l->x.Kind=k->x.B≠(i:Int)):brs l k i=[]:=by
 unfold brs
 rw [List.filter_eq_nil_iff]
 intro x hx
 simp only [ac,da,not_and]
 exact h x hx
def Ie (nb:Int) (l:List Af):Prop:=∀ x,x∈l->x.Kind=1/\0<=x.A/\x.A<x.B/\x.B<nb
structure Kk (nb:Int) (l:List Af) (so:List A8):Prop where
 len:l.length<=4+so.length
 br:∀ x,x∈l->(0<=x.A/\x.A<nb)/\((x.Kind=1/\x.A<x.B/\x.B<nb)\/(x.Kind=2/\0<=x.B/\x.B<so.length))
 one:∀ i,i<so.length->(brs l 2 i).length=1
 so:∀ x,x∈so->Aj6 x
structure Pa (nb:Int) (l:List Af) (ns:Nat) (co:List A1):Prop where
 len:l.length<=4+ns+2*co.length
 br:∀ x,x∈l->Pc nb ns co.length x
 one:∀ i,i<ns->(brs l 2 i).length=1
 any:∀ i,i<co.length->brs l 3 i≠[]
 nodup:∀ i,((brs l 3 i).map (·.A)).Nodup
 co:∀ (i:Nat) x,co[i]? = some x->Add i x/\x.Thruster<=2
theorem Kk.cons {nb:Int} {l:List Af} {so:List A8} (h:Kk nb l so):Pa nb l so.length [] where
 len:=by have:=h.len;simp;omega
 br x hx:=by
  obtain⟨h1,h2⟩:=h.br x hx
  exact⟨h1,h2.imp id .inl⟩
 one:=h.one
 any i hi:=by simp at hi
 nodup i:=by
  rw [Ib]
  ·simp
  ·intro x hx h3
   obtain⟨_,h2⟩:=h.br x hx
   omega
 co i x hx:=by simp at hx
theorem Kk.add {nb:Int} {l:List Af} {so:List A8} (h:Kk nb l so) {x:Af} {y:A8} (hx:x.Kind=2/\x.B=so.length/\0<=x.A/\x.A<nb) (hy:Aj6 y):Kk nb (l++[x]) (so++[y]) where
 len:=by have:=h.len;simp;omega
 br z hz:=by
  rcases ax.1 hz with hz | hz
  ·obtain⟨h1,h2⟩:=h.br z hz
   refine⟨h1,?_⟩
   rw [au]
   simp only [aJ,aQ]
   omega
  ·simp at hz;subst hz
   refine⟨hx.2.2,.inr ⟨hx.1,?_⟩⟩
   rw [au]
   simp only [aJ,aQ]
   omega
 one i hi:=by
  rw [au] at hi
  simp only [aJ,aQ] at hi
  rw [Gd,Al6,au]
  by_cases e:i=so.length
  ·rw [Ib,if_pos ⟨hx.1,by omega⟩]
   ·rfl
   ·intro z hz h2
    obtain⟨_,h3⟩:=h.br z hz
    omega
  ·rw [h.one i (by omega),if_neg (by omega)];rfl
 so z hz:=by
  rcases ax.1 hz with hz | hz
  ·exact h.so z hz
  ·simp at hz;subst hz;exact hy
theorem Pa.add {nb:Int} {l m:List Af} {ns:Nat} {co:List A1} (h:Pa nb l ns co) {y:A1} (hm:∀ x,x∈m->x.Kind=3/\x.B=co.length/\0<=x.A/\x.A<nb) (h1:m≠[]) (h2:m.length<=2) (h3:(m.map (·.A)).Nodup)
  (hy:Add co.length y/\y.Thruster<=2):Pa nb (l++m) ns (co++[y]):=by
 have e1:brs m 3 co.length=m:=by
  unfold brs
  rw [List.filter_eq_self]
  intro x hx
  obtain⟨g1,g2,_⟩:=hm x hx
  simp [g1,g2]
 have e2:∀ i,i≠co.length->brs m 3 i=[]:=λ i hi=>Ib λ x hx _ e=>by
  have:=(hm x hx).2.1
  omega
 have e3:brs l 3 co.length=[]:=Ib λ x hx h3 e=>by
  obtain⟨_,g⟩:=h.br x hx
  omega
 have hlen:(co++[y]).length=co.length+1:=by simp
 refine⟨?_,λ z hz=>?_,λ i hi=>?_,λ i hi=>?_,λ i=>?_,λ i x hx=>?_⟩
 ·have:=h.len
  rw [au,hlen];omega
 ·rw [hlen]
  rcases ax.1 hz with hz | hz
  ·obtain⟨g1,g2⟩:=h.br z hz
   exact⟨g1,by omega⟩
  ·obtain⟨g1,g2,g3⟩:=hm z hz
   exact⟨g3,by omega⟩
 ·have:brs m 2 i=[]:=Ib λ x hx h2=>by have:=(hm x hx).1;omega
  rw [Gd,this,bD]
  exact h.one i hi
 ·rw [Gd]
  rw [hlen] at hi
  by_cases e:i=co.length
  ·subst e;rw [e1];simp [h1]
  ·have:=h.any i (by omega)
   simp [this]
 ·rw [Gd]
  by_cases e:i=co.length
  ·subst e;rw [e1,e3];simpa using h3
  ·rw [e2 i e,bD];exact h.nodup i
 ·rw [List.getElem?_append] at hx
  split at hx
  ·exact h.co i x hx
  ·rename_i hi
   have:i=co.length:=by
    have:=(aa.1 hx).1
    simp at this;omega
   subst this
   simp at hx;subst hx;exact hy
theorem Ie.nil (nb:Int):Ie nb []:=λ x hx=>by cases hx
theorem Ie.add {nb:Int} {l:List Af} (h:Ie nb l) {x:Af} (hx:x.Kind=1/\0<=x.A/\x.A<x.B/\x.B<nb):Ie nb (l++[x]):=λ z hz=>by
 rcases ax.1 hz with hz | hz
 ·exact h z hz
 ·simp at hz;subst hz;exact hx
theorem Ie.gens {nb:Int} {l:List Af} (h:Ie nb l) (hl:l.length<=4):Kk nb l [] where
 len:=by simpa using hl
 br x hx:=by have:=h x hx;exact⟨by omega,.inl (by omega)⟩
 one i hi:=by simp at hi
 so x hx:=by cases hx
theorem Ajz {y:Int×Ad} (hy:1<=y.1/\y.1<=4) {s0:Ad} (hs0:Bm s0) :
  Ok (whileN (Ri y) 1152921504606846976 (1,s0.L,s0.At,([]:List Af))) (Du (λ s=>Bm ⟨s.2.1,s.2.2.1⟩/\Ie y.1 s.2.2.2/\s.2.2.2.length<=3) (λ (_:Unit)=>False)):=by
 refine cv (λ s=>(1<=s.1/\s.1<=4/\s.1<=y.1)/\Bm ⟨s.2.1,s.2.2.1⟩/\Ie y.1 s.2.2.2/\(s.2.2.2.length:Int)+1<=s.1) (λ s=>(y.1-s.1).toNat) _ _ ?_ ?_ ?_
 ·exact⟨by dsimp only;omega,hs0,Ie.nil _,by simp⟩
 ·dsimp only;omega
 ·rintro⟨i,L,a,l⟩ ⟨⟨h1,h2,h3⟩,h4,h5,h6⟩
  dsimp only at h1 h2 h3 h4 h5 h6
  unfold Ri
  refine c9 (λ h=>?_) (λ h=>?_)
  ·simp only [cY] at h
   have e:w64 (i+1)=i+1:=Bp (by omega)
   dsimp only
   rw [e]
   refine (C5 h4 6 (by omega) (by omega)).bind λ u hu=>c9 (λ _=>?_) (λ _=>?_)
   ·refine (C5 hu.1 i h1 (by omega)).bind λ v hv=>(cx (by simp;omega)).bind λ m hm=>cr ?_
    subst hm
    have:=hv.2
    refine⟨⟨by dsimp only;omega,hv.1,h5.add ⟨rfl,by dsimp only;omega,by dsimp only;omega,by dsimp only;omega⟩,by simp;omega⟩,by dsimp only;omega⟩
   ·refine cr ⟨⟨by dsimp only;omega,hu.1,h5,by dsimp only;omega⟩,by dsimp only;omega⟩
  ·exact cA ⟨h4,h5,by dsimp only;omega⟩
theorem Ajy {y:Int×Ad} (hy:1<=y.1/\y.1<=4) {s0:Ad} (hs0:Bm s0) {k:Int} (hk:0<=k/\k<5) {l0:List Af} (hl0:Kk y.1 l0 []) :
  Ok (whileN (Rh y) 1152921504606846976 (k,s0.L,s0.At,l0,([]:List A8))) (Du (λ s=>Bm ⟨s.2.1,s.2.2.1⟩/\Kk y.1 s.2.2.2.1 s.2.2.2.2/\s.2.2.2.2.length<=4) (λ (_:Unit)=>False)):=by
 refine cv (λ s=>(0<=s.1/\s.1+(s.2.2.2.2.length:Int)<=4)/\Bm ⟨s.2.1,s.2.2.1⟩/\Kk y.1 s.2.2.2.1 s.2.2.2.2) (λ s=>s.1.toNat) _ _ ?_ ?_ ?_
 ·exact⟨by simp;omega,hs0,hl0⟩
 ·dsimp only;omega
 ·rintro⟨i,L,a,l,so⟩ ⟨⟨h1,h2⟩,h4,h5⟩
  dsimp only at h1 h2 h4 h5
  unfold Rh
  refine c9 (λ h=>?_) (λ h=>?_)
  ·simp only [cY] at h
   have e:w64 (i-1)=i-1:=Bp (by omega)
   have hl:=h5.len
   dsimp only
   rw [e]
   refine (C5 h4 y.1 hy.1 (by omega)).bind λ u hu=>(cx (by simp;omega)).bind λ m hm=>?_
   refine (D1 hu.1 _ (by simp) (by simp)).bind λ v hv=>(D1 hv.1 _ (by simp) (by simp)).bind λ p hp=>(D1 hp.1 _ (by simp) (by simp)).bind λ q hq=>(cx (by simp;omega)).bind λ o ho=>cr ?_
   subst hm;subst ho
   have g1:=hu.2
   have g2:v.1=10\/v.1=50\/v.1=100:=by simpa using hv.2
   have g3:p.1=0\/p.1=5\/p.1=v.1:=by simpa using hp.2
   have g4:q.1=0\/q.1=1\/q.1=3:=by simpa using hq.2
   refine⟨⟨by simp;omega,hq.1,h5.add ⟨rfl,rfl,g1⟩ ⟨by dsimp only;omega,by dsimp only;omega,by dsimp only;omega⟩⟩,by dsimp only;omega⟩
  ·exact cA ⟨h4,h5,by dsimp only;omega⟩
theorem Alz {x:Int} (h:0<=x) (h2:x<=50000):0<=w64 (Int.tdiv x 2)/\w64 (Int.tdiv x 2)<=x:=by
 have:Int.tdiv x 2=x / 2:=Int.tdiv_eq_ediv_of_nonneg h
 rw [this,Bp (by omega)]
 omega
theorem Ain {x:Int} (h:0<=x) (h2:x<=50000):0<=w64 (Int.tdiv x 3)/\w64 (Int.tdiv x 3)<=x:=by
 have:Int.tdiv x 3=x / 3:=Int.tdiv_eq_ediv_of_nonneg h
 rw [this,Bp (by omega)]
 omega
theorem Ajx {y:Int×Ad} (hy:1<=y.1/\y.1<=4) {s0:Ad} (hs0:Bm s0) {k:Int} (hk:0<=k/\k<6) {ns:Nat} (hns:ns<=4) {l0:List Af} (hl0:Pa y.1 l0 ns []) :
  Ok (whileN (Rg y) 1152921504606846976 (k,s0.L,s0.At,l0,([]:List A1))) (Du (λ s=>Bm ⟨s.2.1,s.2.2.1⟩/\Pa y.1 s.2.2.2.1 ns s.2.2.2.2/\s.2.2.2.2.length<=5) (λ (_:Unit)=>False)):=by
 refine cv (λ s=>(0<=s.1/\s.1+(s.2.2.2.2.length:Int)<=5)/\Bm ⟨s.2.1,s.2.2.1⟩/\Pa y.1 s.2.2.2.1 ns s.2.2.2.2) (λ s=>s.1.toNat) _ _ ?_ ?_ ?_
 ·exact⟨by simp;omega,hs0,hl0⟩
 ·dsimp only;omega
 ·rintro⟨i,L,a,l,co⟩ ⟨⟨h1,h2⟩,h4,h5⟩
  dsimp only at h1 h2 h4 h5
  unfold Rg
  refine c9 (λ h=>?_) (λ h=>?_)
  ·simp only [cY] at h
   have e:w64 (i-1)=i-1:=Bp (by omega)
   have hl:=h5.len
   dsimp only
   rw [e]
   refine (C5 h4 y.1 hy.1 (by omega)).bind λ u hu=>(cx (by simp;omega)).bind λ m hm=>?_
   subst hm
   have g1:=hu.2
   refine Ok.bind (P:=λ v=>Bm v.2) (cw (λ _=>(C5 hu.1 4 (by omega) (by omega)).mono λ _ h=>h.1) λ _=>hu.1) λ v hv=>?_
   refine Ok.inner (A:=λ (r:List Af)=>∃ m,r=l++m/\(∀ x,x∈m->x.Kind=3/\x.B=co.length/\0<=x.A/\x.A<y.1)/\m≠[]/\m.length<=2/\(m.map (·.A)).Nodup) (B:=λ (_:Unit)=>False) ?_ (λ r hr=>?_) (λ _ h=>h.elim)
   ·unfold uJ
    refine c9 (λ hc=>?_) (λ hc=>?_)
    ·simp only [ac,cY] at hc
     have e2:w64 (u.1+1)=u.1+1:=Bp (by omega)
     rw [e2]
     refine (Ok.nzI (by omega)).bind λ _ _=>(cx (by simp;omega)).bind λ m hm=>cM ?_
     subst hm
     have g2:=vH (x:=u.1+1) (n:=y.1) (by omega) (by omega)
     have g3:Int.tmod (u.1+1) y.1≠u.1:=by
      rw [Int.tmod_eq_emod_of_nonneg (by omega)]
      intro e3
      by_cases g4:u.1+1=y.1
      ·rw [g4,Int.emod_self] at e3;omega
      ·rw [Int.emod_eq_of_lt (by omega) (by omega)] at e3;omega
     refine⟨_,aH _ _ _,?_,by simp,by simp,?_⟩
     ·intro x hx
      simp at hx
      rcases hx with rfl | rfl
      ·exact⟨rfl,rfl,g1⟩
      ·exact⟨rfl,rfl,g2⟩
     ·simp
      exact λ h=>g3 h.symm
    ·exact cM ⟨_,rfl,λ x hx=>by simp at hx;subst hx;exact⟨rfl,rfl,g1⟩,by simp,by simp,by simp⟩
   ·obtain⟨m,rfl,hm,hm1,hm2,hm3⟩:=hr
    refine (D1 hv _ (by simp) (by simp)).bind λ p hp=>(D1 hp.1 _ (by simp) (by simp)).bind λ q hq=>(C5 hq.1 3 (by omega) (by omega)).bind λ pr hpr=>(E1 hpr.1 (-1) 2 (by omega) (by omega) (by omega)).bind λ th hth=>?_
    have k1:p.1=0\/p.1=5\/p.1=20\/p.1=40:=by simpa using hp.2
    have k2:q.1=0\/q.1=w64 (Int.tdiv p.1 2)\/q.1=p.1:=by simpa using hq.2
    have k3:=Alz (x:=p.1) (by omega) (by omega)
    have k4:=hpr.2
    have k5:=hth.2
    refine Ok.bind (P:=λ v=>Bm v.2) (cw (λ _=>(C5 hth.1 4 (by omega) (by omega)).mono λ _ h=>h.1) λ _=>hth.1) λ w hw=>c9 (λ hc=>?_) (λ hc=>?_)
    ·simp only [Alk,ac,cY] at hc
     refine (C5 hw _ (by omega) (by omega)).bind λ n hn=>(cx (by simp;omega)).bind λ o ho=>cr ?_
     subst ho
     have k6:=hn.2
     refine⟨⟨by simp;omega,hn.1,h5.add hm hm1 hm2 hm3 ⟨⟨by dsimp only;omega,by dsimp only;omega,by dsimp only;omega,by dsimp only;omega,by simp,?_,?_⟩,by dsimp only;omega⟩⟩,by dsimp only;omega⟩
     ·intro z hz;simp at hz;subst hz;exact k6
     ·intro j a b ha hb
      simp at hb
    ·refine (cx (by simp;omega)).bind λ o ho=>cr ?_
     subst ho
     refine⟨⟨by simp;omega,hw,h5.add hm hm1 hm2 hm3 ⟨⟨by dsimp only;omega,by dsimp only;omega,by dsimp only;omega,by dsimp only;omega,by simp,?_,?_⟩,by dsimp only;omega⟩⟩,by dsimp only;omega⟩
     ·intro z hz;simp at hz
     ·intro j a b ha hb;simp at ha
  ·exact cA ⟨h4,h5,by dsimp only;omega⟩
structure Ar4 (b:Aa):Prop where
 ok:Bg b
 buses:b.Ap<=4
 brl:b.Ag.length<=18
 sol:b.Ac.length<=4
 col:b.Ah.length<=5
 thr:∀ x,x∈b.Ah->x.Thruster<=2
theorem Aku {s:Ad} (hs:Bm s):Ok (F10 s) λ y=>Ar4 y.1/\Bm y.2:=by
 unfold F10
 refine (E1 hs 1 4 (by omega) (by omega) (by omega)).bind λ y1 h1=>(D1 h1.1 _ (by simp) (by simp)).bind λ y3 h3=>(D1 h3.1 _ (by simp) (by simp)).bind λ y5 h5=>?_
 refine (Ajz h1.2 h5.1).andThen (λ s0 hs0=>?_) (λ _ h=>h.elim)
 refine Ok.bind (P:=λ v=>Bm v.2) (cw (λ _=>(C5 hs0.1 2 (by omega) (by omega)).mono λ _ h=>h.1) λ _=>hs0.1) λ y15 h15=>?_
 have hb:=h1.2
 refine Ok.andThen (A:=λ (l:List Af)=>Ie y1.1 l/\l.length<=4) (B:=λ (_:Unit)=>False) ?_ (λ l hl=>?_) (λ _ h=>h.elim)
 ·unfold uK
  refine c9 (λ hc=>?_) (λ hc=>cM ⟨hs0.2.1,by omega⟩)
  simp only [ac,cY] at hc
  have e:w64 (y1.1-1)=y1.1-1:=Bp (by omega)
  rw [e]
  have:=hs0.2.2
  refine (cx (by simp;omega)).bind λ m hm=>cM ?_
  subst hm
  exact⟨hs0.2.1.add ⟨rfl,by simp,by dsimp only;omega,by dsimp only;omega⟩,by simp;omega⟩
 ·refine (C5 h15 5 (by omega) (by omega)).bind λ y20 h20=>?_
  refine (Ajy h1.2 h20.1 h20.2 (hl.1.gens hl.2)).andThen (λ s2 hs2=>?_) (λ _ h=>h.elim)
  refine (C5 hs2.1 6 (by omega) (by omega)).bind λ y35 h35=>?_
  refine (Ajx h1.2 h35.1 h35.2 hs2.2.2 hs2.2.1.cons).andThen (λ s3 hs3=>cq ⟨?_,hs3.1⟩) (λ _ h=>h.elim)
  obtain⟨_,hc,hl5⟩:=hs3
  have hl4:=hs2.2.2
  have hlen:=hc.len
  have p3:y3.1=0\/y3.1=50\/y3.1=200\/y3.1=1800:=by simpa using h3.2
  have p5:y5.1=0\/y5.1=10\/y5.1=50:=by simpa using h5.2
  refine⟨⟨by dsimp only;omega,by dsimp only;omega,by dsimp only;omega,by dsimp only;omega,by dsimp only;omega,by dsimp only;omega,hc.br,hc.one,hc.any,hc.nodup,hs2.2.1.so,λ i x hx=>(hc.co i x hx).1⟩,by dsimp only;omega,by dsimp only;omega,hl4,hl5,λ x hx=>?_⟩
  obtain⟨i,hi⟩:=ch hx
  exact (hc.co i x hi).2

def Dh (x:Ae):Prop:=(0<=x.State/\x.State<=3)/\(0<=x.Since/\x.Since<=2147483648)/\(0<=x.An/\x.An<=6000)/\0<=x.Phase/\x.Phase<=3599
def Jp (b:Aa) (x:Aq):Prop:=
 0<=x.Number/\((x.Kind=1/\x.Number<b.Ac.length)\/(x.Kind=2/\x.Number<b.Ag.length)\/(x.Kind=3/\x.Number<b.Ap)\/(x.Kind=4/\x.Number<b.Ah.length))
def Q5 (x y:Aq):Prop:=x.Kind<y.Kind\/x.Kind=y.Kind/\x.Number<y.Number
structure Pb (b:Aa) (l:List Aq):Prop where
 len:l.length<=32
 mem:∀ x,x∈l->Jp b x
 asc:∀ (j:Nat) x y,l[j]? = some x->l[j+1]? = some y->Q5 x y
def Dg (l:List Af) (c:List Bool) (i:Nat):List (Af×Bool):=(l.zip c).filter λ z=>(z.1.Kind==3&&z.1.B==(i:Int))&&z.2
structure Cd (b:Aa) (p:Ab):Prop where
 ncl:p.Am.length=b.Ag.length
 nso:p.Ac.length=b.Ac.length
 nli:p.Aw.length=b.Ah.length
 run:∀ x,x∈p.Ac->Dh x
 lim:∀ (i:Nat) n c,p.Aw[i]? = some n->b.Ah[i]? = some c->0<=n/\n<=c.Load
 one:∀ i,i<b.Ah.length->(Dg b.Ag p.Am i).length<=1
 brk:Pb b p.As
theorem Kc {l:List Af} {c:List Bool} {j:Nat} {x:Af} {v:Bool} (hx:l[j]? = some x) (hv:c[j]? = some v) (i:Nat) :
  Dg (l.take (j+1)) (c.take (j+1)) i=Dg (l.take j) (c.take j) i++if ((x.Kind==3&&x.B==(i:Int))&&v)=true then [(x,v)] else []:=by
 unfold Dg
 rw [Ec hx,Ec hv,List.zip_append (by
  have h1:=(aa.1 hx).1
  have h2:=(aa.1 hv).1
  simp;omega),bQ]
 congr 1
 simp only [List.zip_cons_cons,List.zip_nil_right,bh,List.filter_nil]
theorem Fy (x lo hi:Int):F82 x lo hi=true↔lo<=x/\x<=hi:=by
 simp [F82]
theorem Qa {b:Aa} (h:Bg b) (x:Aq):F64 b x=true↔Jp b x:=by
 have h1:=h.buses
 have h2:=h.brl
 have h3:=h.sol
 have h4:=h.col
 unfold F64 Jp
 rw [Bp (n:=(b.Ac.length:Int)-1) (by omega),Bp (n:=(b.Ag.length:Int)-1) (by omega),Bp (n:=b.Ap-1) (by omega),Bp (n:=(b.Ah.length:Int)-1) (by omega)]
 by_cases k1:x.Kind=1
 ·rw [da.2 k1,cond_true,Fy];omega
 rw [db.2 k1,cond_false]
 by_cases k2:x.Kind=2
 ·rw [da.2 k2,cond_true,Fy];omega
 rw [db.2 k2,cond_false]
 by_cases k3:x.Kind=3
 ·rw [da.2 k3,cond_true,Fy];omega
 rw [db.2 k3,cond_false]
 by_cases k4:x.Kind=4
 ·rw [da.2 k4,cond_true,Fy];omega
 ·rw [db.2 k4]
  simp only [cond_false,Bool.false_eq_true,false_iff]
  omega
theorem Ajn {l:List Af}:∀ {c d:List Bool},c.length=d.length->(∀ k:Nat,c[k]? = some true->d[k]? = some true)->∀ i,(Dg l c i).length<=(Dg l d i).length:=by
 induction l with
 | nil=>intro c d _ _ i;simp [Dg]
 | cons x l ih=>
  intro c d hl h i
  cases c with
  | nil=>simp [Dg]
  | cons v c=>cases d with
   | nil=>simp at hl
   | cons u d=>
    have:=ih (c:=c) (d:=d) (by simpa using hl) (λ k hk=>by have:=h (k+1) (by simpa using hk);simpa using this) i
    have h0:v=true->u=true:=λ e=>by have:=h 0 (by simp [e]);simpa using this
    unfold Dg at this ⊢
    simp only [List.zip_cons_cons,bh]
    cases hk:(x.Kind==3&&x.B==(i:Int)) with
    | false=>simpa using this
    | true=>
     cases v with
     | false=>cases u <;> simp <;> omega
     | true=>rw [h0 rfl];simp;omega
theorem Ai0 {b:Aa} (h:Bg b) {s0:Ad} (hs0:Bm s0) :
  Ok (whileN (Kq b) 1152921504606846976 (0,s0.L,s0.At,([]:List Bool))) (Du (λ s=>Bm ⟨s.2.1,s.2.2.1⟩/\s.2.2.2.length=b.Ag.length) (λ (_:Unit)=>False)):=by
 have hb:=h.brl
 refine cv (λ s=>(0<=s.1/\s.1<=(b.Ag.length:Int))/\Bm ⟨s.2.1,s.2.2.1⟩/\(s.2.2.2.length:Int)=s.1) (λ s=>((b.Ag.length:Int)-s.1).toNat) _ _ ?_ ?_ ?_
 ·exact⟨by dsimp only;omega,hs0,by simp⟩
 ·dsimp only;omega
 ·rintro⟨i,L,a,l⟩ ⟨⟨h1,h2⟩,h4,h5⟩
  dsimp only at h1 h2 h4 h5
  unfold Kq yT
  refine c9 (λ h=>?_) (λ h=>?_)
  ·simp only [cY] at h
   have e:w64 (i+1)=i+1:=Bp (by omega)
   dsimp only
   rw [e]
   refine (C5 h4 2 (by omega) (by omega)).bind λ u hu=>(cx (by simp;omega)).bind λ m hm=>cr ?_
   subst hm
   exact⟨⟨by dsimp only;omega,hu.1,by simp;omega⟩,by dsimp only;omega⟩
  ·simp only [cZ] at h
   exact cA ⟨h4,by dsimp only;omega⟩
theorem Bv {α:Type} {l:List α} {j:Nat} {x:α} (h:l[j]? = some x):getI l (j:Int)=some x:=by unfold getI;simp [h]
theorem Aiq {α:Type} {l:List α} {j:Nat} {x:α} (h:j<l.length):setI l (j:Int) x=some (l.set j x):=by
 unfold setI
 have h1:decide ((0:Int)<=(j:Int))=true:=by simp
 have h2:decide ((j:Int)<(l.length:Int))=true:=by simp;omega
 rw [h1,h2];simp
theorem Aiy {b:Aa} (h:Bg b) {n:Int} {i:Nat} (hn:n=(i:Int)) {c:List Bool} (hc:c.length=b.Ag.length) (w:Int×List Bool) (hw:w.1=n) :
  Ok (foldI (Ko w) b.Ag 0 (true,c)) (Du (λ s=>s.2.length=b.Ag.length/\(∀ k:Nat,s.2[k]? = some true->c[k]? = some true)/\(Dg b.Ag s.2 i).length<=1) (λ (_:Unit)=>False)):=by
 have hb:=h.brl
 refine cz (I:=λ j s=>s.2.length=b.Ag.length/\(∀ k:Nat,s.2[k]? = some true->c[k]? = some true)/\(s.1=true->Dg (b.Ag.take j) (s.2.take j) i=[])/\(Dg (b.Ag.take j) (s.2.take j) i).length<=1) ?_ (λ j x s hx hs=>?_) λ s hs=>?_
 ·exact⟨hc,λ _ h=>h,λ _=>by simp [Dg],by simp [Dg]⟩
 ·obtain⟨f,d⟩:=s
  obtain⟨h1,h2,h3,h4⟩:=hs
  dsimp only at h1 h2 h3 h4
  have hj:=(aa.1 hx).1
  obtain⟨v,hv⟩:∃ v,d[j]? = some v:=⟨_,ai (by omega)⟩
  have hcnt:cnt 0 j=(j:Int):=H_ (by omega)
  unfold Ko Zk
  dsimp only
  rw [hcnt,Bv hv,Aiq (by omega),hw,hn]
  cases hk:(x.Kind==3&&x.B==(i:Int)) with
  | false=>
   simp only [A5,Eb,Bool.false_and]
   refine cr ⟨h1,h2,λ e=>?_,?_⟩ <;> dsimp only <;> rw [Kc hx hv,hk]
   ·simpa using h3 e
   ·simpa using h4
  | true=>
   simp only [A5,Eb,bH]
   cases v with
   | false=>
    refine cr ⟨h1,h2,λ e=>?_,?_⟩ <;> dsimp only <;> rw [Kc hx hv,hk]
    ·simpa using h3 e
    ·simpa using h4
   | true=>
    have hset:(d.set j f)[j]? = some f:=by rw [cb (by omega)]
    have htake:(d.set j f).take j=d.take j:=by rw [List.take_set_of_le (am j)]
    refine cr ⟨by simpa using h1,λ k hk2=>?_,λ e=>?_,?_⟩
    ·dsimp only at hk2
     rw [ar] at hk2
     split at hk2
     ·rename_i e;subst e;exact h2 _ hv
     ·exact h2 _ hk2
    ·cases e
    ·dsimp only
     rw [Kc hx hset,hk,htake]
     cases f with
     | false=>simpa using h4
     | true=>simp [h3 rfl]
 ·rw [bG] at hs
  obtain⟨h1,h2,h3,h4⟩:=hs
  have:s.2.take b.Ag.length=s.2:=bv (by omega)
  rw [this] at h4
  exact⟨h1,h2,h4⟩
theorem Aiz {b:Aa} (h:Bg b) {c:List Bool} (hc:c.length=b.Ag.length) :
  Ok (whileN (Kp b) 1152921504606846976 (0,c)) (Du (λ s=>s.2.length=b.Ag.length/\∀ i,i<b.Ah.length->(Dg b.Ag s.2 i).length<=1) (λ (_:Unit)=>False)):=by
 have hco:=h.col
 refine cv (λ s=>(0<=s.1/\s.1<=(b.Ah.length:Int))/\s.2.length=b.Ag.length/\∀ i:Nat,(i:Int)<s.1->(Dg b.Ag s.2 i).length<=1) (λ s=>((b.Ah.length:Int)-s.1).toNat) _ _ ?_ ?_ ?_
 ·exact⟨by dsimp only;omega,hc,λ i hi=>by dsimp only at hi;omega⟩
 ·dsimp only;omega
 ·rintro⟨n,d⟩ ⟨⟨h1,h2⟩,h3,h4⟩
  dsimp only at h1 h2 h3 h4
  unfold Kp yS
  refine c9 (λ hq=>?_) (λ hq=>?_)
  ·simp only [cY] at hq
   have e:w64 (n+1)=n+1:=Bp (by omega)
   dsimp only
   refine (Aiy h (n:=n) (i:=n.toNat) (by omega) h3 (n,d) rfl).inner (λ s hs=>?_) (λ _ h=>h.elim)
   rw [e]
   obtain⟨g1,g2,g3⟩:=hs
   refine cr ⟨⟨by dsimp only;omega,g1,λ i hi=>?_⟩,by dsimp only;omega⟩
   dsimp only at hi ⊢
   by_cases e:(i:Int)=n
   ·have:i=n.toNat:=by omega
    subst this;exact g3
   ·exact aD (Ajn (by omega) g2 i) (h4 i (by omega))
  ·simp only [cZ] at hq
   exact cA ⟨h3,λ i hi=>h4 i (by omega)⟩
theorem Aix {b:Aa} (h:Bg b) {s0:Ad} (hs0:Bm s0) :
  Ok (whileN (Kn b) 1152921504606846976 (0,s0.L,s0.At,([]:List Ae))) (Du (λ s=>Bm ⟨s.2.1,s.2.2.1⟩/\s.2.2.2.length=b.Ac.length/\∀ x,x∈s.2.2.2->Dh x/\x.Since<=4) (λ (_:Unit)=>False)):=by
 have hb:=h.sol
 refine cv (λ s=>(0<=s.1/\s.1<=(b.Ac.length:Int))/\Bm ⟨s.2.1,s.2.2.1⟩/\(s.2.2.2.length:Int)=s.1/\∀ x,x∈s.2.2.2->Dh x/\x.Since<=4) (λ s=>((b.Ac.length:Int)-s.1).toNat) _ _ ?_ ?_ ?_
 ·exact⟨by dsimp only;omega,hs0,by simp,λ x hx=>by simp at hx⟩
 ·dsimp only;omega
 ·rintro⟨i,L,a,l⟩ ⟨⟨h1,h2⟩,h4,h5,h6⟩
  dsimp only at h1 h2 h4 h5 h6
  unfold Kn Zj
  refine c9 (λ h=>?_) (λ h=>?_)
  ·simp only [cY] at h
   have e:w64 (i+1)=i+1:=Bp (by omega)
   dsimp only
   rw [e]
   refine (D1 h4 _ (by simp) (by simp)).bind λ u hu=>(C5 hu.1 5 (by omega) (by omega)).bind λ v hv=>(D1 hv.1 _ (by simp) (by simp)).bind λ p hp=>(D1 hp.1 _ (by simp) (by simp)).bind λ q hq=>(cx (by simp;omega)).bind λ m hm=>cr ?_
   subst hm
   have g1:u.1=0\/u.1=1\/u.1=2\/u.1=2\/u.1=2\/u.1=3:=by simpa using hu.2
   have g2:=hv.2
   have g3:p.1=5000\/p.1=5000\/p.1=5005\/p.1=4950:=by simpa using hp.2
   have g4:q.1=0\/q.1=0\/q.1=40\/q.1=1800\/q.1=3590:=by simpa using hq.2
   refine⟨⟨by dsimp only;omega,hq.1,by simp;omega,λ x hx=>?_⟩,by dsimp only;omega⟩
   rcases ax.1 hx with hx | hx
   ·exact h6 x hx
   ·simp at hx;subst hx
    exact⟨⟨by dsimp only;omega,by dsimp only;omega,by dsimp only;omega,by dsimp only;omega⟩,by dsimp only;omega⟩
  ·simp only [cZ] at h
   exact cA ⟨h4,by dsimp only;omega,h6⟩
theorem Aiw {b:Aa} (h:Bg b) {s0:Ad} (hs0:Bm s0) :
  Ok (foldI Km b.Ah 0 (s0.L,s0.At,([]:List Int))) (Du (λ s=>Bm ⟨s.1,s.2.1⟩/\s.2.2.length=b.Ah.length/\∀ (i:Nat) n c,s.2.2[i]? = some n->b.Ah[i]? = some c->0<=n/\n<=c.Load) (λ (_:Unit)=>False)):=by
 have hb:=h.col
 refine cz (I:=λ j s=>Bm ⟨s.1,s.2.1⟩/\s.2.2.length=j/\∀ (i:Nat) n c,s.2.2[i]? = some n->b.Ah[i]? = some c->0<=n/\n<=c.Load) ?_ (λ j x s hx hs=>?_) λ s hs=>hs
 ·exact⟨hs0,rfl,λ i n c hn=>by simp at hn⟩
 ·obtain⟨L,a,l⟩:=s
  obtain⟨h1,h2,h3⟩:=hs
  dsimp only at h1 h2 h3
  have hj:=(aa.1 hx).1
  unfold Km
  dsimp only
  refine (D1 h1 _ (by simp) (by simp)).bind λ u hu=>(cx (by simp;omega)).bind λ m hm=>cr ⟨hu.1,?_,λ i n c hn hc=>?_⟩
  ·subst hm;simp [h2]
  ·dsimp only at hn
   subst hm
   rw [List.getElem?_append] at hn
   split at hn
   ·exact h3 i n c hn hc
   ·rename_i hi
    have hlt:=(aa.1 hn).1
    simp at hlt
    have:i=j:=by omega
    subst this
    rw [hx] at hc;cases hc
    rw [h2] at hn
    simp at hn;subst hn
    obtain⟨g1,g2,_⟩:=h.co _ x hx
    have g3:=Ain (x:=x.Load) (by omega) (by omega)
    have g4:u.1=x.Load\/u.1=x.Load\/u.1=x.Least\/u.1=w64 (Int.tdiv x.Load 3):=by simpa using hu.2
    omega
theorem Aiv {b:Aa} (h:Bg b) {s0:Ad} (hs0:Bm s0) :
  Ok (whileN (Kl b) 7 (1,s0.L,s0.At,([]:List Aq))) (Du (λ s=>Bm ⟨s.2.1,s.2.2.1⟩/\Pb b s.2.2.2/\s.2.2.2.length<=4) (λ (_:Unit)=>False)):=by
 refine cv (λ s=>(1<=s.1/\s.1<=5)/\Bm ⟨s.2.1,s.2.2.1⟩/\((s.2.2.2.length:Int)<s.1)/\(∀ x,x∈s.2.2.2->Jp b x/\x.Kind<s.1)/\∀ (j:Nat) x y,s.2.2.2[j]? = some x->s.2.2.2[j+1]? = some y->Q5 x y) (λ s=>(5-s.1).toNat) _ _ ?_ ?_ ?_
 ·exact⟨by dsimp only;omega,hs0,by simp,λ x hx=>by simp at hx,λ j x y hx=>by simp at hx⟩
 ·dsimp only;omega
 ·rintro⟨i,L,a,l⟩ ⟨⟨h1,h2⟩,h4,h5,h6,h7⟩
  dsimp only at h1 h2 h4 h5 h6 h7
  unfold Kl
  refine c9 (λ hq=>?_) (λ hq=>?_)
  ·simp only [cY] at hq
   have e:w64 (i+1)=i+1:=Bp (by omega)
   dsimp only
   rw [e]
   have skip:∀ {u:Ad},Bm u->Ok (some (.next (i+1,u.L,u.At,l)):Option (Ctl (Int×List Int×Int×List Aq) Unit)) (E_ (λ s=>((1<=s.1/\s.1<=5)/\Bm ⟨s.2.1,s.2.2.1⟩/\((s.2.2.2.length:Int)<s.1)/\(∀ x,x∈s.2.2.2->Jp b x/\x.Kind<s.1)/\∀ (j:Nat) x y,s.2.2.2[j]? = some x->s.2.2.2[j+1]? = some y->Q5 x y)/\(5-s.1).toNat<(5-i).toNat) (λ s=>Bm ⟨s.2.1,s.2.2.1⟩/\Pb b s.2.2.2/\s.2.2.2.length<=4) (λ _=>False)):=λ hu=>
    cr ⟨⟨by dsimp only;omega,hu,by dsimp only;omega,λ x hx=>⟨(h6 x hx).1,by have:=(h6 x hx).2;dsimp only;omega⟩,h7⟩,by dsimp only;omega⟩
   refine (C5 h4 5 (by omega) (by omega)).bind λ u hu=>c9 (λ _=>?_) (λ _=>skip hu.1)
   refine (C5 hu.1 4 (by omega) (by omega)).bind λ v hv=>c9 (λ he=>?_) (λ _=>skip hv.1)
   rw [Qa h] at he
   refine (cx (by simp;omega)).bind λ m hm=>cr ?_
   subst hm
   refine⟨⟨by dsimp only;omega,hv.1,by simp;omega,λ x hx=>?_,λ j x y hx hy=>?_⟩,by dsimp only;omega⟩
   ·rcases ax.1 hx with hx | hx
    ·exact⟨(h6 x hx).1,by have:=(h6 x hx).2;dsimp only;omega⟩
    ·simp at hx;subst hx;exact⟨he,by dsimp only;omega⟩
   ·dsimp only at hx hy
    have hyl:=(aa.1 hy).1
    simp at hyl
    rw [an (by omega)] at hx
    rw [List.getElem?_append] at hy
    split at hy
    ·exact h7 j x y hx hy
    ·rename_i hn
     have e0:j+1-l.length=0:=by omega
     rw [e0] at hy
     simp at hy;subst hy
     exact .inl (h6 x (ak hx)).2
  ·simp only [cZ] at hq
   exact cA ⟨h4,⟨by dsimp only;omega,λ x hx=>(h6 x hx).1,h7⟩,by dsimp only;omega⟩
theorem Ahu {b:Aa} (h:Bg b) {s:Ad} (hs:Bm s):Ok (Nh s b) λ y=>((Cd b y.1/\y.1.As.length<=4)/\Bm y.2)/\∀ x,x∈y.1.Ac->x.Since<=4:=by
 unfold Nh
 refine (Ai0 h hs).andThen (λ s0 h0=>?_) (λ _ h=>h.elim)
 refine (Aiz h h0.2).andThen (λ s1 h1=>?_) (λ _ h=>h.elim)
 refine (Aix h h0.1).andThen (λ s3 h3=>?_) (λ _ h=>h.elim)
 refine (Aiw h h3.1).andThen (λ s4 h4=>?_) (λ _ h=>h.elim)
 refine (Aiv h h4.1).andThen (λ s5 h5=>?_) (λ _ h=>h.elim)
 exact cq ⟨⟨⟨⟨h1.1,h3.2.1,h4.2.1,λ x hx=>(h3.2.2 x hx).1,h4.2.2,h1.2,h5.2.1⟩,h5.2.2⟩,h5.1⟩,λ x hx=>(h3.2.2 x hx).2⟩
theorem Aj7 {b:Aa} (h:Bg b) {s:Ad} (hs:Bm s):Ok (Nh s b) λ y=>(Cd b y.1/\y.1.As.length<=4)/\Bm y.2:=(Ahu h hs).mono λ _ hy=>hy.1
def Fl (b:Aa) (p:Ab) (k i:Int):Option Int:=((b.Ag.zip p.Am).find? λ z=>(z.1.Kind==k&&z.1.B==i)&&z.2).map (·.1.A)
def Iu (o:Option Int):Int×Bool:=match o with
 | some a=>(a,true)
 | none=>(0,false)
def Fd (b:Aa) (p:Ab) (i:Int):Option Int:=
 if 0<=i/\i<p.Ac.length/\(p.Ac.getD i.toNat default).State=2 then Fl b p 2 i else none
theorem Yp {b:Aa} (h:Bg b) {p:Ab} {k i a:Int} (e:Fl b p k i=some a):0<=a/\a<b.Ap:=by
 unfold Fl at e
 rw [Option.map_eq_some_iff] at e
 obtain⟨z,hz,rfl⟩:=e
 exact (h.br z.1 (bR (List.mem_of_find?_eq_some hz)).1).1
theorem Ajq {b:Aa} (h:Bg b) {p:Ab} {i a:Int} (e:Fd b p i=some a):0<=a/\a<b.Ap:=by
 unfold Fd at e
 split at e
 ·exact Yp h e
 ·cases e
def Ee (s:List Int) (z:Af×Bool):List Int:=
 if z.1.Kind=1/\z.2=true then (s.set z.1.A.toNat (min (s.getD z.1.A.toNat 0) (s.getD z.1.B.toNat 0))).set z.1.B.toNat (min (s.getD z.1.A.toNat 0) (s.getD z.1.B.toNat 0)) else s
def Dr (l:List (Af×Bool)) (s:List Int):List Int:=l.foldl Ee s
def Db (n:Nat):List Int:=(List.range n).map λ (i:Nat)=>(i:Int)
def Bb (b:Aa) (p:Ab):List Int:=(List.range b.Ap.toNat).foldl (λ s _=>Dr (b.Ag.zip p.Am) s) (Db b.Ap.toNat)
theorem C8 (s:List Int) (z:Af×Bool):(Ee s z).length=s.length:=by
 unfold Ee;split <;> simp
theorem Ek (l:List (Af×Bool)):∀ s:List Int,(Dr l s).length=s.length:=by
 induction l with
 | nil=>intro s;rfl
 | cons z l ih=>intro s;show (Dr l (Ee s z)).length=_;rw [ih,C8]
theorem Nu {b:Aa} {p:Ab} {n:Nat}:∀ (xs:List Nat) (s:List Int),s.length=n->(xs.foldl (λ s _=>Dr (b.Ag.zip p.Am) s) s).length=n
 | [],s,h=>h
 | _::xs,s,h=>Nu xs _ (by rw [Ek];exact h)
theorem Hb (b:Aa) (p:Ab):(Bb b p).length=b.Ap.toNat:=Nu _ _ (by simp [Db])
theorem Ajg {s:List Int} (h:∀ (i:Nat) v,s[i]? = some v->0<=v/\v<=i) {z:Af×Bool} (hz:z.1.Kind=1->0<=z.1.A/\z.1.A<z.1.B/\z.1.B<s.length):∀ (i:Nat) v,(Ee s z)[i]? = some v->0<=v/\v<=i:=by
 unfold Ee
 split
 ·rename_i hk
  obtain⟨h1,h2,h3⟩:=hz hk.1
  have ga:s[z.1.A.toNat]? = some (s.getD z.1.A.toNat 0):=by rw [ai (by omega)];simp [List.getD,List.getElem?_eq_getElem (show z.1.A.toNat<s.length by omega)]
  have gb:s[z.1.B.toNat]? = some (s.getD z.1.B.toNat 0):=by rw [ai (by omega)];simp [List.getD,List.getElem?_eq_getElem (show z.1.B.toNat<s.length by omega)]
  have ha:=h _ _ ga
  have hb:=h _ _ gb
  intro i v hv
  rw [ar] at hv
  split at hv
  ·rename_i e;subst e
   split at hv
   ·cases hv;omega
   ·cases hv
  ·rw [ar] at hv
   split at hv
   ·rename_i e;subst e
    split at hv
    ·cases hv;omega
    ·cases hv
   ·exact h i v hv
 ·exact h
theorem Ug {n:Nat}:∀ (l:List (Af×Bool)) (s:List Int),s.length=n->(∀ z,z∈l->z.1.Kind=1->0<=z.1.A/\z.1.A<z.1.B/\z.1.B<n)->(∀ (i:Nat) v,s[i]? = some v->0<=v/\v<=i)->∀ (i:Nat) v,(Dr l s)[i]? = some v->0<=v/\v<=i
 | [],s,_,_,h=>h
 | z::l,s,hs,hz,h=>Ug l (Ee s z) (by rw [C8];exact hs) (λ y hy=>hz y (ag _ hy)) (Ajg h (by rw [hs];exact hz z ah))
theorem Uf {b:Aa} (h:Bg b) (p:Ab):∀ (i:Nat) v,(Bb b p)[i]? = some v->0<=v/\v<=i:=by
 have hbu:=h.buses
 have hz:∀ z,z∈b.Ag.zip p.Am->z.1.Kind=1->0<=z.1.A/\z.1.A<z.1.B/\z.1.B<(b.Ap.toNat:Int):=by
  intro z hz hk
  have:=h.br z.1 (bR hz).1
  unfold Pc at this
  omega
 have key:∀ (xs:List Nat) (s:List Int),s.length=b.Ap.toNat->(∀ (i:Nat) v,s[i]? = some v->0<=v/\v<=i)->∀ (i:Nat) v,(xs.foldl (λ s _=>Dr (b.Ag.zip p.Am) s) s)[i]? = some v->0<=v/\v<=i:=by
  intro xs
  induction xs with
  | nil=>intro s _ h;exact h
  | cons x xs ih=>intro s hl h;exact ih _ (by rw [Ek];exact hl) (Ug _ s hl hz h)
 refine key _ _ (by simp [Db]) ?_
 intro i v hv
 simp only [Db,ap] at hv
 cases hr:(List.range b.Ap.toNat)[i]? with
 | none=>rw [hr] at hv;cases hv
 | some k=>
  rw [hr] at hv
  have:=aa.1 hr
  simp at this
  obtain⟨_,rfl⟩:=this
  cases hv;dsimp only;omega
def Ajl (x:Ai):Bool:=!((x.Ap.length:Int)==0)
def Fh (b:Aa) (p:Ab) (o:Option Int):Option Int:=o.map λ a=>(Bb b p).getD a.toNat 0
def Jk (b:Aa) (p:Ab) (n f:Nat):List Int:=((List.range n).filter λ (i:Nat)=>(Bb b p).getD i 0==(f:Int)).map λ (i:Nat)=>(i:Int)
def Gt (b:Aa) (p:Ab) (n f:Nat):List Int:=((List.range n).filter λ (i:Nat)=>Fh b p (Fd b p (i:Int))==some (f:Int)).map λ (i:Nat)=>(i:Int)
def G3 (b:Aa) (p:Ab) (n f:Nat):List Int:=((List.range n).filter λ (i:Nat)=>Fh b p (Fl b p 3 (i:Int))==some (f:Int)).map λ (i:Nat)=>(i:Int)
def isl (b:Aa) (p:Ab) (f:Nat):Ai:=⟨Jk b p b.Ap.toNat f,Gt b p b.Ac.length f,G3 b p b.Ah.length f⟩
def C2 (b:Aa) (p:Ab):List Ai:=((List.range b.Ap.toNat).map (isl b p)).filter Ajl
theorem L5 (q:Nat->Bool) (n:Nat):((List.range (n+1)).filter q).map (λ (i:Nat)=>(i:Int))=((List.range n).filter q).map (λ (i:Nat)=>(i:Int))++if q n=true then [(n:Int)] else []:=by
 rw [cd,bQ,bS]
 congr 1
 cases h:q n <;> simp [h]
theorem Oq (q:Nat->Bool) (n:Nat):(((List.range n).filter q).map (λ (i:Nat)=>(i:Int))).length<=n:=by
 have:=bT q (List.range n)
 simpa using this
theorem Abo {α:Type} {B:Nat} {l:List α} (h:l.length*B<=140737488355328):appI B [] l=some l:=by
 unfold appI
 have:decide ((([]:List α).length+l.length)*B<=140737488355328)=true:=by simpa using h
 rw [this];rfl
structure Ar5 (p:Ab):Prop where
 c:p.Am.length<=1000
 s:p.Ac.length<=1000
 l:p.Aw.length<=1000
 k:p.As.length<=1000
theorem Cd.lens {b:Aa} (h:Bg b) {p:Ab} (hp:Cd b p):Ar5 p:=by
 have h1:=hp.ncl
 have h2:=hp.nso
 have h3:=hp.nli
 have h4:=hp.brk.len
 have h5:=h.brl
 have h6:=h.sol
 have h7:=h.col
 exact⟨by omega,by omega,by omega,by omega⟩
def N0 (like x:Ae):Ae:=⟨x.State,x.Since,like.An,like.Phase⟩
def Dz (like:Ae) (idx:List Int) (ss:List Ae):List Ae:=idx.foldl (λ s i=>s.set i.toNat (N0 like (s.getD i.toNat default))) ss
theorem Ip (like:Ae):∀ (idx:List Int) (ss:List Ae),(Dz like idx ss).length=ss.length
 | [],_=>rfl
 | i::idx,ss=>by
  show (Dz like idx _).length=_
  rw [Ip like idx,bA]
theorem Adn {like:Ae} {idx:List Int} {j:Nat} {i:Int} (h:idx[j]? = some i) (ss:List Ae):Dz like (idx.take (j+1)) ss=(Dz like (idx.take j) ss).set i.toNat (N0 like ((Dz like (idx.take j) ss).getD i.toNat default)):=by
 unfold Dz
 rw [Ec h,bI];rfl
def D_ (b:Aa) (p:Ab):List Ae:=(C2 b p).foldl (λ s x=>match x.Ac with | []=>s | i::_=>Dz (p.Ac.getD i.toNat default) x.Ac s) p.Ac
theorem Sq {b:Aa} {p:Ab} {x:Ai} (h:x∈C2 b p):∀ i,i∈x.Ac->0<=i/\i<b.Ac.length:=by
 unfold C2 at h
 obtain⟨f,_,rfl⟩:=aq.1 (aU.1 h).1
 intro i hi
 obtain⟨k,hk,rfl⟩:=aq.1 hi
 have:=bm.1 (aU.1 hk).1
 omega
def Cr (p:Ab) (s:List Ae) (x:Ai):List Ae:=match x.Ac with
 | []=>s
 | i::_=>Dz (p.Ac.getD i.toNat default) x.Ac s
theorem H7 (p:Ab) (s:List Ae) (x:Ai):(Cr p s x).length=s.length:=by
 unfold Cr;split
 ·rfl
 ·rw [Ip]
theorem Is (p:Ab):∀ (l:List Ai) (s:List Ae),(l.foldl (Cr p) s).length=s.length
 | [],_=>rfl
 | x::l,s=>by show (l.foldl (Cr p) _).length=_;rw [Is p l,H7]
theorem Jg (b:Aa) (p:Ab):(D_ b p).length=p.Ac.length:=Is p _ _
structure Ar8 (y:Bd):Prop where
 stop:1<=y.Stop/\y.Stop<=99
 start:y.Stop<y.Start/\y.Start<=100
 delay:0<=y.Delay/\y.Delay<=600
def Abt (t:Int) (x:Ar):Prop:=(-1<=x.High/\x.High<=t) /\ -1<=x.Low/\x.Low<=t
structure Nd (b:Aa) (y:Bd) (p:Al):Prop where
 st:Cd b p.Power
 fol:D_ b p.Power=p.Power.Ac
 time:0<=p.Time/\p.Time<=2147483648
 nro:p.Av.length=b.Ap.toNat
 ros:∀ x,x∈p.Av->Abt p.Time x
def brk (l:List Aq) (k n:Int):Bool:=l.any λ x=>k==x.Kind&&n==x.Number
def ks (x:Aq):Int:=x.Kind*1000+x.Number
def Fg (l:List Aq):Prop:=∀ (j k:Nat) x y,j<k->l[j]? = some x->l[k]? = some y->ks x<ks y
structure At (l:List Aq) (x:Aq) (n:Nat):Prop where
 le:n<=l.length
 lo:∀ (j:Nat) y,j<n->l[j]? = some y->ks y<ks x
 hi:∀ (j:Nat) y,n<=j->l[j]? = some y->ks x<=ks y
theorem yR {b:Aa} (h:Bg b) {p:Ab} (hp:Cd b p):F37 p=some p:=by
 have hl:=hp.lens h
 have h1:=hl.c
 have h2:=hl.s
 have h3:=hl.l
 have h4:=hl.k
 unfold F37
 rw [Abo (by omega),Abo (by omega),Abo (by omega),Abo (by omega)]
 rfl
theorem cW {α:Type} {l:List (Bool×Bool)} {x:Option α} {d:α} {P:α->Prop} (hx:Cs l->Ok x λ _=>True) (hr:∀ y,P y):Ok (A5 l x d) P:=
 cw (λ h=>(hx h).mono λ y _=>hr y) λ _=>hr d
theorem cV {α:Type} {x:Option α} {v:α} (h:x=some v):Ok x λ _=>True:=⟨v,h,trivial⟩
theorem Aln {x like:Ae} (hx:Dh x) (hl:Dh like):Dh (N0 like x):=⟨hx.1,hx.2.1,hl.2.2.1,hl.2.2.2⟩
theorem Alo {ss:List Ae} (h:∀ x,x∈ss->Dh x) {n:Nat} {y:Ae} (hy:Dh y):∀ x,x∈ss.set n y->Dh x:=λ x hx=>by
 rcases bJ hx with hx | hx
 ·exact h x hx
 ·exact hx ▸ hy
theorem Yv {ss:List Ae} (h:∀ x,x∈ss->Dh x) {n:Nat} (hn:n<ss.length):Dh (ss.getD n default):=by
 have:ss.getD n default=ss[n]:=by simp [List.getD,List.getElem?_eq_getElem hn]
 rw [this];exact h _ (List.getElem_mem hn)
theorem Xn {like:Ae} (hl:Dh like):∀ (idx:List Int) (ss:List Ae),(∀ i,i∈idx->0<=i/\i<ss.length)->(∀ x,x∈ss->Dh x)->∀ x,x∈Dz like idx ss->Dh x
 | [],_,_,h=>h
 | i::idx,ss,hi,h=>by
  have h0:=hi i ah
  refine Xn hl idx _ (λ j hj=>?_) (Alo h (Aln (Yv h (by omega)) hl))
  have:=hi j (ag _ hj)
  simpa using this
theorem Yx {b:Aa} {p:Ab} (hp:Cd b p):∀ (l:List Ai) (s:List Ae),(∀ x,x∈l->∀ i,i∈x.Ac->0<=i/\i<b.Ac.length)->s.length=p.Ac.length->(∀ x,x∈s->Dh x)->∀ x,x∈l.foldl (Cr p) s->Dh x
 | [],_,_,_,h=>h
 | y::l,s,hi,hs,h=>by
  refine Yx hp l _ (λ x hx=>hi x (ag _ hx)) (by rw [H7,hs]) ?_
  have h0:=hi y ah
  have hn:=hp.nso
  unfold Cr
  split
  ·exact h
  ·rename_i i r e
   rw [e] at h0
   have h1:=h0 i ah
   rw [e]
   exact Xn (Yv hp.run (by omega)) _ _ (λ j hj=>by have:=h0 j hj;omega) h
theorem Aa7 {b:Aa} {p:Ab} (hp:Cd b p):∀ x,x∈D_ b p->Dh x:=
 Yx hp _ _ (λ _ hx=>Sq hx) rfl hp.run
theorem Aoy {b:Aa} {p:Ab} (hp:Cd b p) {ss:List Ae} (hl:ss.length=p.Ac.length) (hr:∀ x,x∈ss->Dh x):Cd b ⟨p.Am,ss,p.Aw,p.As⟩ where
 ncl:=hp.ncl
 nso:=hl.trans hp.nso
 nli:=hp.nli
 run:=hr
 lim:=hp.lim
 one:=hp.one
 brk:=hp.brk
theorem cO {α:Type} {l:List α} {i:Int} (h0:0<=i) (h1:i<l.length):Ok (getI l i) λ _=>True:=(cF h0 h1).mono λ _ _=>trivial
theorem bet {x lo hi:Int} (h:lo<=x/\x<=hi):F82 x lo hi=true:=(Fy x lo hi).2 h
def ofL (b:Aa) (q:Af->Bool):List Int:=(b.Ag.zipIdx.filter λ z=>q z.1).map λ z=>(z.2:Int)
theorem Yb {b:Aa} (h:Bg b) (k i:Int):F83 b k i=some (ofL b λ x=>Hk k i x):=by
 have hb:=h.brl
 refine cI ?_
 unfold F83
 refine Ok.andThen (A:=λ s=>s=ofL b λ x=>Hk k i x) (B:=λ (_:Unit)=>False) ?_ (λ s hs=>cq hs) (λ _ h=>h.elim)
 refine cz (I:=λ j s=>s=((b.Ag.zipIdx.take j).filter λ z=>Hk k i z.1).map λ z=>(z.2:Int)) rfl (λ j x s hx hs=>?_) λ s hs=>?_
 ·have hj:=(aa.1 hx).1
  have hcnt:cnt 0 j=(j:Int):=H_ (by omega)
  have hz:b.Ag.zipIdx[j]? = some (x,j):=by rw [List.getElem?_zipIdx,hx];simp
  have hsl:s.length<=j:=by
   rw [hs,aw]
   exact aD (bT _ _) (by simp;omega)
  unfold jK
  rw [hcnt,Ec hz,bQ,bS,←hs]
  refine c9 (λ hq=>?_) (λ hq=>cr (by simp [hq]))
  exact (cx (by simp;omega)).bind λ y hy=>cr (by rw [hy];simp [hq])
 ·rw [hs,show b.Ag.length=b.Ag.zipIdx.length from by simp,bG];rfl
theorem Adf (q:Af->Bool):∀ (l:List Af) (k:Nat),((l.zipIdx k).filter λ z=>q z.1).length=(l.filter q).length
 | [],_=>rfl
 | x::l,k=>by
  simp only [List.zipIdx_cons,bh]
  split <;> simp [Adf q l (k+1)]
theorem Als (b:Aa) (q:Af->Bool):(ofL b q).length=(b.Ag.filter q).length:=by
 unfold ofL
 rw [aw,Adf]
theorem Aiu (k:Int) (hk:k≠1) (i:Int) (x:Af):Hk k i x=(x.Kind==k&&x.B==i):=by
 unfold Hk
 have:(k==1)=false:=db.2 hk
 rw [this];simp
theorem Sb {b:Aa} {k:Int} (hk:k≠1) (i:Nat):(ofL b λ x=>Hk k (i:Int) x).length=(brs b.Ag k i).length:=by
 rw [Als]
 unfold brs
 congr 1
 exact List.filter_congr λ x _=>Aiu k hk i x
theorem X8 {b:Aa} (h:Bg b):F59 b=some true:=by
 have hs:=h.sol
 have hc:=h.col
 have hb:=h.buses
 have hbl:=h.brl
 refine cI ?_
 unfold F59
 rw [Eg b.Ag 0 λ j x hj=>?_]
 ·rw [show ∀ (f:Unit->Option Bool),andThen (some (Ctl.next ()):Option (Ctl Unit Bool)) some f=f () from λ _=>rfl]
  refine Ok.andThen (A:=λ _=>True) (B:=λ (_:Bool)=>False) ?_ (λ _ _=>?_) (λ _ h=>h.elim)
  ·refine cv (λ s=>0<=s/\s<=(b.Ac.length:Int)) (λ s=>((b.Ac.length:Int)-s).toNat) _ (0:Int) (by omega) (by omega) ?_
   rintro i ⟨h1,h2⟩
   unfold qD Af6
   refine c9 (λ hq=>?_) (λ _=>cA trivial)
   simp only [cY] at hq
   obtain⟨n,rfl⟩:∃ n:Nat,i=(n:Int):=⟨i.toNat,by omega⟩
   rw [Yb h]
   simp only [al]
   have hone:=h.one n (by omega)
   rw [Sb (by decide),hone,Bp (by omega)]
   refine c9 (λ hc=>by simp at hc) (λ _=>cr ⟨by omega,by omega⟩)
  ·refine Ok.andThen (A:=λ _=>True) (B:=λ (_:Bool)=>False) ?_ (λ _ _=>cq rfl) (λ _ h=>h.elim)
   refine cv (λ s=>0<=s/\s<=(b.Ah.length:Int)) (λ s=>((b.Ah.length:Int)-s).toNat) _ (0:Int) (by omega) (by omega) ?_
   rintro i ⟨h1,h2⟩
   unfold qC Af5
   refine c9 (λ hq=>?_) (λ _=>cA trivial)
   simp only [cY] at hq
   obtain⟨n,rfl⟩:∃ n:Nat,i=(n:Int):=⟨i.toNat,by omega⟩
   rw [Yb h]
   simp only [al]
   have hany:=h.any n (by omega)
   have hpos:0<(brs b.Ag 3 n).length:=List.length_pos_iff.2 hany
   rw [Sb (by decide),Bp (by omega)]
   refine c9 (λ hc=>?_) (λ _=>cr ⟨by omega,by omega⟩)
   simp only [cY] at hc;omega
 ·have hjl := (aa.1 hj).1
  obtain⟨⟨a0,a1⟩,hk⟩:=h.br x (ak hj)
  rw [aO]
  have hcnt:cnt 0 j=(j:Int):=H_ (by omega)
  have e1:w64 (b.Ap-1)=b.Ap-1:=Bp (by omega)
  have e2:w64 (x.A+1)=x.A+1:=Bp (by omega)
  have e3:w64 ((b.Ac.length:Int)-1)=(b.Ac.length:Int)-1:=Bp (by omega)
  have e4:w64 ((b.Ah.length:Int)-1)=(b.Ah.length:Int)-1:=Bp (by omega)
  unfold qE Ali Alh Alg
  rw [e1,e2,e3,e4,hcnt,bet (x:=x.A) (by omega)]
  simp only [bC,cond_false]
  rcases hk with⟨hk,h1,h2⟩ | ⟨hk,h1,h2⟩ | ⟨hk,h1,h2⟩
  ·rw [hk,bet (x:=x.B) (lo:=x.A+1) (by omega)];rfl
  ·rw [hk,bet (x:=x.B) (lo:=0) (hi:=(b.Ac.length:Int)-1) (by omega)];rfl
  ·rw [hk, bet (x := x.B) (lo := 0) (hi := (b.Ah.length : Int) - 1) (by omega)]
   have hcut:cutI b.Ag 0 (j:Int)=some (b.Ag.take j):=by
    refine cI ((Ok.cutI (by omega) (by omega) (by omega)).mono λ y hy=>?_)
    rw [hy];simp
   show ((cutI b.Ag 0 (j:Int)).bind λ y9=>andThen (foldI (Q7 x) y9 0 ()) (λ v=>some (Ctl.ret v)) λ z1=>some (Ctl.next ()))=some (Ctl.next ())
   rw [hcut]
   simp only [al]
   rw [Eg _ 0 λ m y hy=>?_]
   ·rfl
   ·have hml:m<j:=by
     have:=(aa.1 hy).1
     simp only [aW] at this;omega
    have hyb:b.Ag[m]? = some y:=by
     rw [az,if_pos hml] at hy;exact hy
    unfold Q7
    have hne:Abi x y=false:=by
     unfold Abi
     rw [Bool.eq_false_iff]
     intro e
     simp only [bB,ac,da] at e
     obtain⟨e1,e2,e3⟩:=e
     have hn:=h.nodup x.B.toNat
     have hsplit:b.Ag=b.Ag.take j++(x::b.Ag.drop (j+1)):=by
      conv=>lhs;rw [←cj j b.Ag]
      rw [List.drop_eq_getElem_cons hjl]
      have:b.Ag[j]=x:=by
       rw [ai hjl] at hj;cases hj;rfl
      rw [this]
     rw [hsplit,Gd,bS] at hn
     have hBn:x.B=(x.B.toNat:Int):=by omega
     have hmem1:y.A∈(brs (b.Ag.take j) 3 x.B.toNat).map (·.A):=by
      refine aq.2 ⟨y,?_,rfl⟩
      unfold brs
      refine aU.2 ⟨ak hy,?_⟩
      rw [e1,hk,e3,←hBn];simp
     have hmem2:x.A∈(brs (x::b.Ag.drop (j+1)) 3 x.B.toNat).map (·.A):=by
      refine aq.2 ⟨x,?_,rfl⟩
      unfold brs
      refine aU.2 ⟨ah,?_⟩
      rw [hk,←hBn];simp
     exact (List.nodup_append.1 hn).2.2 _ hmem1 _ hmem2 e2
    rw [hne];rfl
theorem uQ {b:Aa} (h:Bg b):F60 b=some true:=by
 unfold F60
 rw [Eg b.Ac 0 λ j x hj=>?_]
 ·rfl
 ·obtain⟨h1,h2,h3⟩:=h.so x (ak hj)
  unfold qB Alf
  rw [bet h1,bet h2,bet h3];rfl
theorem Vk {b:Aa} (h:Bg b):F61 b=some true:=by
 have hcl:=h.col
 unfold F61
 rw [Eg b.Ah 0 λ j x hj=>?_]
 ·rfl
 ·obtain⟨h1,h2,h3,h4,h5,h6,h7⟩:=h.co j x hj
  have hjl:=(aa.1 hj).1
  rw [aO]
  have hcnt:cnt 0 j=(j:Int):=H_ (by omega)
  unfold qA Ale
  rw [bet h1,bet h2,bet h3,bet h4]
  have hd:decide ((x.Needs.length:Int)>4)=false:=by simp;omega
  rw [hd]
  simp only [bC,Bool.or_false,cond_false]
  rw [Eg x.Needs 0 λ m n hm=>?_]
  ·rfl
  ·have hml:=(aa.1 hm).1
   rw [aO]
   have hcm:cnt 0 m=(m:Int):=H_ (by omega)
   have hn:=h6 n (ak hm)
   unfold jZ Ald
   rw [hcnt,hcm,Bp (n:=(j:Int)-1) (by omega),bet (x:=n) (by omega)]
   cases m with
   | zero=>rfl
   | succ m=>
    obtain⟨a,ha⟩:∃ a,x.Needs[m]? = some a:=⟨_,ai (by omega)⟩
    have hlt:=h7 m a n ha hm
    have e:w64 (((m+1:Nat):Int)-1)=(m:Int):=by rw [Bp (by omega)];omega
    have hp:decide (((m+1:Nat):Int)>0)=true:=dc (by omega)
    have hq:decide (a>=n)=false:=by simp;omega
    rw [e,Bv ha,hp]
    simp [A5,Eb,hq]
theorem Ais {b:Aa} (h:Bg b):F43 b=some 0:=by
 have h1:=h.buses
 have h2:=h.brl
 have h3:=h.sol
 have h4:=h.col
 have h5:=h.phase
 have h6:=h.freq
 unfold F43
 rw [X8 h,uQ h,Vk h]
 have e:Abk b=false:=by
  rw [Bool.eq_false_iff];intro e
  simp [Abk] at e;omega
 have e2:Abj b true true true=false:=by
  rw [Bool.eq_false_iff];intro e
  simp [Abj] at e;omega
 rw [e]
 simp only [cond_false,al]
 have g1:(A5 [(!true,false)] (some true) default:Option Bool)=some true:=rfl
 have g2:(A5 [(!true || !true,false)] (some true) default:Option Bool)=some true:=rfl
 rw [g1,al,g2,al,e2];rfl
theorem Tm (i:Nat) (C:List Bool):∀ (l:List Af) (c:List Bool) (k:Nat),C.drop k=c->l.length=c.length ->
  (((l.zipIdx k).filter λ z=>z.1.Kind==3&&z.1.B==(i:Int)).filter λ z=>C.getD z.2 false).length=(Dg l c i).length
 | [],_,_,_,_=>by simp [Dg]
 | x::l,[],_,_,h=>by simp at h
 | x::l,v::c,k,hd,h=>by
  have hv:C[k]? = some v:=by
   have:=congrArg (·[0]?) hd
   simpa [List.getElem?_drop] using this
  have hd':C.drop (k+1)=c:=by rw [←List.drop_drop,hd];rfl
  have ih:=Tm i C l c (k+1) hd' (by simpa using h)
  have hg:C.getD k false=v:=by simp [List.getD,hv]
  simp only [List.zipIdx_cons,bh,Dg,List.zip_cons_cons] at ih ⊢
  cases hq:(x.Kind==3&&x.B==(i:Int)) with
  | false=>simpa only [Bool.false_and,Bool.false_eq_true,if_false] using ih
  | true=>
   simp only [if_true,bh,hg]
   cases v with
   | false=>simpa only [Bool.and_false,Bool.false_eq_true,if_false] using ih
   | true=>simpa only [bL,if_true,aJ,Nat.add_right_cancel_iff] using ih
theorem Hy {b:Aa} (h:Bg b) {p:Ab} (hp:Cd b p):F62 b p=some 0:=by
 have h3:=h.sol
 have h4:=h.col
 have hbl:=h.brl
 have hncl:=hp.ncl
 have hnso:=hp.nso
 have hnli:=hp.nli
 refine cI ?_
 unfold F62
 rw [Ais h]
 simp only [al]
 refine c9 (λ hc=>by simp at hc) (λ _=>c9 (λ hc=>?_) (λ _=>?_))
 ·simp [Alc,hncl,hnso,hnli] at hc
 rw [Eg p.Ac 0 λ j x hj=>?_]
 ·rw [show ∀ (f : Unit -> Option Int), andThen (some (Ctl.next ()) : Option (Ctl Unit Int)) some f = f () from λ _ => rfl]
  rw [Eg p.Aw 0 λ j x hj=>?_]
  ·rw [show ∀ (f : Unit -> Option Int), andThen (some (Ctl.next ()) : Option (Ctl Unit Int)) some f = f () from λ _ => rfl]
   have hlen:=hp.brk.len
   refine c9 (λ hc=>?_) (λ _=>?_)
   ·simp only [cY] at hc;omega
   rw [Eg p.As 0 λ j x hj=>?_]
   ·rw [show ∀ (f:Unit->Option Int),andThen (some (Ctl.next ()):Option (Ctl Unit Int)) some f=f () from λ _=>rfl]
    refine Ok.andThen (A:=λ _=>True) (B:=λ (_:Int)=>False) ?_ (λ _ _=>cq rfl) (λ _ h=>h.elim)
    refine cv (λ s=>0<=s/\s<=(b.Ah.length:Int)) (λ s=>((b.Ah.length:Int)-s).toNat) _ (0:Int) (by omega) (by omega) ?_
    rintro i ⟨g1,g2⟩
    unfold jV Ak9
    refine c9 (λ hq=>?_) (λ _=>cA trivial)
    simp only [cY] at hq
    obtain⟨n,rfl⟩:∃ n:Nat,i=(n:Int):=⟨i.toNat,by omega⟩
    rw [Yb h]
    simp only [al]
    have hone:=hp.one n (by omega)
    have hz:ofL b (λ x=>Hk 3 (n:Int) x)=((b.Ag.zipIdx.filter λ z=>z.1.Kind==3&&z.1.B==(n:Int)).map λ z=>(z.2:Int)):=by
     unfold ofL
     congr 1
     exact List.filter_congr λ z _=>Aiu 3 (by decide) n z.1
    have hzf:=Tm n p.Am b.Ag p.Am 0 rfl (by omega)
    rw [hz]
    have hin:∀ z,z∈(b.Ag.zipIdx.filter λ z=>z.1.Kind==3&&z.1.B==(n:Int))->z.2<p.Am.length:=by
     rintro⟨x,j⟩ hm
     have:=(aU.1 hm).1
     rw [List.mem_zipIdx_iff_getElem?] at this
     have:=(aa.1 this).1
     dsimp only;omega
    have hsz:(b.Ag.zipIdx.filter λ z=>z.1.Kind==3&&z.1.B==(n:Int)).length<=24:=aD (bT _ _) (by simpa using hbl)
    generalize hm:(b.Ag.zipIdx.filter λ z=>z.1.Kind==3&&z.1.B==(n:Int))=m at hin hsz hzf
    refine (cz (xs:=m.map λ z=>(z.2:Int)) (I:=λ j s=>s=(((m.take j).filter λ z=>p.Am.getD z.2 false).length:Int)) (A:=λ s=>s=((m.filter λ z=>p.Am.getD z.2 false).length:Int)) (B:=λ (_:Unit)=>False) rfl (λ j x s hx hs=>?_) λ s hs=>?_).inner (λ s hs=>?_) (λ _ h=>h.elim)
    ·rw [ap,Option.map_eq_some_iff] at hx
     obtain⟨z,hz,rfl⟩:=hx
     have hzl:=hin z (ak hz)
     obtain⟨v,hv⟩:∃ v,p.Am[z.2]? = some v:=⟨_,ai hzl⟩
     have hg:p.Am.getD z.2 false=v:=by simp [List.getD,hv]
     have hle:((m.take j).filter λ z=>p.Am.getD z.2 false).length<=24:=aD (bT _ _) (by simp;omega)
     unfold jU
     rw [Bv hv,Ec hz,bQ]
     simp only [al]
     refine c9 (λ hq=>cr ?_) (λ hq=>cr ?_)
     ·rw [hs,Bp (by omega),bh,hg,if_pos hq]
      simp
     ·rw [hs,bh,hg,if_neg (ff hq)]
      simp
    ·rw [aw,bG] at hs;exact hs
    ·rw [hs,hzf,Bp (by omega)]
     refine c9 (λ hc=>?_) (λ _=>cr ⟨by omega,by omega⟩)
     simp only [cY] at hc;omega
   ·have hjl:=(aa.1 hj).1
    rw [aO]
    have hcnt:cnt 0 j=(j:Int):=H_ (by omega)
    unfold jW Ala
    rw [(Qa h x).2 (hp.brk.mem x (ak hj)),hcnt]
    cases j with
    | zero=>rfl
    | succ j=>
     obtain⟨a,ha⟩:∃ a,p.As[j]? = some a:=⟨_,ai (by omega)⟩
     have hlt:=hp.brk.asc j a x ha hj
     have e:w64 (((j+1:Nat):Int)-1)=(j:Int):=by rw [Bp (by omega)];omega
     have hpz:decide (((j+1:Nat):Int)>0)=true:=dc (by omega)
     have hb:F84 a x=true:=by
      unfold F84
      unfold Q5 at hlt
      simp only [aN,ac,cY,da]
      exact hlt
     rw [e,Bv ha,hpz]
     simp [A5,Eb,hb]
  ·have hjl:=(aa.1 hj).1
   rw [aO]
   have hcnt:cnt 0 j=(j:Int):=H_ (by omega)
   obtain⟨c,hc⟩:∃ c,b.Ah[j]? = some c:=⟨_,ai (by omega)⟩
   unfold jX
   rw [hcnt,Bv hc]
   simp only [al]
   rw [bet (hp.lim j x c hj hc)];rfl
 ·have hr:=hp.run x (ak hj)
  unfold jY Alb
  rw [bet hr.1,bet hr.2.1,bet hr.2.2.1,bet hr.2.2.2];rfl


abbrev Cn:=List (Af×Bool)
def Tie (L:Cn) (i j:Nat):Prop:=∃ z,z∈L/\z.1.Kind=1/\z.2=true/\((z.1.A.toNat=i/\z.1.B.toNat=j)\/(z.1.A.toNat=j/\z.1.B.toNat=i))
theorem Tie.symm {L:Cn} {i j:Nat} (h:Tie L i j):Tie L j i:=by
 obtain⟨z,h1,h2,h3,h4⟩:=h
 exact⟨z,h1,h2,h3,h4.symm⟩
inductive Cj (L:Cn) (i:Nat):Nat->Nat->Prop
 | refl:Cj L i 0 i
 | stay {r j:Nat}:Cj L i r j->Cj L i (r+1) j
 | step {r j k:Nat}:Cj L i r j->Tie L j k->Cj L i (r+1) k
def Eh (L:Cn) (i j:Nat):Prop:=∃ r,Cj L i r j
theorem Eh.refl (L:Cn) (i:Nat):Eh L i i:=⟨0,.refl⟩
theorem Eh.tie {L:Cn} {i j k:Nat} (h:Eh L i j) (t:Tie L j k):Eh L i k:=by
 obtain⟨r,h⟩:=h;exact⟨r+1,h.step t⟩
theorem Eh.trans {L:Cn} {i j k:Nat} (h:Eh L i j) (h2:Eh L j k):Eh L i k:=by
 obtain⟨r,h2⟩:=h2
 induction h2 with
 | refl=>exact h
 | stay _ ih=>exact ih
 | step _ t ih=>exact ih.tie t
theorem Eh.symm {L:Cn} {i j:Nat} (h:Eh L i j):Eh L j i:=by
 obtain⟨r,h⟩:=h
 induction h with
 | refl=>exact .refl L i
 | stay _ ih=>exact ih
 | step _ t ih=>exact (Eh.tie (.refl L _) t.symm).trans ih
theorem Cj.le {L:Cn} {i j r s:Nat} (h:Cj L i r j) (hs:r<=s):Cj L i s j:=by
 induction s with
 | zero=>
  have:r=0:=by omega
  subst this;exact h
 | succ s ih=>
  by_cases e:r=s+1
  ·subst e;exact h
  ·exact (ih (by omega)).stay
open Classical in
noncomputable def cn (p:Nat->Prop):Nat->Nat
 | 0=>0
 | n+1=>cn p n+if p n then 1 else 0
theorem Ak7 (p:Nat->Prop):∀ n,cn p n<=n
 | 0=>am _
 | n+1=>by have:=Ak7 p n;unfold cn;split <;> omega
theorem S3 {p q:Nat->Prop}:∀ n,(∀ k,k<n->p k->q k)->cn p n<=cn q n
 | 0,_=>am _
 | n+1,h=>by
  have:=S3 n λ k hk=>h k (by omega)
  have h1:=h n (by omega)
  unfold cn
  by_cases hp:p n
  ·rw [if_pos hp,if_pos (h1 hp)];omega
  ·rw [if_neg hp];split <;> omega
theorem Abg {p q:Nat->Prop}:∀ n,(∀ k,k<n->p k->q k)->cn p n=cn q n->∀ k,k<n->q k->p k
 | 0,_,_,k,hk,_=>by omega
 | n+1,h,e,k,hk,hq=>by
  have hm:=S3 n λ k hk=>h k (by omega)
  have h1:=h n (by omega)
  unfold cn at e
  by_cases hp:p n
  ·rw [if_pos hp,if_pos (h1 hp)] at e
   by_cases ek:k=n
   ·subst ek;exact hp
   ·exact Abg n (λ k hk=>h k (by omega)) (by omega) k (by omega) hq
  ·rw [if_neg hp] at e
   by_cases hqn:q n
   ·rw [if_pos hqn] at e;omega
   ·rw [if_neg hqn] at e
    by_cases ek:k=n
    ·subst ek;exact absurd hq hqn
    ·exact Abg n (λ k hk=>h k (by omega)) (by omega) k (by omega) hq
def Vx (L:Cn) (n:Nat):Prop:=∀ i j,Tie L i j->i<n/\j<n
theorem Qk {L:Cn} {n i j:Nat} (hL:Vx L n) (_:i<n) (h:Eh L i j):Cj L i n j:=by
 have hst:∃ r,r<=n/\∀ k,k<n->Cj L i (r+1) k->Cj L i r k:=by
  by_cases hex:∃ r,r<=n/\∀ k,k<n->Cj L i (r+1) k->Cj L i r k
  ·exact hex
  exfalso
  have hgrow:∀ r,r<=n->cn (Cj L i r) n<cn (Cj L i (r+1)) n:=by
   intro r hr
   have hm:=S3 (p:=Cj L i r) (q:=Cj L i (r+1)) n λ k _ h=>h.stay
   rcases Nat.lt_or_eq_of_le hm with h | h
   ·exact h
   ·exact absurd ⟨r,hr,Abg n (λ k _ h=>h.stay) h⟩ hex
  have hge:∀ r,r<=n+1->r<=cn (Cj L i r) n:=by
   intro r
   induction r with
   | zero=>intro _;omega
   | succ r ih=>intro hr;have:=ih (by omega);have:=hgrow r (by omega);omega
  have h1:=hge (n+1) (am _)
  have h2:=Ak7 (Cj L i (n+1)) n
  omega
 obtain⟨r,hr,hs⟩:=hst
 obtain⟨s,h⟩:=h
 have key:∀ s k,Cj L i s k->Cj L i r k:=by
  intro s k h
  induction h with
  | refl=>exact Cj.refl.le (by omega)
  | stay _ ih=>exact ih
  | step h0 t ih=>exact hs _ (hL _ _ t).2 (ih.step t)
 exact (key s j h).le hr
def B6 (b:Aa) (p:Ab):Cn:=b.Ag.zip p.Am
theorem Rn {b:Aa} (h:Bg b) (p:Ab):Vx (B6 b p) b.Ap.toNat:=by
 rintro i j ⟨z,hz,hk,_,he⟩
 have:=h.br z.1 (bR hz).1
 unfold Pc at this
 omega
theorem Ane {s:List Int} {i:Nat} (h:i<s.length):s[i]? = some (s.getD i 0):=by
 rw [ai h];simp [List.getD,List.getElem?_eq_getElem h]
theorem Lx {s:List Int} {z:Af×Bool} {i:Nat} (hi:i<s.length):(Ee s z).getD i 0=if (z.1.Kind=1/\z.2=true)/\(i=z.1.A.toNat\/i=z.1.B.toNat) then min (s.getD z.1.A.toNat 0) (s.getD z.1.B.toNat 0) else s.getD i 0:=by
 unfold Ee
 by_cases hk:z.1.Kind=1/\z.2=true
 ·rw [if_pos hk]
  by_cases hB:i=z.1.B.toNat
  ·rw [if_pos ⟨hk,.inr hB⟩]
   simp [List.getD,←hB,hi]
  ·by_cases hA:i=z.1.A.toNat
   ·rw [if_pos ⟨hk,.inl hA⟩]
    have h1:¬z.1.B.toNat=i:=λ e=>hB e.symm
    simp only [List.getD,aI h1]
    rw [←hA,cb hi];rfl
   ·rw [if_neg (λ e=>e.2.elim hA hB)]
    have h1:¬z.1.B.toNat=i:=λ e=>hB e.symm
    have h2:¬z.1.A.toNat=i:=λ e=>hA e.symm
    simp only [List.getD,aI h1,aI h2]
 ·rw [if_neg hk,if_neg (λ e=>hk e.1)]
def Lab (L:Cn) (s:List Int):Prop:=∀ i,i<s.length->Eh L (s.getD i 0).toNat i
theorem Afk {L:Cn} {s:List Int} (h:Lab L s) {z:Af×Bool} (hz:z∈L) (hr:z.1.Kind=1->z.1.A.toNat<s.length/\z.1.B.toNat<s.length):Lab L (Ee s z):=by
 intro i hi
 rw [C8] at hi
 rw [Lx hi]
 split
 ·rename_i hc
  obtain⟨⟨hk,hv⟩,hab⟩:=hc
  obtain⟨ha,hb⟩:=hr hk
  have tAB:Tie L z.1.A.toNat z.1.B.toNat:=⟨z,hz,hk,hv,.inl ⟨rfl,rfl⟩⟩
  have c1:=h _ ha
  have c2:=h _ hb
  rcases Int.le_total (s.getD z.1.A.toNat 0) (s.getD z.1.B.toNat 0) with e | e
  ·rw [Int.min_eq_left e]
   rcases hab with rfl | rfl
   ·exact c1
   ·exact c1.tie tAB
  ·rw [Int.min_eq_right e]
   rcases hab with rfl | rfl
   ·exact c2.tie tAB.symm
   ·exact c2
 ·exact h i hi
theorem J_ {L:Cn} {n:Nat}:∀ (l:Cn) (s:List Int),s.length=n->(∀ z,z∈l->z∈L/\(z.1.Kind=1->z.1.A.toNat<n/\z.1.B.toNat<n))->Lab L s->Lab L (Dr l s)
 | [],_,_,_,h=>h
 | z::l,s,hs,hz,h=>J_ l (Ee s z) (by rw [C8];exact hs) (λ y hy=>hz y (ag _ hy)) (Afk h (hz z ah).1 (by rw [hs];exact (hz z ah).2))
theorem Ly {s:List Int} (z:Af×Bool) {i:Nat} (hi:i<s.length):(Ee s z).getD i 0<=s.getD i 0:=by
 rw [Lx hi]
 split
 ·rename_i hc
  rcases hc.2 with rfl | rfl
  ·exact Int.min_le_left _ _
  ·exact Int.min_le_right _ _
 ·exact Int.le_refl _
theorem Ka:∀ (l:Cn) (s:List Int) {i:Nat},i<s.length->(Dr l s).getD i 0<=s.getD i 0
 | [],_,_,_=>Int.le_refl _
 | z::l,s,i,hi=>Int.le_trans (Ka l (Ee s z) (by rw [C8];exact hi)) (Ly z hi)
theorem P8:∀ (l:Cn) (s:List Int) {z:Af×Bool},z∈l->z.1.Kind=1->z.2=true->z.1.A.toNat<s.length->z.1.B.toNat<s.length->∀ i,i=z.1.A.toNat\/i=z.1.B.toNat->(Dr l s).getD i 0<=min (s.getD z.1.A.toNat 0) (s.getD z.1.B.toNat 0)
 | [],_,_,h,_,_,_,_,_,_=>by cases h
 | y::l,s,z,hz,hk,hv,ha,hb,i,hi=>by
  show (Dr l (Ee s y)).getD i 0<=_
  have hil:i<s.length:=by rcases hi with rfl | rfl <;> assumption
  by_cases e:z=y
  ·subst e
   refine Int.le_trans (Ka l _ (by rw [C8];exact hil)) ?_
   rw [Lx hil,if_pos ⟨⟨hk,hv⟩,hi⟩]
   exact Int.le_refl _
  ·have hz':z∈l:=by
    rcases ae.1 hz with h | h
    ·exact absurd h e
    ·exact h
   refine Int.le_trans (P8 l (Ee s y) hz' hk hv (by rw [C8];exact ha) (by rw [C8];exact hb) i hi) ?_
   have h1:=Ly y ha
   have h2:=Ly y hb
   omega
theorem Lj {n i:Nat} (h:i<n):(Db n).getD i 0=(i:Int):=by
 simp [Db,List.getD,List.getElem?_range h]
theorem Aa4 {L:Cn} {n:Nat} (hL:Vx L n):∀ r i j,i<n->j<n->Cj L j r i->((List.range r).foldl (λ s _=>Dr L s) (Db n)).getD i 0<=(j:Int):=by
 intro r
 have hlen:∀ r,((List.range r).foldl (λ s _=>Dr L s) (Db n)).length=n:=by
  intro r
  induction r with
  | zero=>simp [Db]
  | succ r ih=>rw [cd,bI];simp only [bq,List.foldl_nil,Ek];exact ih
 induction r with
 | zero=>
  intro i j hi hj h
  cases h
  show (Db n).getD i 0<=_
  rw [Lj hi]
  exact Int.le_refl _
 | succ r ih=>
  intro i j hi hj h
  have hrl:=hlen r
  rw [cd,bI]
  simp only [bq,List.foldl_nil]
  generalize (List.range r).foldl (λ s _=>Dr L s) (Db n)=s at *
  cases h with
  | stay h=>exact Int.le_trans (Ka L s (by omega)) (ih i j hi hj h)
  | step h t=>
   rename_i k
   have hk:=hL _ _ t
   have h1:=ih k j hk.1 hj h
   obtain⟨z,hz,hz1,hz2,he⟩:=t
   have hA:z.1.A.toNat<s.length:=by omega
   have hB:z.1.B.toNat<s.length:=by omega
   have h2:=P8 L s hz hz1 hz2 hA hB i (by omega)
   rcases he with⟨e1,e2⟩ | ⟨e1,e2⟩
   ·rw [e1] at h2;omega
   ·rw [e2] at h2;omega
theorem P7 {b:Aa} (h:Bg b) (p:Ab) {i j:Nat} (hi:i<b.Ap.toNat) (hj:j<b.Ap.toNat):(Bb b p).getD i 0=(Bb b p).getD j 0↔Eh (B6 b p) i j:=by
 have hL:=Rn h p
 have hlen:=Hb b p
 have hlab:Lab (B6 b p) (Bb b p):=by
  have hz:∀ z,z∈B6 b p->z∈B6 b p/\(z.1.Kind=1->z.1.A.toNat<b.Ap.toNat/\z.1.B.toNat<b.Ap.toNat):=by
   intro z hz
   refine⟨hz,λ hk=>?_⟩
   have:=h.br z.1 (bR hz).1
   unfold Pc at this
   omega
  have key:∀ (xs:List Nat) (s:List Int),s.length=b.Ap.toNat->Lab (B6 b p) s->Lab (B6 b p) (xs.foldl (λ s _=>Dr (b.Ag.zip p.Am) s) s):=by
   intro xs
   induction xs with
   | nil=>intro s _ h;exact h
   | cons x xs ih=>intro s hl h;exact ih _ (by rw [Ek];exact hl) (J_ _ s hl hz h)
  refine key _ _ (by simp [Db]) ?_
  intro k hk
  have hk':k<b.Ap.toNat:=by simpa [Db] using hk
  rw [Lj hk']
  exact .refl _ k
 have hlow:∀ i j,i<b.Ap.toNat->j<b.Ap.toNat->Eh (B6 b p) j i->(Bb b p).getD i 0<=(j:Int):=λ i j hi hj hc=>Aa4 hL _ i j hi hj (Qk hL hj hc)
 have hlo:=Uf h p
 have hrange:∀ i,i<b.Ap.toNat->0<=(Bb b p).getD i 0/\((Bb b p).getD i 0).toNat<b.Ap.toNat:=by
  intro i hi
  have:=hlo i _ (Ane (by omega))
  omega
 constructor
 ·intro e
  have c1:=hlab i (by omega)
  have c2:=hlab j (by omega)
  rw [e] at c1
  exact c1.symm.trans c2
 ·intro hc
  have r1:=hrange i hi
  have r2:=hrange j hj
  have c1:=hlab i (by omega)
  have c2:=hlab j (by omega)
  have l1:=hlow j _ hj r1.2 (c1.trans hc)
  have l2:=hlow i _ hi r2.2 (c2.trans hc.symm)
  omega
def D5 (s:List Bool) (z:Af×Bool):List Bool:=
 if (z.1.Kind=1/\z.2=true)/\(s.getD z.1.A.toNat false || s.getD z.1.B.toNat false)=true then (s.set z.1.A.toNat true).set z.1.B.toNat true else s
theorem Dp (s:List Bool) (z:Af×Bool):(D5 s z).length=s.length:=by unfold D5;split <;> simp
def Ei (L:Cn) (s:List Bool):List Bool:=L.foldl D5 s
theorem G7:∀ (l:Cn) (s:List Bool),(Ei l s).length=s.length
 | [],_=>rfl
 | z::l,s=>by show (Ei l (D5 s z)).length=_;rw [G7 l,Dp]
theorem Air {s:List Bool} {m i:Nat} (hi:i<s.length):(s.set m true).getD i false=(decide (m=i) || s.getD i false):=by
 by_cases e:m=i
 ·subst e;simp [List.getD,hi]
 ·simp [List.getD,List.getElem?_set_ne e,e]
theorem Gu {s:List Bool} {z:Af×Bool} {i:Nat} (hi:i<s.length):(D5 s z).getD i false=true↔s.getD i false=true\/(((z.1.Kind=1/\z.2=true)/\(s.getD z.1.A.toNat false || s.getD z.1.B.toNat false)=true)/\(i=z.1.A.toNat\/i=z.1.B.toNat)):=by
 unfold D5
 split
 ·rename_i hc
  rw [Air (by simpa using hi),Air hi,aN,aN,decide_eq_true_iff,decide_eq_true_iff]
  constructor
  ·rintro (e | e | e)
   ·exact .inr ⟨hc,.inr e.symm⟩
   ·exact .inr ⟨hc,.inl e.symm⟩
   ·exact .inl e
  ·rintro (e | ⟨_,e | e⟩)
   ·exact .inr (.inr e)
   ·exact .inr (.inl e.symm)
   ·exact .inl e.symm
 ·rename_i hc
  exact⟨.inl,λ e=>e.elim id λ e=>absurd e.1 hc⟩
def Got (L:Cn) (n:Nat) (s:List Bool):Prop:=∀ i,i<s.length->s.getD i false=true->Eh L n i
theorem Ae2 {L:Cn} {n:Nat} {s:List Bool} (h:Got L n s) {z:Af×Bool} (hz:z∈L) (hr:z.1.Kind=1->z.1.A.toNat<s.length/\z.1.B.toNat<s.length):Got L n (D5 s z):=by
 intro i hi e
 rw [Dp] at hi
 rcases (Gu hi).1 e with e | ⟨⟨⟨hk,hv⟩,ho⟩,hab⟩
 ·exact h i hi e
 ·obtain⟨ha,hb⟩:=hr hk
  have t:Tie L z.1.A.toNat z.1.B.toNat:=⟨z,hz,hk,hv,.inl ⟨rfl,rfl⟩⟩
  simp only [aN] at ho
  rcases ho with ho | ho
  ·have c:=h _ ha ho
   rcases hab with rfl | rfl
   ·exact c
   ·exact c.tie t
  ·have c:=h _ hb ho
   rcases hab with rfl | rfl
   ·exact c.tie t.symm
   ·exact c
theorem Pv {L:Cn} {n m:Nat}:∀ (l:Cn) (s:List Bool),s.length=m->(∀ z,z∈l->z∈L/\(z.1.Kind=1->z.1.A.toNat<m/\z.1.B.toNat<m))->Got L n s->Got L n (Ei l s)
 | [],_,_,_,h=>h
 | z::l,s,hs,hz,h=>Pv l (D5 s z) (by rw [Dp];exact hs) (λ y hy=>hz y (ag _ hy)) (Ae2 h (hz z ah).1 (by rw [hs];exact (hz z ah).2))
theorem Jz:∀ (l:Cn) (s:List Bool) {i:Nat},i<s.length->s.getD i false=true->(Ei l s).getD i false=true
 | [],_,_,_,h=>h
 | z::l,s,_,hi,h=>Jz l (D5 s z) (by rw [Dp];exact hi) ((Gu hi).2 (.inl h))
theorem Pu:∀ (l:Cn) (s:List Bool) {z:Af×Bool},z∈l->z.1.Kind=1->z.2=true->z.1.A.toNat<s.length->z.1.B.toNat<s.length->(s.getD z.1.A.toNat false || s.getD z.1.B.toNat false)=true->∀ i,i=z.1.A.toNat\/i=z.1.B.toNat->(Ei l s).getD i false=true
 | [],_,_,h,_,_,_,_,_,_,_=>by cases h
 | y::l,s,z,hz,hk,hv,ha,hb,ho,i,hi=>by
  show (Ei l (D5 s y)).getD i false=true
  have hil:i<s.length:=by rcases hi with rfl | rfl <;> assumption
  by_cases e:z=y
  ·subst e
   exact Jz l _ (by rw [Dp];exact hil) ((Gu hil).2 (.inr ⟨⟨⟨hk,hv⟩,ho⟩,hi⟩))
  ·have hz':z∈l:=by
    rcases ae.1 hz with h | h
    ·exact absurd h e
    ·exact h
   refine Pu l (D5 s y) hz' hk hv (by rw [Dp];exact ha) (by rw [Dp];exact hb) ?_ i hi
   simp only [aN] at ho ⊢
   exact ho.imp (λ e=>(Gu ha).2 (.inl e)) (λ e=>(Gu hb).2 (.inl e))
def Gv (L:Cn) (r:Nat) (s:List Bool):List Bool:=(List.range r).foldl (λ s _=>Ei L s) s
theorem Gq (L:Cn) (r:Nat) (s:List Bool):Gv L (r+1) s=Ei L (Gv L r s):=by
 unfold Gv;rw [cd,bI];rfl
theorem E2 (L:Cn) (s:List Bool):∀ r,(Gv L r s).length=s.length
 | 0=>rfl
 | r+1=>by rw [Gq,G7,E2 L s r]
theorem Aal {L:Cn} {n m:Nat} (hL:Vx L m) {s:List Bool} (hs:s.length=m) (hn:s.getD n false=true):∀ r i,i<m->Cj L n r i->(Gv L r s).getD i false=true:=by
 intro r
 induction r with
 | zero=>intro i _ h;cases h;exact hn
 | succ r ih=>
  intro i hi h
  rw [Gq]
  have hl:=E2 L s r
  cases h with
  | stay h=>exact Jz L _ (by omega) (ih i hi h)
  | step h t=>
   rename_i k
   have hk:=hL _ _ t
   have h1:=ih k hk.1 h
   obtain⟨z,hz,hz1,hz2,he⟩:=t
   refine Pu L _ hz hz1 hz2 (by omega) (by omega) ?_ i (by omega)
   rcases he with⟨e1,_⟩ | ⟨_,e2⟩
   ·rw [e1,h1];rfl
   ·rw [e2,h1];simp
def F1 (b:Aa) (p:Ab) (n:Nat):List Int:=((List.range b.Ap.toNat).filter λ i=>(Bb b p).getD i 0==(Bb b p).getD n 0).map λ (i:Nat)=>(i:Int)
theorem Ait {b:Aa} (h:Bg b) {p:Ab} (hp:Cd b p) {n:Nat} (hn:n<b.Ap.toNat):qZ b p (n:Int)=some (F1 b p n):=by
 have hbu:=h.buses
 have hbl:=h.brl
 have hncl:=hp.ncl
 have hL:=Rn h p
 refine cI ?_
 unfold qZ
 refine (Ok.mkI (by omega) (by omega)).bind λ y hy=>?_
 have hyl:y.length=b.Ap.toNat:=by rw [hy];simp
 refine (cO (by omega) (by omega)).bind λ _ _=>(cE (by omega) (by omega)).bind λ z hz=>?_
 rw [aX] at hz
 have hzl:z.length=b.Ap.toNat:=by rw [hz];simpa using hyl
 have hzn:z.getD n false=true:=by rw [hz];simp [List.getD,hyl,hn]
 have hzg:Got (B6 b p) n z:=by
  intro i hi e
  have hiy:i<y.length:=by omega
  rw [hz,Air hiy] at e
  simp only [aN,cY] at e
  rcases e with e | e
  ·subst e;exact .refl _ _
  ·rw [hy] at e;simp [List.getD,show i<b.Ap.toNat by omega] at e
 clear hz
 refine Ok.andThen (A:=λ s=>s=Gv (B6 b p) b.Ap.toNat z) (B:=λ (_:Unit)=>False) ?_ (λ s hs=>?_) (λ _ h=>h.elim)
 ·refine cz (I:=λ j s=>s=Gv (B6 b p) j z) rfl (λ j x s hx hs=>?_) λ s hs=>by rw [hs,hzl]
  unfold Ti
  have hsl:s.length=b.Ap.toNat:=by rw [hs,E2,hzl]
  refine (cz (I:=λ k r=>r=Ei ((B6 b p).take k) s) (A:=λ r=>r=Ei (B6 b p) s) (B:=λ (_:Unit)=>False) rfl (λ k u r hu hr=>?_) λ r hr=>?_).inner (λ r hr=>cr (by rw [hr,hs,Gq])) (λ _ h=>h.elim)
  ·have hk:=(aa.1 hu).1
   have hcnt:cnt 0 k=(k:Int):=H_ (by omega)
   have hrl:r.length=b.Ap.toNat:=by rw [hr,G7,hsl]
   obtain⟨⟨a0,a1⟩,hkind⟩:=h.br u (ak hu)
   obtain⟨v,hv⟩:∃ v,p.Am[k]? = some v:=⟨_,ai (by omega)⟩
   have hzk:(B6 b p)[k]? = some (u,v):=by unfold B6;rw [List.getElem?_zip_eq_some];exact⟨hu,hv⟩
   have hnext:Ei ((B6 b p).take (k+1)) s=D5 r (u,v):=by
    rw [Ec hzk,Ei,bI,hr];rfl
   rw [hnext]
   have hB:u.Kind=1->0<=u.B/\u.B<b.Ap:=λ e=>by omega
   unfold Th
   rw [hcnt,Bv hv]
   by_cases k1:u.Kind=1
   ·have h2:=hB k1
    obtain⟨ga,hga⟩:∃ ga,r[u.A.toNat]? = some ga:=⟨_,ai (by omega)⟩
    obtain⟨gb,hgb⟩:∃ gb,r[u.B.toNat]? = some gb:=⟨_,ai (by omega)⟩
    have hda:r.getD u.A.toNat false=ga:=by simp [List.getD,hga]
    have hdb:r.getD u.B.toNat false=gb:=by simp [List.getD,hgb]
    have ea:getI r u.A=some ga:=by have:=Bv hga;rwa [Int.toNat_of_nonneg a0] at this
    have eb:getI r u.B=some gb:=by have:=Bv hgb;rwa [Int.toNat_of_nonneg h2.1] at this
    rw [da.2 k1]
    refine Ok.bind (P:=λ w=>w=v) (cw (λ _=>cq rfl) λ hn=>(hn ⟨rfl,trivial⟩).elim) λ w hw=>?_
    subst hw
    cases w with
    | false=>
     refine Ok.bind (P:=λ _=>True) (cW (λ _=>cO a0 (by omega)) λ _=>trivial) λ _ _=>?_
     refine Ok.bind (P:=λ _=>True) (cW (λ _=>cO h2.1 (by omega)) λ _=>trivial) λ _ _=>?_
     refine c9 (λ hq=>by simp [Me] at hq) (λ _=>cr ?_)
     unfold D5
     rw [if_neg (by simp)]
    | true=>
     rw [ea,eb]
     refine Ok.bind (P:=λ w=>w=ga) (cw (λ _=>cq rfl) λ hn=>(hn ⟨rfl,trivial⟩).elim) λ w hw=>?_
     subst hw
     refine Ok.bind (P:=λ x=>(w || x)=(w || gb)) (cw (λ _=>cq rfl) λ hn=>?_) λ x hx=>?_
     ·cases w with
      | true=>rfl
      | false=>exact (hn ⟨rfl,rfl,trivial⟩).elim
     have hc8:Me u true w x=(w || gb):=by
      unfold Me
      rw [hx,da.2 k1];rfl
     rw [hc8]
     refine c9 (λ hq=>?_) (λ hq=>cr ?_)
     ·refine Ok.bind (P:=λ _=>True) (cV rfl) λ _ _=>(cE a0 (by omega)).bind λ r1 e1=>?_
      refine (cO h2.1 (by rw [e1];simp;omega)).bind λ _ _=>(cE h2.1 (by rw [e1];simp;omega)).bind λ r2 e2=>cr ?_
      rw [e2,e1]
      unfold D5
      rw [if_pos ⟨⟨k1,rfl⟩,by rw [hda,hdb];exact hq⟩]
     ·unfold D5
      rw [if_neg (λ e=>by have:=e.2;rw [hda,hdb,hq] at this;cases this)]
   ·have k0:(u.Kind==1)=false:=db.2 k1
    rw [k0]
    refine Ok.bind (P:=λ _=>True) (cw (λ hg=>absurd hg.1 (by simp)) λ _=>trivial) λ y7 _=>?_
    refine Ok.bind (P:=λ _=>True) (cw (λ hg=>absurd hg.1 (by simp)) λ _=>trivial) λ y9 _=>?_
    refine Ok.bind (P:=λ _=>True) (cw (λ hg=>absurd hg.1 (by simp)) λ _=>trivial) λ y11 _=>?_
    refine c9 (λ hq=>by simp [Me,k0] at hq) (λ _=>cr ?_)
    unfold D5
    rw [if_neg (λ e=>k1 e.1.1)]
  ·have:b.Ag.length=(B6 b p).length:=by unfold B6;rw [List.length_zip];omega
   rw [hr,this,bG]
 ·have hsl:s.length=b.Ap.toNat:=by rw [hs,E2,hzl]
  have hval:∀ i,i<b.Ap.toNat->s.getD i false=((Bb b p).getD i 0==(Bb b p).getD n 0):=by
   intro i hi
   rw [ce,da,P7 h p hi hn]
   have hg:∀ r,Got (B6 b p) n (Gv (B6 b p) r z):=by
    intro r
    induction r with
    | zero=>exact hzg
    | succ r ih=>
     rw [Gq]
     refine Pv (m:=b.Ap.toNat) _ _ (by rw [E2,hzl]) (λ y hy=>⟨hy,λ hk=>?_⟩) ih
     have:=h.br y.1 (bR hy).1
     unfold Pc at this
     omega
   constructor
   ·intro e
    rw [hs] at e
    exact (hg _ i (by rw [E2,hzl];exact hi) e).symm
   ·intro c
    rw [hs]
    exact Aal hL hzl hzn _ i hi (Qk hL hn c.symm)
  refine Ok.andThen (A:=λ y=>y=F1 b p n) (B:=λ (_:Unit)=>False) ?_ (λ y hy=>cq hy) (λ _ h=>h.elim)
  refine cz (I:=λ j y=>y=((List.range j).filter λ i=>(Bb b p).getD i 0==(Bb b p).getD n 0).map λ (i:Nat)=>(i:Int)) rfl (λ j x y hx hy=>?_) λ y hy=>?_
  ·have hj:=(aa.1 hx).1
   have hcnt:cnt 0 j=(j:Int):=H_ (by omega)
   have hv:=hval j (by omega)
   have hxd:s.getD j false=x:=by simp [List.getD,hx]
   rw [hxd] at hv
   have hyl2:y.length<=j:=by rw [hy];exact Oq _ j
   rw [L5,←hy]
   unfold Tg
   refine c9 (λ hq=>?_) (λ hq=>cr ?_)
   ·refine (cx (by simp;omega)).bind λ w hw=>cr ?_
    rw [hw,hcnt,if_pos (by rw [←hv];exact hq)]
   ·rw [if_neg (by rw [←hv,hq];simp),bD]
  ·rw [hy,hsl];rfl
def ofZ (b:Aa) (k i:Int):List (Af×Nat):=b.Ag.zipIdx.filter λ z=>z.1.Kind==k&&z.1.B==i
theorem Aaq {b:Aa} {k:Int} (hk:k≠1) (i:Int):(ofL b λ x=>Hk k i x)=(ofZ b k i).map λ z=>(z.2:Int):=by
 unfold ofL ofZ
 congr 1
 exact List.filter_congr λ z _=>Aiu k hk i z.1
theorem Sa {b:Aa} {k i:Int} {z:Af×Nat} (h:z∈ofZ b k i):b.Ag[z.2]? = some z.1:=by
 have:=(aU.1 h).1
 rwa [List.mem_zipIdx_iff_getElem?] at this
theorem V5 (q:Af->Bool) (C:List Bool):∀ (l:List Af) (c:List Bool) (k:Nat),C.drop k=c->l.length=c.length ->
  (((l.zipIdx k).filter λ z=>q z.1).find? λ z=>C.getD z.2 false).map (·.1)=((l.zip c).find? λ z=>q z.1&&z.2).map (·.1)
 | [],_,_,_,_=>by simp
 | x::l,[],_,_,h=>by simp at h
 | x::l,v::c,k,hd,h=>by
  have hv:C[k]? = some v:=by
   have:=congrArg (·[0]?) hd
   simpa [List.getElem?_drop] using this
  have hd':C.drop (k+1)=c:=by rw [←List.drop_drop,hd];rfl
  have ih:=V5 q C l c (k+1) hd' (by simpa using h)
  have hg:C.getD k false=v:=by simp [List.getD,hv]
  simp only [List.zipIdx_cons,bh,List.zip_cons_cons,List.find?_cons]
  cases hq:q x with
  | false=>simpa only [Bool.false_and,Bool.false_eq_true,if_false] using ih
  | true=>
   simp only [if_true,List.find?_cons,hg,bH]
   cases v with
   | false=>exact ih
   | true=>rfl
theorem Afd {b:Aa} {p:Ab} (hc:p.Am.length=b.Ag.length) (k i:Int):Fl b p k i=((ofZ b k i).find? λ z=>p.Am.getD z.2 false).map (·.1.A):=by
 have:=V5 (λ x=>x.Kind==k&&x.B==i) p.Am b.Ag p.Am 0 rfl (by omega)
 unfold Fl ofZ
 have h2:=congrArg (Option.map (·.A)) this
 simp only [Option.map_map] at h2
 exact h2.symm
theorem Ql {b:Aa} {p:Ab} (hc:p.Am.length=b.Ag.length) {k i:Int} {z:Af×Nat} (h:z∈ofZ b k i):p.Am[z.2]? = some (p.Am.getD z.2 false):=by
 have:=(aa.1 (Sa h)).1
 rw [ai (by omega)]
 simp [List.getD,List.getElem?_eq_getElem (show z.2<p.Am.length by omega)]
theorem S0 {b:Aa} (h:Bg b) {p:Ab} (hp:Cd b p) (i:Int):qY b p i=some (Iu (Fd b p i)):=by
 have hn:=hp.nso
 have hc:=hp.ncl
 refine cI ?_
 unfold qY
 rw [Hy h hp]
 simp only [al]
 by_cases hi:0<=i/\i<b.Ac.length
 ·obtain⟨x,hx⟩:∃ x,p.Ac[i.toNat]? = some x:=⟨_,ai (by omega)⟩
  have hg:getI p.Ac i=some x:=by have:=Bv hx;rwa [Int.toNat_of_nonneg hi.1] at this
  have hd:p.Ac.getD i.toNat default=x:=by simp [List.getD,hx]
  have hcond:((((0:Int) != 0) || (decide (i<0))) || (decide (i>=(b.Ac.length:Int))))=false:=by
   rw [Bool.eq_false_iff];intro e;simp at e;omega
  rw [hcond,hg]
  refine Ok.bind (P:=λ y=>y=x) (cw (λ _=>cq rfl) λ hn=>(hn ⟨rfl,trivial⟩).elim) λ y hy=>?_
  subst hy
  refine c9 (λ hq=>cq ?_) (λ hq=>?_)
  ·simp only [Qw,hcond,bn,bne_iff_ne,ne_eq] at hq
   unfold Fd
   rw [if_neg (λ e=>by rw [hd] at e;exact hq e.2.2)];rfl
  ·simp only [Qw,hcond,bn,bne_eq_false_iff_eq] at hq
   have hcon:Fd b p i=Fl b p 2 i:=by
    unfold Fd
    rw [if_pos ⟨hi.1,by omega,by rw [hd];exact hq⟩]
   rw [Yb h,Aaq (by decide),hcon,Afd hc]
   simp only [al]
   obtain⟨n,rfl⟩:∃ n:Nat,i=(n:Int):=⟨i.toNat,by omega⟩
   have hlen:=Sb (b:=b) (k:=2) (by decide) n
   rw [Aaq (by decide),h.one n (by omega),aw] at hlen
   obtain⟨z,hz⟩:=List.length_eq_one_iff.1 hlen
   have hzm:z∈ofZ b 2 (n:Int):=by rw [hz];exact ah
   have hcz:=Ql hc hzm
   have hbz:=Sa hzm
   rw [hz]
   show Ok ((getI [(z.2:Int)] 0).bind _) _
   rw [show getI [(z.2:Int)] 0=some (z.2:Int) from rfl]
   simp only [al,Bv hcz,List.find?_cons,List.find?_nil]
   cases hv:p.Am.getD z.2 false with
   | false=>exact cq rfl
   | true=>
    simp only [bC,cond_false,Bv hbz,al]
    exact cq rfl
 ·refine Ok.bind (P:=λ _=>True) (cw (λ hg=>?_) λ _=>trivial) λ y _=>?_
  ·have:=hg.1
   simp at this;omega
  refine c9 (λ hq=>cq ?_) (λ hq=>?_)
  ·unfold Fd
   rw [if_neg (λ e=>hi (by omega))];rfl
  ·simp [Qw] at hq;omega
theorem Ajo {b:Aa} (h:Bg b) {p:Ab} (hp:Cd b p) {i:Int} (h0:0<=i) (h1:i<b.Ah.length):qX b p i=some (Iu (Fl b p 3 i)):=by
 have hc:=hp.ncl
 refine cI ?_
 unfold qX
 rw [Hy h hp]
 simp only [al]
 refine c9 (λ hq=>?_) (λ _=>?_)
 ·simp [Af7] at hq;omega
 rw [Yb h,Aaq (by decide),Afd hc]
 simp only [al]
 have key:∀ (m:List (Af×Nat)) (k:Nat),(∀ z,z∈m->b.Ag[z.2]? = some z.1/\p.Am[z.2]? = some (p.Am.getD z.2 false)) ->
   foldI (Ni b p) (m.map λ z=>(z.2:Int)) k ()=match m.find? λ z=>p.Am.getD z.2 false with
    | some z=>some (.ret (z.1.A,true))
    | none=>some (.next ()):=by
  intro m
  induction m with
  | nil=>intro k _;rfl
  | cons z m ih=>
   intro k hm
   obtain⟨e1,e2⟩:=hm z ah
   simp only [bz,foldI,Ni,Bv e1,Bv e2,al,List.find?_cons]
   cases p.Am.getD z.2 false with
   | true=>rfl
   | false=>exact ih (k+1) λ y hy=>hm y (ag _ hy)
 rw [key _ 0 λ z hz=>⟨Sa hz,Ql hc hz⟩]
 cases (ofZ b 3 i).find? λ z=>p.Am.getD z.2 false with
 | none=>exact cq rfl
 | some z=>exact cq rfl
theorem Afi (l:List Int) (x:Int):Tf l x=some (l.any (· == x)):=by
 unfold Tf
 have:∀ (l:List Int) (k:Nat),foldI (Nj x) l k ()=bif l.any (· == x) then some (.ret true) else some (.next ()):=by
  intro l
  induction l with
  | nil=>intro k;rfl
  | cons y l ih=>
   intro k
   simp only [foldI,Nj,List.any_cons]
   cases hy:(y==x) with
   | true=>rfl
   | false=>simp only [cond_false,bn];exact ih (k+1)
 rw [this]
 cases l.any (· == x) <;> rfl
theorem Xo {b:Aa} {p:Ab} {n:Nat} {a:Int} (h0:0<=a) (h1:a<b.Ap):(F1 b p n).any (· == a)=((Bb b p).getD a.toNat 0==(Bb b p).getD n 0):=by
 rw [ce,List.any_eq_true]
 constructor
 ·rintro⟨x,hx,e⟩
  rw [da] at e;subst e
  obtain⟨i,hi,rfl⟩:=aq.1 hx
  rw [aX]
  exact (aU.1 hi).2
 ·intro e
  refine⟨a,aq.2 ⟨a.toNat,aU.2 ⟨bm.2 (by omega),e⟩,by omega⟩,by simp⟩
theorem Gz {b:Aa} (h:Bg b) (p:Ab) {n:Nat} (hn:n<b.Ap.toNat):0<=(Bb b p).getD n 0/\((Bb b p).getD n 0).toNat<=n/\(((Bb b p).getD n 0).toNat:Int)=(Bb b p).getD n 0:=by
 have:=Uf h p n _ (Ane (by rw [Hb];exact hn))
 omega
theorem Alt {b:Aa} (h:Bg b) {p:Ab} (hp:Cd b p) {n:Nat} (hn:n<b.Ap.toNat):uI b p (n:Int)=some (isl b p ((Bb b p).getD n 0).toNat,true):=by
 have hso:=h.sol
 have hco:=h.col
 have hg:=Gz h p hn
 refine cI ?_
 unfold uI
 rw [Hy h hp]
 simp only [al]
 refine c9 (λ hc=>?_) (λ _=>?_)
 ·simp [Aga] at hc;omega
 rw [Ait h hp hn]
 simp only [al]
 refine Ok.andThen (A:=λ s=>s.2=Gt b p b.Ac.length ((Bb b p).getD n 0).toNat) (B:=λ (_:Unit)=>False) ?_ (λ s hs=>?_) (λ _ h=>h.elim)
 ·refine cv (λ s=>(0<=s.1/\s.1<=(b.Ac.length:Int))/\s.2=Gt b p s.1.toNat ((Bb b p).getD n 0).toNat) (λ s=>((b.Ac.length:Int)-s.1).toNat) _ _ ?_ ?_ ?_
  ·exact⟨by dsimp only;omega,rfl⟩
  ·dsimp only;omega
  ·rintro⟨i,s⟩ ⟨⟨g1,g2⟩,g3⟩
   dsimp only at g1 g2 g3
   unfold Tk Af9
   dsimp only
   have hsl:s.length<=i.toNat:=by rw [g3];exact Oq _ _
   refine c9 (λ hq=>?_) (λ hq=>cA ?_)
   ·simp only [cY] at hq
    have e1:w64 (i+1)=i+1:=Bp (by omega)
    have e2:(i+1).toNat=i.toNat+1:=by omega
    have e3:((i.toNat:Nat):Int)=i:=by omega
    rw [e1,S0 h hp]
    simp only [al,Afi]
    have hnext:Gt b p (i.toNat+1) ((Bb b p).getD n 0).toNat=s++if (Fh b p (Fd b p i)==some (((Bb b p).getD n 0).toNat:Int))=true then [i] else []:=by
     unfold Gt at g3 ⊢
     rw [L5,←g3,e3]
    have hskip:(Fh b p (Fd b p i)==some (((Bb b p).getD n 0).toNat:Int))=false->Ok (some (.next (i+1,s)):Option (Ctl (Int×List Int) Unit)) (E_ (λ s'=>((0<=s'.1/\s'.1<=(b.Ac.length:Int))/\s'.2=Gt b p s'.1.toNat ((Bb b p).getD n 0).toNat)/\((b.Ac.length:Int)-s'.1).toNat<((b.Ac.length:Int)-i).toNat) (λ s=>s.2=Gt b p b.Ac.length ((Bb b p).getD n 0).toNat) (λ _=>False)):=by
     intro hf
     refine cr ⟨⟨by dsimp only;omega,?_⟩,by dsimp only;omega⟩
     dsimp only
     rw [e2,hnext,hf];simp
    cases hco:Fd b p i with
    | none=>
     refine Ok.bind (P:=λ _=>True) (cw (λ hg=>absurd hg.1 (by simp [Iu])) λ _=>trivial) λ y _=>?_
     refine c9 (λ hq=>by simp [Iu] at hq) (λ _=>hskip (by rw [hco];rfl))
    | some a=>
     have ha:=Ajq h hco
     refine Ok.bind (P:=λ y=>y=(F1 b p n).any (· == a)) (cw (λ _=>cq rfl) λ hn=>(hn ⟨rfl,trivial⟩).elim) λ y hy=>?_
     rw [Xo ha.1 ha.2] at hy
     have hgr:(Fh b p (Fd b p i)==some (((Bb b p).getD n 0).toNat:Int))=((Bb b p).getD a.toNat 0==(Bb b p).getD n 0):=by
      rw [hco,hg.2.2];rfl
     refine c9 (λ hq=>?_) (λ hq=>?_)
     ·simp only [Iu,bH] at hq
      refine (cx (by simp;omega)).bind λ w hw=>cr ⟨⟨by dsimp only;omega,?_⟩,by dsimp only;omega⟩
      dsimp only
      rw [e2,hnext,hgr,←hy,hq,hw];rfl
     ·simp only [Iu,bH] at hq
      exact hskip (by rw [hgr,←hy,hq])
   ·simp only [cZ] at hq
    dsimp only
    rw [g3]
    have:i.toNat=b.Ac.length:=by omega
    rw [this]
 ·refine Ok.andThen (A:=λ s=>s.2=G3 b p b.Ah.length ((Bb b p).getD n 0).toNat) (B:=λ (_:Unit)=>False) ?_ (λ t ht=>cq ?_) (λ _ h=>h.elim)
  ·refine cv (λ s=>(0<=s.1/\s.1<=(b.Ah.length:Int))/\s.2=G3 b p s.1.toNat ((Bb b p).getD n 0).toNat) (λ s=>((b.Ah.length:Int)-s.1).toNat) _ _ ?_ ?_ ?_
   ·exact⟨by dsimp only;omega,rfl⟩
   ·dsimp only;omega
   ·rintro⟨i,s⟩ ⟨⟨g1,g2⟩,g3⟩
    dsimp only at g1 g2 g3
    unfold Tj Af8
    dsimp only
    have hsl:s.length<=i.toNat:=by rw [g3];exact Oq _ _
    refine c9 (λ hq=>?_) (λ hq=>cA ?_)
    ·simp only [cY] at hq
     have e1:w64 (i+1)=i+1:=Bp (by omega)
     have e2:(i+1).toNat=i.toNat+1:=by omega
     have e3:((i.toNat:Nat):Int)=i:=by omega
     rw [e1,Ajo h hp g1 hq]
     simp only [al,Afi]
     have hnext:G3 b p (i.toNat+1) ((Bb b p).getD n 0).toNat=s++if (Fh b p (Fl b p 3 i)==some (((Bb b p).getD n 0).toNat:Int))=true then [i] else []:=by
      unfold G3 at g3 ⊢
      rw [L5,←g3,e3]
     have hskip:(Fh b p (Fl b p 3 i)==some (((Bb b p).getD n 0).toNat:Int))=false->Ok (some (.next (i+1,s)):Option (Ctl (Int×List Int) Unit)) (E_ (λ s'=>((0<=s'.1/\s'.1<=(b.Ah.length:Int))/\s'.2=G3 b p s'.1.toNat ((Bb b p).getD n 0).toNat)/\((b.Ah.length:Int)-s'.1).toNat<((b.Ah.length:Int)-i).toNat) (λ s=>s.2=G3 b p b.Ah.length ((Bb b p).getD n 0).toNat) (λ _=>False)):=by
      intro hf
      refine cr ⟨⟨by dsimp only;omega,?_⟩,by dsimp only;omega⟩
      dsimp only
      rw [e2,hnext,hf];simp
     cases hco:Fl b p 3 i with
     | none=>
      refine Ok.bind (P:=λ _=>True) (cw (λ hg=>absurd hg.1 (by simp [Iu])) λ _=>trivial) λ y _=>?_
      refine c9 (λ hq=>by simp [Iu] at hq) (λ _=>hskip (by rw [hco];rfl))
     | some a=>
      have ha:=Yp h hco
      refine Ok.bind (P:=λ y=>y=(F1 b p n).any (· == a)) (cw (λ _=>cq rfl) λ hn=>(hn ⟨rfl,trivial⟩).elim) λ y hy=>?_
      rw [Xo ha.1 ha.2] at hy
      have hgr:(Fh b p (Fl b p 3 i)==some (((Bb b p).getD n 0).toNat:Int))=((Bb b p).getD a.toNat 0==(Bb b p).getD n 0):=by
       rw [hco,hg.2.2];rfl
      refine c9 (λ hq=>?_) (λ hq=>?_)
      ·simp only [Iu,bH] at hq
       refine (cx (by simp;omega)).bind λ w hw=>cr ⟨⟨by dsimp only;omega,?_⟩,by dsimp only;omega⟩
       dsimp only
       rw [e2,hnext,hgr,←hy,hq,hw];rfl
      ·simp only [Iu,bH] at hq
       exact hskip (by rw [hgr,←hy,hq])
    ·simp only [cZ] at hq
     dsimp only
     rw [g3]
     have:i.toNat=b.Ah.length:=by omega
     rw [this]
  ·rw [hs,ht]
   unfold isl Jk F1
   rw [hg.2.2]
def Ez (b:Aa) (p:Ab) (f:Nat):Bool:=(Bb b p).getD f 0==(f:Int)
theorem Je {b:Aa} (h:Bg b) (p:Ab) {n:Nat} (hn:n<b.Ap.toNat):Ez b p ((Bb b p).getD n 0).toNat=true:=by
 have hg:=Gz h p hn
 unfold Ez
 rw [da,hg.2.2]
 have hm:((Bb b p).getD n 0).toNat<b.Ap.toNat:=by omega
 have hL:=Rn h p
 have hself:Eh (B6 b p) ((Bb b p).getD n 0).toNat n:=by
  have hlab:∀ (xs:List Nat) (s:List Int),s.length=b.Ap.toNat->Lab (B6 b p) s->Lab (B6 b p) (xs.foldl (λ s _=>Dr (b.Ag.zip p.Am) s) s):=by
   intro xs
   induction xs with
   | nil=>intro s _ h;exact h
   | cons x xs ih=>
    intro s hl h2
    refine ih _ (by rw [Ek];exact hl) (J_ _ s hl (λ z hz=>⟨hz,λ hk=>?_⟩) h2)
    have:=h.br z.1 (bR hz).1
    unfold Pc at this
    omega
  refine hlab (List.range b.Ap.toNat) (Db b.Ap.toNat) (by simp [Db]) ?_ n ?_
  ·intro k hk
   rw [Lj (by simpa [Db] using hk)]
   exact .refl _ k
  ·have:=Hb b p
   unfold Bb at this
   rw [this];exact hn
 exact (P7 h p hm hn).2 hself
theorem Ajk {b:Aa} (h:Bg b) (p:Ab) {f:Nat} (hf:f<b.Ap.toNat):Ajl (isl b p f)=Ez b p f:=by
 rw [ce]
 unfold Ajl isl Jk
 simp only [bg,db,ne_eq,aw]
 constructor
 ·intro e
  have hne:(List.range b.Ap.toNat).filter (λ i=>(Bb b p).getD i 0==(f:Int))≠[]:=λ e2=>e (by rw [e2];rfl)
  obtain⟨i,hi⟩:=List.exists_mem_of_ne_nil _ hne
  obtain⟨h1,h2⟩:=aU.1 hi
  rw [da] at h2
  have:=Je h p (bm.1 h1)
  rw [h2,aX] at this
  exact this
 ·intro e e2
  have hm:f∈(List.range b.Ap.toNat).filter (λ i=>(Bb b p).getD i 0==(f:Int)):=aU.2 ⟨bm.2 hf,e⟩
  have:=List.length_pos_iff.2 (List.ne_nil_of_mem hm)
  omega
def Hi (b:Aa) (p:Ab) (n:Nat):List Nat:=(List.range n).filter (Ez b p)
theorem Ha {b:Aa} (h:Bg b) (p:Ab):C2 b p=(Hi b p b.Ap.toNat).map (isl b p):=by
 unfold C2 Hi
 rw [List.filter_map]
 congr 1
 exact List.filter_congr λ f hf=>Ajk h p (bm.1 hf)
theorem Adp {b:Aa} (h:Bg b) (p:Ab) {n:Nat} (hn:n<b.Ap.toNat):∃ m:Nat,(F1 b p n)[0]? = some (m:Int)/\(m=n↔Ez b p n=true):=by
 have hg:=Gz h p hn
 have hm:((Bb b p).getD n 0).toNat<b.Ap.toNat:=by omega
 have hgg:=Je h p hn
 unfold Ez at hgg
 rw [da,hg.2.2] at hgg
 have hfind:(List.range b.Ap.toNat).find? (λ i=>(Bb b p).getD i 0==(Bb b p).getD n 0)=some ((Bb b p).getD n 0).toNat:=by
  rw [List.find?_range_eq_some]
  refine⟨by rw [da];exact hgg,bm.2 hm,λ j hj=>?_⟩
  simp only [bg,db,ne_eq]
  intro e
  have:=Gz h p (n:=j) (by omega)
  omega
 refine⟨((Bb b p).getD n 0).toNat,?_,?_⟩
 ·unfold F1
  rw [ap,←List.head?_eq_getElem?,List.head?_filter,hfind];rfl
 ·unfold Ez
  rw [da];omega
theorem Ys {b:Aa} (h:Bg b) {p:Ab} (hp:Cd b p):F85 b p=some (C2 b p):=by
 have hbu:=h.buses
 rw [Ha h]
 refine cI ?_
 unfold F85
 rw [Hy h hp]
 simp only [al]
 refine c9 (λ hc=>by simp at hc) (λ _=>?_)
 refine Ok.andThen (A:=λ s=>s.2=(Hi b p b.Ap.toNat).map (isl b p)) (B:=λ (_:Unit)=>False) ?_ (λ s hs=>cq hs) (λ _ h=>h.elim)
 refine cv (λ s=>(0<=s.1/\s.1<=b.Ap)/\s.2=(Hi b p s.1.toNat).map (isl b p)) (λ s=>(b.Ap-s.1).toNat) _ _ ?_ ?_ ?_
 ·exact⟨by dsimp only;omega,rfl⟩
 ·dsimp only;omega
 ·rintro⟨i,s⟩ ⟨⟨g1,g2⟩,g3⟩
  dsimp only at g1 g2 g3
  unfold jJ
  dsimp only
  refine c9 (λ hq=>?_) (λ hq=>cA ?_)
  ·simp only [cY] at hq
   obtain⟨n,rfl⟩:∃ n:Nat,i=(n:Int):=⟨i.toNat,by omega⟩
   have hn:n<b.Ap.toNat:=by omega
   have e1:w64 ((n:Int)+1)=(n:Int)+1:=Bp (by omega)
   have e2:((n:Int)+1).toNat=n+1:=by omega
   have hg:=Gz h p hn
   obtain⟨m,hm,hmn⟩:=Adp h p hn
   have hbuses:(isl b p ((Bb b p).getD n 0).toNat).Ap=F1 b p n:=by
    unfold isl Jk F1
    rw [hg.2.2]
   rw [aX] at g3
   have hsl:s.length<=n:=by
    rw [g3,aw]
    exact aD (bT _ _) (by simp)
   have hnext:Hi b p (n+1)=Hi b p n++if Ez b p n=true then [n] else []:=by
    unfold Hi
    rw [cd,bQ]
    congr 1
    cases hq:Ez b p n <;> simp [hq]
   rw [e1,Alt h hp hn]
   simp only [al,hbuses]
   have hg0:getI (F1 b p n) 0=some (m:Int):=Bv (j:=0) hm
   rw [hg0]
   simp only [al]
   refine c9 (λ hq=>?_) (λ hq=>cr ⟨⟨by dsimp only;omega,?_⟩,by dsimp only;omega⟩)
   ·simp only [da] at hq
    have hle:=hmn.1 (by omega)
    refine (cx (by simp;omega)).bind λ w hw=>cr ⟨⟨by dsimp only;omega,?_⟩,by dsimp only;omega⟩
    dsimp only
    have hgn:((Bb b p).getD n 0).toNat=n:=by
     unfold Ez at hle
     rw [da] at hle;omega
    rw [e2,hnext,if_pos hle,hw,g3,bS,hgn];rfl
   ·simp only [db,ne_eq] at hq
    have hle:¬Ez b p n=true:=λ e=>hq (by rw [hmn.2 e])
    dsimp only
    rw [e2,hnext,if_neg hle,bD,g3]
  ·simp only [cZ] at hq
   dsimp only
   have:i.toNat=b.Ap.toNat:=by omega
   rw [g3,this]
theorem uV {b:Aa} (h:Bg b) {p:Ab} (hp:Cd b p):F45 b p=some (⟨p.Am,D_ b p,p.Aw,p.As⟩,0):=by
 have hn:=hp.nso
 refine cI ?_
 unfold F45
 rw [Hy h hp]
 simp only [al]
 refine c9 (λ hc=>by simp at hc) (λ _=>?_)
 refine Ok.bind (P:=λ y=>y=⟨p.Am,D_ b p,p.Aw,p.As⟩) ?_ λ y hy=>cq (by rw [hy])
 unfold F63
 rw [yR h hp,Ys h hp]
 simp only [al]
 refine Ok.andThen (A:=λ s=>s=D_ b p) (B:=λ (_:Unit)=>False) ?_ (λ s hs=>cq (by rw [hs])) (λ _ h=>h.elim)
 refine cz (I:=λ j s=>s=((C2 b p).take j).foldl (Cr p) p.Ac) rfl (λ j x s hx hs=>?_) λ s hs=>?_
 ·have hi:=Sq (ak hx)
  have hl:s.length=p.Ac.length:=by rw [hs,Is]
  have hnext:((C2 b p).take (j+1)).foldl (Cr p) p.Ac=Cr p s x:=by rw [Ec hx,bI,←hs];rfl
  rw [hnext]
  unfold jT
  cases hsrc:x.Ac with
  | nil=>exact cr (by unfold Cr;rw [hsrc])
  | cons m l=>
   have hm:=hi m (by rw [hsrc];exact ah)
   obtain⟨u,hu⟩:∃ u,p.Ac[m.toNat]? = some u:=⟨_,ai (by omega)⟩
   have hgu:getI p.Ac m=some u:=by have:=Bv hu;rwa [Int.toNat_of_nonneg hm.1] at this
   have hd:p.Ac.getD m.toNat default=u:=by simp [List.getD,hu]
   have hf:Cr p s x=Dz u (m::l) s:=by unfold Cr;rw [hsrc];simp only [hd]
   rw [hf]
   have hin:∀ k,k∈m::l->0<=k/\k<p.Ac.length:=λ k hk=>by
    have:=hi k (by rw [hsrc];exact hk)
    omega
   refine (cz (I:=λ k r=>r=Dz u ((m::l).take k) s) (A:=λ r=>r=Dz u (m::l) s) (B:=λ (_:Unit)=>False) rfl (λ k n r hk hr=>?_) λ r hr=>by rw [hr,bG]).inner (λ r hr=>cr hr) (λ _ h=>h.elim)
   have hnk:=hin n (ak hk)
   have hrl:r.length=p.Ac.length:=by rw [hr,Ip,hl]
   unfold jS
   rw [hsrc,show getI (m::l) 0=some m from rfl]
   simp only [al,hgu]
   refine (cF hnk.1 (by omega)).bind λ v hv=>(cE hnk.1 (by omega)).bind λ r1 e1=>?_
   have hvg:r1[n.toNat]? = some (⟨v.State,v.Since,u.An,v.Phase⟩:Ae):=by rw [e1,cb (by omega)]
   refine Ok.bind (P:=λ w=>w=(⟨v.State,v.Since,u.An,v.Phase⟩:Ae)) ((cF hnk.1 (by rw [e1];simp;omega)).mono λ w hw=>by rw [hvg] at hw;cases hw;rfl) λ w hw=>?_
   refine (cE hnk.1 (by rw [e1];simp;omega)).bind λ r2 e2=>cr ?_
   have hdv:r.getD n.toNat default=v:=by simp [List.getD,hv]
   rw [Adn hk,←hr,hdv,e2,e1,hw,List.set_set];rfl
 ·rw [bG] at hs;exact hs
theorem Aip {ss:List Ae} {n:Nat} (h:n<ss.length):ss.set n (ss.getD n default)=ss:=by
 apply bj
 intro i
 rw [ar]
 split
 ·rename_i e;subst e
  simp [List.getD,List.getElem?_eq_getElem h]
 ·rfl
theorem Tz {like:Ae}:∀ (idx:List Int) (ss:List Ae),(∀ i,i∈idx->i.toNat<ss.length/\N0 like (ss.getD i.toNat default)=ss.getD i.toNat default)->Dz like idx ss=ss
 | [],_,_=>rfl
 | i::idx,ss,h=>by
  obtain⟨h1,h2⟩:=h i ah
  show Dz like idx (ss.set i.toNat (N0 like (ss.getD i.toNat default)))=ss
  rw [h2,Aip h1]
  exact Tz idx ss λ j hj=>h j (ag _ hj)
theorem Ol {ss:List Ae} {m n:Nat} {y:Ae}:(ss.set m y).getD n default=if m=n/\m<ss.length then y else ss.getD n default:=by
 unfold List.getD
 rw [ar]
 by_cases e:m=n
 ·subst e
  by_cases hl:m<ss.length
  ·simp [hl]
  ·simp [hl]
 ·simp [e]
theorem Pr (like:Ae):∀ (idx:List Int) (ss:List Ae) (n:Nat),((Dz like idx ss).getD n default).State=(ss.getD n default).State
 | [],_,_=>rfl
 | i::idx,ss,n=>by
  show ((Dz like idx _).getD n default).State=_
  rw [Pr like idx,Ol]
  split
  ·rename_i e;rw [←e.1];rfl
  ·rfl
theorem Oc {like:Ae}:∀ (idx:List Int) (ss:List Ae) {n:Nat},(∀ i,i∈idx->i.toNat≠n)->(Dz like idx ss).getD n default=ss.getD n default
 | [],_,_,_=>rfl
 | i::idx,ss,n,h=>by
  show (Dz like idx _).getD n default=_
  rw [Oc idx _ (λ j hj=>h j (ag _ hj)),Ol,if_neg (λ e=>h i ah e.1)]
theorem vL {like:Ae}:∀ (idx:List Int) (ss:List Ae) {n:Nat},n<ss.length->(∃ i,i∈idx/\i.toNat=n)->((Dz like idx ss).getD n default).An=like.An/\((Dz like idx ss).getD n default).Phase=like.Phase
 | [],_,_,_,h=>by obtain⟨_,h,_⟩:=h;cases h
 | i::idx,ss,n,hn,h=>by
  by_cases hr:∃ j,j∈idx/\j.toNat=n
  ·exact vL idx _ (by simpa using hn) hr
  ·have hi:i.toNat=n:=by
    obtain⟨j,hj,e⟩:=h
    rcases ae.1 hj with rfl | hj
    ·exact e
    ·exact absurd ⟨j,hj,e⟩ hr
   have:(Dz like (i::idx) ss).getD n default=N0 like (ss.getD i.toNat default):=by
    show (Dz like idx _).getD n default=_
    rw [Oc idx _ (λ j hj e=>hr ⟨j,hj,e⟩),Ol,if_pos ⟨hi,by omega⟩]
   rw [this];exact⟨rfl,rfl⟩
def uO (b:Aa) (p:Ab):Prop:=∀ x,x∈C2 b p->∀ i j,i∈x.Ac->j∈x.Ac ->
 (p.Ac.getD i.toNat default).An=(p.Ac.getD j.toNat default).An/\(p.Ac.getD i.toNat default).Phase=(p.Ac.getD j.toNat default).Phase
theorem Yw {b:Aa} {p:Ab} (hn:p.Ac.length=b.Ac.length) (h:uO b p):D_ b p=p.Ac:=by
 have key:∀ l:List Ai,(∀ x,x∈l->x∈C2 b p)->l.foldl (Cr p) p.Ac=p.Ac:=by
  intro l
  induction l with
  | nil=>intro _;rfl
  | cons x l ih=>
   intro hl
   have hx:=hl x ah
   have hst:Cr p p.Ac x=p.Ac:=by
    unfold Cr
    split
    ·rfl
    ·rename_i i r e
     refine Tz _ _ λ j hj=>?_
     have hj2:=Sq hx j hj
     have ha:=h x hx i j (by rw [e];exact ah) hj
     refine⟨by omega,?_⟩
     unfold N0
     rw [ha.1,ha.2]
   rw [bq,hst]
   exact ih λ y hy=>hl y (ag _ hy)
 exact key _ λ _ hx=>hx
theorem uU (p:Ab) (s:List Ae) (x:Ai) (n:Nat):((Cr p s x).getD n default).State=(s.getD n default).State:=by
 unfold Cr
 split
 ·rfl
 ·exact Pr _ _ _ _
theorem Vn (b:Aa) (p:Ab) (n:Nat):((D_ b p).getD n default).State=(p.Ac.getD n default).State:=by
 have key:∀ (l:List Ai) (s:List Ae),((l.foldl (Cr p) s).getD n default).State=(s.getD n default).State:=by
  intro l
  induction l with
  | nil=>intro s;rfl
  | cons x l ih=>intro s;rw [bq,ih,uU]
 exact key _ _
theorem Vm {b:Aa} {p q:Ab} (hc:q.Am=p.Am) (hl:q.Ac.length=p.Ac.length) (hs:∀ n:Nat,(q.Ac.getD n default).State=(p.Ac.getD n default).State):C2 b q=C2 b p:=by
 have hled:∀ k i,Fl b q k i=Fl b p k i:=λ k i=>by unfold Fl;rw [hc]
 have hgr:Bb b q=Bb b p:=by unfold Bb;rw [hc]
 have hcon:∀ i,Fd b q i=Fd b p i:=λ i=>by unfold Fd;rw [hled,hl,hs]
 have hgo:∀ o,Fh b q o=Fh b p o:=λ o=>by unfold Fh;rw [hgr]
 have hisl:isl b q=isl b p:=by
  funext f
  unfold isl Jk Gt G3
  simp only [hgr,hled,hcon,hgo]
 unfold C2
 rw [hisl]
theorem R6 {b:Aa} {p:Ab} {f:Nat} {i:Int}:i∈(isl b p f).Ac↔∃ k:Nat,i=(k:Int)/\k<b.Ac.length/\Fh b p (Fd b p (k:Int))=some (f:Int):=by
 constructor
 ·intro h
  obtain⟨k,hk,e⟩:=aq.1 h
  obtain⟨h1,h2⟩:=aU.1 hk
  exact⟨k,e.symm,bm.1 h1,by rwa [da] at h2⟩
 ·rintro⟨k,e,h1,h2⟩
  exact aq.2 ⟨k,aU.2 ⟨bm.2 h1,by rw [da];exact h2⟩,e.symm⟩
theorem Aio {b:Aa} {p:Ab} {f g:Nat} (hfg:f≠g) {i j:Int} (hi:i∈(isl b p f).Ac) (hj:j∈(isl b p g).Ac):i.toNat≠j.toNat:=by
 obtain⟨k,rfl,_,e1⟩:=R6.1 hi
 obtain⟨m,rfl,_,e2⟩:=R6.1 hj
 rw [aX,aX]
 intro e;subst e
 rw [e1] at e2
 have:=bd e2
 exact hfg (by omega)
def Vt (b:Aa) (p:Ab) (f:Nat):Ae:=p.Ac.getD ((isl b p f).Ac.headD 0).toNat default
theorem Yy {b:Aa} {p:Ab} {n:Nat}:∀ (fs:List Nat) (s:List Ae),(∀ f,f∈fs->∀ i,i∈(isl b p f).Ac->i.toNat≠n)->((fs.map (isl b p)).foldl (Cr p) s).getD n default=s.getD n default
 | [],_,_=>rfl
 | f::fs,s,h=>by
  rw [bz,bq,Yy fs _ (λ g hg=>h g (ag _ hg))]
  have hf:=h f ah
  unfold Cr
  split
  ·rfl
  ·exact Oc _ _ hf
theorem Su {b:Aa} {p:Ab} (hn:p.Ac.length=b.Ac.length):∀ (fs:List Nat) (s:List Ae),s.length=p.Ac.length->fs.Nodup->∀ f,f∈fs->∀ i,i∈(isl b p f).Ac ->
  (((fs.map (isl b p)).foldl (Cr p) s).getD i.toNat default).An=(Vt b p f).An/\(((fs.map (isl b p)).foldl (Cr p) s).getD i.toNat default).Phase=(Vt b p f).Phase
 | [],_,_,_,_,h,_,_=>by cases h
 | g::fs,s,hs,hnd,f,hf,i,hi=>by
  obtain⟨h1,h2⟩:=List.nodup_cons.1 hnd
  rw [bz,bq]
  by_cases e:f=g
  ·subst e
   rw [Yy fs _ (λ k hk j hj=>Aio (λ e=>h1 (by rw [←e];exact hk)) hj hi)]
   obtain⟨k,rfl,hk,_⟩:=R6.1 hi
   unfold Cr
   split
   ·rename_i e;rw [e] at hi;cases hi
   ·rename_i m r e
    have:Vt b p f=p.Ac.getD m.toNat default:=by unfold Vt;rw [e];rfl
    rw [this]
    exact vL _ _ (by rw [aX];omega) ⟨_,hi,rfl⟩
  ·rcases ae.1 hf with h | hf
   ·exact absurd h e
   ·exact Su hn fs _ (by rw [H7];exact hs) h2 f hf i hi
theorem Ss {b:Aa} (h:Bg b) {p:Ab} (hn:p.Ac.length=b.Ac.length):uO b ⟨p.Am,D_ b p,p.Aw,p.As⟩:=by
 have hisl:C2 b ⟨p.Am,D_ b p,p.Aw,p.As⟩=C2 b p:=Vm rfl (Jg b p) (Vn b p)
 intro x hx i j hi hj
 rw [hisl,Ha h] at hx
 obtain⟨f,hf,rfl⟩:=aq.1 hx
 have hnd:(Hi b p b.Ap.toNat).Nodup:=(List.nodup_range).sublist List.filter_sublist
 have hfl:D_ b p=((Hi b p b.Ap.toNat).map (isl b p)).foldl (Cr p) p.Ac:=by
  rw [←Ha h];rfl
 have e1:=Su hn _ p.Ac rfl hnd f hf i hi
 have e2:=Su hn _ p.Ac rfl hnd f hf j hj
 dsimp only
 rw [hfl]
 exact⟨e1.1.trans e2.1.symm,e1.2.trans e2.2.symm⟩
theorem vE {b:Aa} (h:Bg b) {s:Ad} (hs:Bm s):Ok (Q_ s b) λ y=>(Cd b y.1/\uO b y.1/\y.1.As.length<=4)/\Bm y.2:=by
 unfold Q_
 refine (Aj7 h hs).bind λ y hy=>?_
 rw [uV h hy.1.1]
 exact cq ⟨⟨Aoy hy.1.1 (Jg b _) (Aa7 hy.1.1),Ss h hy.1.1.nso,hy.1.2⟩,hy.2⟩
theorem Aj8 {b:Aa} (h:Bg b) {s:Ad} (hs:Bm s):Ok (Rf s b) λ y=>((∀ t,Nd b t y.1)/\(5<=y.1.Time/\y.1.Time<=20)/\y.1.A7=[]/\y.1.Power.As.length<=4)/\Bm y.2:=by
 have hbu:=h.buses
 unfold Rf
 refine (E1 hs 5 20 (by omega) (by omega) (by omega)).bind λ y hy=>(vE h hy.1).bind λ z hz=>?_
 refine Ok.andThen (A:=λ s=>Bm ⟨s.2.1,s.2.2.1⟩/\s.2.2.2.length=b.Ap.toNat/\∀ x,x∈s.2.2.2->(-1<=x.High/\x.High<=4) /\ -1<=x.Low/\x.Low<=4) (B:=λ (_:Unit)=>False) ?_ (λ s hs=>?_) (λ _ h=>h.elim)
 ·refine cv (λ s=>(0<=s.1/\s.1<=b.Ap)/\Bm ⟨s.2.1,s.2.2.1⟩/\(s.2.2.2.length:Int)=s.1/\∀ x,x∈s.2.2.2->(-1<=x.High/\x.High<=4) /\ -1<=x.Low/\x.Low<=4) (λ s=>(b.Ap-s.1).toNat) _ _ ?_ ?_ ?_
  ·exact⟨by dsimp only;omega,hz.2,by simp,λ x hx=>by cases hx⟩
  ·dsimp only;omega
  ·rintro⟨i,L,a,l⟩ ⟨⟨g1,g2⟩,g3,g4,g5⟩
   dsimp only at g1 g2 g3 g4 g5
   unfold O_
   dsimp only
   refine c9 (λ hq=>?_) (λ hq=>cA ?_)
   ·simp only [cY] at hq
    have e1:w64 (i+1)=i+1:=Bp (by omega)
    rw [e1]
    refine (E1 g3 (-1) 4 (by omega) (by omega) (by omega)).bind λ u hu=>(E1 hu.1 (-1) 4 (by omega) (by omega) (by omega)).bind λ v hv=>(cx (by simp;omega)).bind λ w hw=>cr ?_
    refine⟨⟨by dsimp only;omega,hv.1,by rw [hw];simp;omega,λ x hx=>?_⟩,by dsimp only;omega⟩
    rw [hw] at hx
    rcases ax.1 hx with hx | hx
    ·exact g5 x hx
    ·simp only [bO] at hx
     subst hx
     exact⟨hu.2,hv.2⟩
   ·simp only [cZ] at hq
    exact⟨g3,by dsimp only;omega,g5⟩
 ·refine cq ⟨⟨λ t=>?_,hy.2,rfl,hz.1.2.2⟩,hs.1⟩
  exact {
   st:=hz.1.1
   fol:=Yw hz.1.1.nso hz.1.2.1
   time:=by have:=hy.2;dsimp only;omega
   nro:=hs.2.1
   ros:=λ x hx=>by
    have:=hs.2.2 x hx
    have:=hy.2
    unfold Abt
    dsimp only
    omega}
def I64 (x:Int):Prop:=-9223372036854775808<=x/\x<=9223372036854775807
theorem Aja {ns:List Int} (h:∀ x,x∈ns->I64 x):(Ca ns).length<=22*ns.length+1:=by
 have key:∀ {l:List Int},(∀ x,x∈l->I64 x)->(l.flatMap λ y=>32::Lib.itoa y).length<=22*l.length:=fun {l}=>by
  induction l with
  | nil=>intro _;simp
  | cons x l ih=>
   intro h
   have h1:=ih λ y hy=>h y (ag _ hy)
   have h2:=Lib.itoa_length_le x (h x ah).1 (h x ah).2
   simp only [bZ,au,aJ]
   omega
 unfold Ca
 cases ns with
 | nil=>simp [Cu]
 | cons x r=>
  have h1:=key λ y hy=>h y (ag _ hy)
  have h2:=Lib.itoa_length_le x (h x ah).1 (h x ah).2
  simp only [Cu,au,aJ,aQ]
  omega
theorem V_:∀ {l:List (List Int)},(∀ r,r∈l->r.length<=100/\∀ x,x∈r->I64 x)->(Bk l).length<=2201*l.length
 | [],_=>by simp [Bk]
 | r::l,h=>by
  have h1:=V_ (l:=l) λ s hs=>h s (ag _ hs)
  obtain⟨h2,h3⟩:=h r ah
  have h4:=Aja h3
  have e:Bk (r::l)=Ca r++Bk l:=by simp [Bk]
  rw [e,au,aJ]
  omega
def Ev (p:Al):List (List Int):=[[p.Time],p.Power.Am.map Cm]++p.Power.Ac.map (λ s=>[s.State,s.Since,s.An,s.Phase])++[p.Power.Aw]++p.Power.As.map (λ s=>[s.Kind,s.Number])++p.Av.map (λ s=>[s.High,s.Low])
def Fk (p:Al):ByteArray:=⟨(Bk (Ev p)).toArray⟩
structure Ki (p:Al):Prop where
 cl:p.Power.Am.length<=100
 so:p.Power.Ac.length<=100
 li:p.Power.Aw.length<=100
 br:p.Power.As.length<=100
 ro:p.Av.length<=100
 t:I64 p.Time
 rs:∀ s,s∈p.Power.Ac->I64 s.State/\I64 s.Since/\I64 s.An/\I64 s.Phase
 rl:∀ s,s∈p.Power.Aw->I64 s
 rb:∀ s,s∈p.Power.As->I64 s.Kind/\I64 s.Number
 rr:∀ s,s∈p.Av->I64 s.High/\I64 s.Low
theorem Oh {p:Al} (h:Ki p):∀ r,r∈Ev p->r.length<=100/\∀ x,x∈r->I64 x:=by
 intro r hr
 unfold Ev at hr
 simp only [ax,ae,bE,or_false,aq] at hr
 rcases hr with ((((rfl | rfl) | ⟨s,hs,rfl⟩) | rfl) | ⟨s,hs,rfl⟩) | ⟨s,hs,rfl⟩
 ·exact⟨by simp,λ x hx=>by simp only [ae,bE,or_false] at hx;subst hx;exact h.t⟩
 ·refine⟨by rw [aw];exact h.cl,λ x hx=>?_⟩
  obtain⟨c,_,rfl⟩:=aq.1 hx
  cases c <;> simp [Cm,I64]
 ·refine⟨by simp,λ x hx=>?_⟩
  have:=h.rs s hs
  simp only [ae,bE,or_false] at hx
  rcases hx with rfl | rfl | rfl | rfl
  ·exact this.1
  ·exact this.2.1
  ·exact this.2.2.1
  ·exact this.2.2.2
 ·exact⟨h.li,h.rl⟩
 ·refine⟨by simp,λ x hx=>?_⟩
  have:=h.rb s hs
  simp only [ae,bE,or_false] at hx
  rcases hx with rfl | rfl
  ·exact this.1
  ·exact this.2
 ·refine⟨by simp,λ x hx=>?_⟩
  have:=h.rr s hs
  simp only [ae,bE,or_false] at hx
  rcases hx with rfl | rfl
  ·exact this.1
  ·exact this.2
theorem Afa {p:Al} (h:Ki p):(Ev p).length<=303:=by
 have h1:=h.so
 have h2:=h.br
 have h3:=h.ro
 unfold Ev
 simp only [au,aw,aJ,aQ]
 omega
theorem vK {p:Al} (h:Ki p):(Bk (Ev p)).length<=1000000:=by
 have h1:=V_ (Oh h)
 have h2:=Afa h
 omega
theorem Gh {p:Al} (h:Ki p):F22 p=some (Fk p):=
 Afc (l:=Ev p) (λ x hx=>⟨by have:=(Oh h x hx).1;omega,(Oh h x hx).2⟩) (by have:=vK h;omega)
theorem Nd.tx {b:Aa} (h:Bg b) {y:Bd} {p:Al} (hp:Nd b y p):Ki p:=by
 have g1:=h.buses
 have g2:=h.brl
 have g3:=h.sol
 have g4:=h.col
 have n1:=hp.st.ncl
 have n2:=hp.st.nso
 have n3:=hp.st.nli
 have n4:=hp.st.brk.len
 have n5:=hp.nro
 have ht:=hp.time
 refine⟨by omega,by omega,by omega,by omega,by omega,by unfold I64;omega,λ s hs=>?_,λ s hs=>?_,λ s hs=>?_,λ s hs=>?_⟩
 ·have:=hp.st.run s hs
  unfold Dh at this
  unfold I64
  omega
 ·obtain⟨i,hi⟩:=ch hs
  have hil:=(aa.1 hi).1
  obtain⟨c,hc⟩:∃ c,b.Ah[i]? = some c:=⟨_,ai (by omega)⟩
  have:=hp.st.lim i s c hi hc
  have hco:=h.co i c hc
  unfold Add at hco
  unfold I64
  omega
 ·have:=hp.st.brk.mem s hs
  unfold Jp at this
  unfold I64
  omega
 ·have:=hp.ros s hs
  unfold Abt at this
  unfold I64
  omega
def Zd (p:Al):Int:=(F23 p).getD 0
theorem Af2 {p:Al} (h:Ki p):F23 p=some (Zd p):=by
 have key:Ok (F23 p) λ _=>True:=by
  unfold F23
  rw [Gh h]
  simp only [al]
  refine Ok.bind (P:=λ _=>True) ?_ λ _ _=>cq trivial
  unfold F41
  have hsz:(Fk p).size=(Bk (Ev p)).length:=by simp [Fk,ByteArray.size]
  have hb:Mf (Fk p)=some (Mg (Fk p)):=by
   unfold Mf
   rw [dc (by have:=vK h;omega)];rfl
  rw [hb]
  simp only [al]
  refine Ok.andThen (A:=λ _=>True) (B:=λ _=>False) ?_ (λ _ _=>cq trivial) (λ _ h=>h.elim)
  exact cz (λ _ _=>True) trivial (λ _ _ _ _ _=>cr trivial) λ _ _=>trivial
 obtain⟨r,e,_⟩:=key
 unfold Zd
 rw [e];rfl
theorem Ue {α:Type} {c:Bool} {x:Option α} {d:α} (h:c=false):A5 [(c,false)] x d=x:=by subst h;rfl
theorem Ado:F8=some true:=by kernel_rfl
theorem Ma:∀ (n:Nat) c,c∈Lib.decDigits n->48<=c.toNat/\c.toNat<=57:=by
 intro n
 induction n using Nat.strongRecOn with
 | _ n ih=>
  intro c hc
  have one:∀ k:Nat,k<10->48<=(UInt8.ofNat (48+k)).toNat/\(UInt8.ofNat (48+k)).toNat<=57:=λ k hk=>by
   rw [UInt8.toNat_ofNat']
   omega
  rw [Lib.decDigits] at hc
  split at hc
  ·rename_i h
   rw [bO] at hc
   subst hc
   exact one n h
  ·rcases ax.1 hc with hc | hc
   ·exact ih (n / 10) (by omega) c hc
   ·rw [bO] at hc
    subst hc
    exact one (n % 10) (by omega)
def V7 (l:List UInt8):Nat:=l.foldl (λ a c=>a*10+(c.toNat-48)) 0
theorem M9 (n:Nat):V7 (Lib.decDigits n)=n:=by
 induction n using Nat.strongRecOn with
 | _ n ih=>
  rw [Lib.decDigits]
  split
  ·simp only [V7,bq,List.foldl_nil,UInt8.toNat_ofNat']
   omega
  ·have:=ih (n / 10) (by omega)
   unfold V7 at this ⊢
   rw [bI,this]
   simp only [bq,List.foldl_nil,UInt8.toNat_ofNat']
   omega
theorem Aoa (n:Nat):Lib.decDigits n≠[]:=by
 rw [Lib.decDigits]
 split <;> simp
theorem Ga {x:Int} {c:UInt8} (h:c∈Lib.itoa x):c.toNat=45\/48<=c.toNat:=by
 unfold Lib.itoa at h
 split at h
 ·rcases ae.1 h with rfl | h
  ·exact .inl rfl
  ·exact .inr (Ma _ c h).1
 ·exact .inr (Ma _ c h).1
theorem Alw (x:Int):Lib.itoa x≠[]:=by
 unfold Lib.itoa
 split
 ·simp
 ·exact Aoa _
theorem Zg {n:Nat} {r:List UInt8} (h:Lib.decDigits n=45::r):False:=by
 have:=Ma n 45 (by rw [h];exact ah)
 simp at this
theorem Yr {x y:Int} (h:Lib.itoa x=Lib.itoa y):x=y:=by
 unfold Lib.itoa at h
 split at h <;> split at h
 ·have e:=congrArg V7 (bk h).2
  rw [M9,M9] at e
  omega
 ·exact (Zg h.symm).elim
 ·exact (Zg h).elim
 ·have e:=congrArg V7 h
  rw [M9,M9] at e
  omega
def Abr (l:List UInt8):Prop:=∃ c t,l=c::t/\(c=32\/c=10)
theorem Lc:∀ {a b A B:List UInt8},(∀ c,c∈a->c.toNat=45\/48<=c.toNat)->(∀ c,c∈b->c.toNat=45\/48<=c.toNat)->Abr A->Abr B->a++A=b++B->a=b/\A=B
 | [],[],_,_,_,_,_,_,h=>⟨rfl,h⟩
 | [],d::b,A,B,_,hb,⟨c,t,e,hc⟩,_,h=>by
  subst e
  have e1:=(bk h).1
  have:=hb d ah
  rw [←e1] at this
  rcases hc with rfl | rfl <;> simp at this
 | d::a,[],A,B,ha,_,_,⟨c,t,e,hc⟩,h=>by
  subst e
  have e1:=(bk h).1
  have:=ha d ah
  rw [e1] at this
  rcases hc with rfl | rfl <;> simp at this
 | d::a,e::b,A,B,ha,hb,hA,hB,h=>by
  obtain⟨h1,h2⟩:=bk h
  obtain⟨k1,k2⟩:=Lc (λ c hc=>ha c (ag _ hc)) (λ c hc=>hb c (ag _ hc)) hA hB h2
  exact⟨by rw [h1,k1],k2⟩
theorem Y0:∀ {r s:List Int} {R S:List UInt8},(r.flatMap λ y=>32::Lib.itoa y)++10::R=(s.flatMap λ y=>32::Lib.itoa y)++10::S->r=s/\R=S
 | [],[],_,_,h=>⟨rfl,(bk h).2⟩
 | [],y::s,_,_,h=>by
  simp only [List.flatMap_nil,bZ,bU,cf] at h
  exact absurd (bk h).1 (by decide)
 | x::r,[],_,_,h=>by
  simp only [List.flatMap_nil,bZ,bU,cf] at h
  exact absurd (bk h).1 (by decide)
 | x::r,y::s,R,S,h=>by
  simp only [bZ,cf,aH] at h
  have sep:∀ (l:List Int) (T:List UInt8),Abr ((l.flatMap λ y=>32::Lib.itoa y)++10::T):=λ l T=>by
   cases l with
   | nil=>exact⟨10,T,rfl,.inr rfl⟩
   | cons z l=>exact⟨32,_,rfl,.inl rfl⟩
  obtain⟨h1,h2⟩:=Lc (λ c hc=>Ga hc) (λ c hc=>Ga hc) (sep r R) (sep s S) (bk h).2
  obtain⟨k1,k2⟩:=Y0 h2
  exact⟨by rw [Yr h1,k1],k2⟩
theorem Ajb {r s:List Int} {R S:List UInt8} (h:Ca r++R=Ca s++S):r=s/\R=S:=by
 have two:∀ {x:Int} {T U:List UInt8},Lib.itoa x++T=10::U->False:=fun {x T U} h=>by
  cases hx:Lib.itoa x with
  | nil=>exact Alw x hx
  | cons c l=>
   rw [hx] at h
   have e:=(bk h).1
   have:=Ga (x:=x) (c:=c) (by rw [hx];exact ah)
   rw [e] at this
   simp at this
 unfold Ca at h
 cases r with
 | nil=>
  cases s with
  | nil=>exact⟨rfl,by simpa [Cu] using h⟩
  | cons y s=>
   simp only [Cu,bU,aH] at h
   exact (two h.symm).elim
 | cons x r=>
  cases s with
  | nil=>
   simp only [Cu,bU,aH] at h
   exact (two h).elim
  | cons y s=>
   simp only [Cu,aH] at h
   have sep:∀ (l:List Int) (T:List UInt8),Abr ((l.flatMap λ y=>32::Lib.itoa y)++10::T):=λ l T=>by
    cases l with
    | nil=>exact⟨10,T,rfl,.inr rfl⟩
    | cons z l=>exact⟨32,_,rfl,.inl rfl⟩
   obtain⟨h1,h2⟩:=Lc (λ c hc=>Ga hc) (λ c hc=>Ga hc) (sep r R) (sep s S) h
   obtain⟨k1,k2⟩:=Y0 h2
   exact⟨by rw [Yr h1,k1],k2⟩
theorem Tr:∀ {a b:List (List Int)},Bk a=Bk b->a=b
 | [],[],_=>rfl
 | [],r::b,h=>by
  have:Bk (r::b)=Ca r++Bk b:=by simp [Bk]
  rw [this] at h
  simp [Bk,Ca] at h
 | r::a,[],h=>by
  have:Bk (r::a)=Ca r++Bk a:=by simp [Bk]
  rw [this] at h
  simp [Bk,Ca] at h
 | r::a,s::b,h=>by
  have e1:Bk (r::a)=Ca r++Bk a:=by simp [Bk]
  have e2:Bk (s::b)=Ca s++Bk b:=by simp [Bk]
  rw [e1,e2] at h
  obtain⟨k1,k2⟩:=Ajb h
  rw [k1,Tr k2]
theorem yW (bs:ByteArray):∀ (n i:Nat) (r:List UInt8),bs.size-i=n->ByteArray.toList.loop bs i r=r.reverse++bs.data.toList.drop i
 | 0,i,r,h=>by
  have hs:bs.size=bs.data.toList.length:=rfl
  rw [ByteArray.toList.loop,if_neg (by omega),List.drop_of_length_le (by omega),bD]
 | n+1,i,r,h=>by
  have hs:bs.size=bs.data.toList.length:=rfl
  have hi:i<bs.data.toList.length:=by omega
  have hi2:i<bs.data.size:=by simpa using hi
  rw [ByteArray.toList.loop,if_pos (by omega),yW bs n (i+1) _ (by omega),List.drop_eq_getElem_cons hi]
  have e:bs.get! i=bs.data.toList[i]:=by
   cases bs with
   | mk d=>
    show d[i]! = _
    rw [getElem!_pos d i hi2]
    simp
  rw [e,List.reverse_cons,aH];rfl
theorem Agd (bs:ByteArray):bs.toList=bs.data.toList:=by
 unfold ByteArray.toList
 rw [yW bs _ 0 [] rfl];simp
theorem V9 (p:Al):(Fk p).toList=Bk (Ev p):=by
 rw [Agd]
 unfold Fk
 simp
theorem Rl (p q:Al):((Fk p).toList==(Fk q).toList)=decide (Ev p=Ev q):=by
 rw [V9,V9,ce,da,cY]
 exact⟨Tr,λ h=>by rw [h]⟩
theorem Zh {α:Type} {f:Nat->α->Unit->Option (Ctl Unit Bool)} {a b:List α} (hl:a.length=b.length)
  (hf:∀ (j:Nat) x y,a[j]? = some x->b[j]? = some y->(x=y/\f j x ()=some (.next ()))\/(x≠y/\f j x ()=some (.ret false))) :
  Ok (andThen (foldI f a 0 ()) some λ _=>some true) λ v=>(v=true↔a=b):=by
 refine Ok.andThen (A:=λ _=>a=b) (B:=λ v=>v=false/\a≠b) ?_ (λ _ h=>cq ⟨λ _=>h,λ _=>rfl⟩) (λ v h=>cq ⟨λ e=>(by rw [h.1] at e;cases e),λ e=>absurd e h.2⟩)
 refine cz (λ j _=>∀ i:Nat,i<j->a[i]? = b[i]?) (λ i hi=>by omega) (λ j x s hj hI=>?_) (λ s hI=>?_)
 ·have hjl:=(aa.1 hj).1
  obtain⟨y,hy⟩:∃ y,b[j]? = some y:=⟨_,ai (by omega)⟩
  rcases hf j x y hj hy with⟨rfl,e⟩ | ⟨hne,e⟩
  ·rw [e]
   refine cr λ i hi=>?_
   by_cases hij:i=j
   ·subst hij;rw [hj,hy]
   ·exact hI i (by omega)
  ·rw [e]
   exact Ok.ret ⟨rfl,λ h=>hne (by rw [h,hy] at hj;exact (bd hj).symm)⟩
 ·apply bj
  intro i
  by_cases hi:i<a.length
  ·exact hI i hi
  ·rw [bl (by omega),bl (by omega)]
theorem Md {α:Type} {f:Int->Option (Ctl Int Bool)} {a b:List α} {K:Option Bool} {P:Bool->Prop} (hl:a.length=b.length) (hn:a.length<=1000)
  (hf:∀ (n:Nat) x y,a[n]? = some x->b[n]? = some y->(x=y/\f n=some (.next ((n:Int)+1)))\/(x≠y/\f n=some (.ret false))) (he:∃ z,f (a.length:Int)=some (.brk z))
  (hK:a=b->Ok K P) (hN:a≠b->P false):Ok (andThen (whileN f 1152921504606846976 0) some λ _=>K) P:=by
 refine Ok.andThen (A:=λ _=>a=b) (B:=λ v=>v=false/\a≠b) ?_ (λ _ h=>hK h) (λ v h=>by rw [h.1];exact cq (hN h.2))
 refine cv (λ (z:Int)=>∃ n:Nat,z=n/\n<=a.length/\∀ i:Nat,i<n->a[i]? = b[i]?) (λ (z:Int)=>a.length-z.toNat) _ _ ⟨0,rfl,by omega,λ i hi=>by omega⟩ (by omega) ?_
 rintro _ ⟨n,rfl,hnl,hI⟩
 by_cases hlt:n<a.length
 ·obtain⟨x,hx⟩:∃ x,a[n]? = some x:=⟨_,ai hlt⟩
  obtain⟨y,hy⟩:∃ y,b[n]? = some y:=⟨_,ai (by omega)⟩
  rcases hf n x y hx hy with⟨rfl,e⟩ | ⟨hne,e⟩
  ·rw [e]
   refine cr ⟨⟨n+1,by omega,by omega,λ i hi=>?_⟩,by omega⟩
   by_cases hij:i=n
   ·subst hij;rw [hx,hy]
   ·exact hI i (by omega)
  ·rw [e]
   exact Ok.ret ⟨rfl,λ h=>hne (by rw [h,hy] at hx;exact (bd hx).symm)⟩
 ·have hnn:n=a.length:=by omega
  subst hnn
  obtain⟨z,e⟩:=he
  rw [e]
  refine cA ?_
  apply bj
  intro i
  by_cases hi:i<a.length
  ·exact hI i hi
  ·rw [bl (by omega),bl (by omega)]
theorem Agc {a b:List Bool} (ha:a.length<=1000):Ok (F54 a b) λ v=>(v=true↔a=b):=by
 unfold F54
 refine c9 (λ hc=>cq ⟨λ e=>(by cases e),λ e=>by subst e;simp at hc⟩) (λ hc=>?_)
 have hl:a.length=b.length:=by simp only [bne_eq_false_iff_eq] at hc;omega
 refine Zh hl λ j x y hx hy=>?_
 have hjl:=(aa.1 hx).1
 unfold qG
 rw [H_ (by omega),Bv hy]
 by_cases h:x=y
 ·subst h;exact .inl ⟨rfl,by simp⟩
 ·exact .inr ⟨h,by simp [beq_eq_false_iff_ne.2 h]⟩
theorem Ajf {a b:List Int} (ha:a.length<=1000):Ok (F55 a b) λ v=>(v=true↔a=b):=by
 unfold F55
 refine c9 (λ hc=>cq ⟨λ e=>(by cases e),λ e=>by subst e;simp at hc⟩) (λ hc=>?_)
 have hl:a.length=b.length:=by simp only [bne_eq_false_iff_eq] at hc;omega
 refine Zh hl λ j x y hx hy=>?_
 have hjl:=(aa.1 hx).1
 unfold qF
 rw [H_ (by omega),Bv hy]
 by_cases h:x=y
 ·subst h;exact .inl ⟨rfl,by simp⟩
 ·exact .inr ⟨h,by rw [al,show (x != y)=true from by simpa using h];rfl⟩
theorem Ae4 {p q:Ab} (h1:p.Am.length<=1000) (h2:p.Ac.length<=1000) (h3:p.Aw.length<=1000) (h4:p.As.length<=1000):Ok (F33 p q) λ v=>(v=true↔p=q):=by
 unfold F33
 refine (Agc h1).bind λ y1 hy1=>Ok.bind (P:=λ y3=>y1=true->(y3=true↔p.Aw=q.Aw)) (cw (λ _=>(Ajf h3).mono λ _ h _=>h) (λ hg h=>absurd (show Cs [(!y1,false)] from⟨by rw [h];rfl,trivial⟩) hg)) λ y3 hy3=>?_
 refine c9 (λ hc=>cq ⟨λ e=>(by cases e),λ e=>?_⟩) (λ hc=>?_)
 ·exfalso
  subst e
  have e1:y1=true:=hy1.2 rfl
  have e3:y3=true:=(hy3 e1).2 rfl
  subst e1;subst e3
  simp [Abl] at hc
 ·simp only [Abl,Bool.or_eq_false_iff,Bool.not_eq_false',bne_eq_false_iff_eq] at hc
  obtain⟨⟨⟨e1,e3⟩,hs⟩,hb⟩:=hc
  have ec:=hy1.1 e1
  have el:=(hy3 e1).1 e3
  refine Md (a:=p.Ac) (b:=q.Ac) (by omega) h2 (λ n x y hx hy=>?_) ⟨(p.Ac.length:Int),?_⟩ (λ es=>?_) (λ hne=>⟨λ e=>(by cases e),λ e=>absurd (by rw [e]) hne⟩)
  ·have hnl:=(aa.1 hx).1
   unfold Q9
   have hc:Qt p (n:Int)=true:=by simp [Qt];omega
   rw [hc,Bv hx,Bv hy]
   simp only [cond_true,al]
   rw [Bp (by omega)]
   by_cases h:x=y
   ·subst h;exact .inl ⟨rfl,by simp [Vw]⟩
   ·refine .inr ⟨h,?_⟩
    have:Vw x y=true:=by
     cases x;cases y
     simp only [Ae.mk.injEq] at h
     simp only [Vw,bg,bB,Bool.and_eq_false_iff,db,ne_eq]
     omega
    rw [this];rfl
  ·unfold Q9
   have hc:Qt p (p.Ac.length:Int)=false:=by simp [Qt]
   rw [hc];rfl
  ·refine Md (a:=p.As) (b:=q.As) (by omega) h4 (λ n x y hx hy=>?_) ⟨(p.As.length:Int),?_⟩ (λ eb=>cq ⟨λ _=>?_,λ _=>rfl⟩) (λ hne=>⟨λ e=>(by cases e),λ e=>absurd (by rw [e]) hne⟩)
   ·have hnl:=(aa.1 hx).1
    unfold Q8
    have hc:Qr p (n:Int)=true:=by simp [Qr];omega
    rw [hc,Bv hx,Bv hy]
    simp only [cond_true,al]
    rw [Bp (by omega)]
    by_cases h:x=y
    ·subst h;exact .inl ⟨rfl,by simp [Qu]⟩
    ·refine .inr ⟨h,?_⟩
     have:Qu x y=true:=by
      cases x;cases y
      simp only [Aq.mk.injEq] at h
      simp only [Qu,bg,bB,Bool.and_eq_false_iff,db,ne_eq]
      omega
     rw [this];rfl
   ·unfold Q8
    have hc:Qr p (p.As.length:Int)=false:=by simp [Qr]
    rw [hc];rfl
   ·cases p;cases q
    dsimp only at ec el es eb
    rw [ec,el,es,eb]
theorem Ae5 {T:Int} {p q:Ab} {ro:List Ar} (h1:p.Am.length<=1000) (h2:p.Ac.length<=1000) (h3:p.Aw.length<=1000) (h4:p.As.length<=1000) (h5:ro.length<=1000) :
  Ok (F17 ⟨T,p,ro,[]⟩ ⟨T,q,ro,[]⟩) λ v=>(v=true↔p=q):=by
 unfold F17
 have e0:(T != T)=false:=by simp
 dsimp only
 rw [e0,Ue rfl]
 refine (Ae4 h1 h2 h3 h4).bind λ y1 hy1=>?_
 have e1:F34 [] []=some true:=rfl
 cases y1 with
 | false=>
  refine Ok.bind (P:=λ _=>True) (cw (λ _=>by rw [e1];exact cq trivial) (λ _=>trivial)) λ _ _=>?_
  refine c9 (λ _=>cq hy1) (λ hc=>by simp [Abm] at hc)
 | true=>
  have e2:(((false || !true) || ((ro.length:Int) != (ro.length:Int))))=false:=by simp
  rw [e2,Ue rfl,e1]
  simp only [al]
  refine c9 (λ hc=>by simp [Abm] at hc) λ _=>?_
  refine Md (a:=ro) (b:=ro) rfl h5 (λ n x y hx hy=>?_) ⟨(ro.length:Int),?_⟩ (λ _=>cq hy1) (λ h=>absurd rfl h)
  ·have hnl:=(aa.1 hx).1
   have exy:x=y:=by rw [hx] at hy;exact bd hy
   subst exy
   unfold Rc
   have hc:∀ z:Al,z.Av=ro->Qv z (n:Int)=true:=λ z hz=>by simp [Qv,hz];omega
   rw [hc _ rfl]
   dsimp only
   rw [Bv hx]
   simp only [cond_true,al]
   rw [Bp (by omega)]
   exact .inl ⟨by simp,by simp [Alj]⟩
  ·unfold Rc
   have hc:∀ z:Al,z.Av=ro->Qv z (ro.length:Int)=false:=λ z hz=>by simp [Qv,hz]
   rw [hc _ rfl];rfl
structure uN (p q:Ab):Prop where
 cl:q.Am.length<=p.Am.length+1
 so:q.Ac.length=p.Ac.length
 li:q.Aw.length=p.Aw.length
 br:q.As.length<=p.As.length+1
 rs:∀ s,s∈q.Ac->I64 s.State/\I64 s.Since/\I64 s.An/\I64 s.Phase
 rl:∀ s,s∈q.Aw->I64 s
 rb:∀ s,s∈q.As->I64 s.Kind/\I64 s.Number
theorem Ahv {s:Ad} (hs:Bm s):Ok (F38 s) λ y=>Bm y.2/\I64 y.1:=by
 unfold F38
 refine (D1 hs _ (by simp) (by simp)).bind λ y hy=>cq ⟨hy.1,?_⟩
 have:=hy.2
 simp only [ae,bE,or_false] at this
 unfold I64
 dsimp only
 omega
theorem Al9 {b:Aa} (h:Bg b) {s:Ad} (hs:Bm s) {p:Ab} (hp:Cd b p) (ht:uN p p):Ok (Ra s p) λ y=>uN p y.1:=by
 have g2:=h.brl
 have g3:=h.sol
 have g4:=h.col
 have n1:=hp.ncl
 have n2:=hp.nso
 have n3:=hp.nli
 have n4:=hp.brk.len
 unfold Ra
 rw [yR h hp]
 simp only [al]
 refine (C5 hs 6 (by omega) (by omega)).bind λ y hy=>?_
 have setS:∀ {l:List Ae} {i:Nat} {x:Ae},(∀ s,s∈l->I64 s.State/\I64 s.Since/\I64 s.An/\I64 s.Phase)->(I64 x.State/\I64 x.Since/\I64 x.An/\I64 x.Phase)->∀ s,s∈l.set i x->I64 s.State/\I64 s.Since/\I64 s.An/\I64 s.Phase:=λ hl hx s hs=>by
  rcases bJ hs with hs | rfl
  ·exact hl s hs
  ·exact hx
 refine c9 (λ _=>?_) (λ _=>c9 (λ _=>c9 (λ hc=>?_) (λ _=>cq ht)) (λ _=>c9 (λ _=>c9 (λ hc=>?_) (λ _=>cq ht)) (λ _=>c9 (λ _=>c9 (λ hc=>?_) (λ _=>cq ht)) (λ _=>c9 (λ _=>?_) (λ _=>?_)))))
 ·refine (cx (by simp;omega)).bind λ c hc=>cq ⟨by rw [hc];simp,ht.so,ht.li,ht.br,ht.rs,ht.rl,ht.rb⟩
 ·simp only [cY] at hc
  refine (C5 hy.1 (p.Ac.length:Int) (by omega) (by omega)).bind λ k hk=>(E1 hk.1 (-1) 5 (by omega) (by omega) (by omega)).bind λ v hv=>(cF hk.2.1 hk.2.2).bind λ x hx=>(cE hk.2.1 hk.2.2).bind λ l hl=>cq ?_
  have hm:=ht.rs x (ak hx)
  subst hl
  exact⟨ht.cl,by rw [bA],ht.li,ht.br,setS ht.rs ⟨by have:=hv.2;unfold I64;dsimp only;omega,hm.2⟩,ht.rl,ht.rb⟩
 ·simp only [cY] at hc
  refine (C5 hy.1 (p.Ac.length:Int) (by omega) (by omega)).bind λ k hk=>(Ahv hk.1).bind λ v hv=>(cF hk.2.1 hk.2.2).bind λ x hx=>(cE hk.2.1 hk.2.2).bind λ l hl=>cq ?_
  have hm:=ht.rs x (ak hx)
  subst hl
  exact⟨ht.cl,by rw [bA],ht.li,ht.br,setS ht.rs ⟨hm.1,hm.2.1,hm.2.2.1,hv.2⟩,ht.rl,ht.rb⟩
 ·simp only [cY] at hc
  refine (C5 hy.1 (p.Aw.length:Int) (by omega) (by omega)).bind λ k hk=>(Ahv hk.1).bind λ v hv=>(cF hk.2.1 hk.2.2).bind λ x hx=>(cE hk.2.1 hk.2.2).bind λ l hl=>cq ?_
  subst hl
  exact⟨ht.cl,ht.so,by rw [bA],ht.br,ht.rs,λ s hs=>by
   rcases bJ hs with hs | rfl
   ·exact ht.rl s hs
   ·exact hv.2,ht.rb⟩
 ·refine (E1 hy.1 0 5 (by omega) (by omega) (by omega)).bind λ k hk=>(E1 hk.1 (-1) 5 (by omega) (by omega) (by omega)).bind λ v hv=>(cx (by simp;omega)).bind λ l hl=>cq ?_
  subst hl
  exact⟨ht.cl,ht.so,ht.li,by simp,ht.rs,ht.rl,λ s hs=>by
   rcases ax.1 hs with hs | hs
   ·exact ht.rb s hs
   ·rw [bO] at hs
    subst hs
    have h1:=hk.2
    have h2:=hv.2
    unfold I64
    dsimp only
    omega⟩
 ·refine Ok.andThen (A:=λ z=>z.2.length=p.Am.length) (B:=λ (_:Unit)=>False) ?_ (λ z hz=>cq ⟨by dsimp only;omega,ht.so,ht.li,ht.br,ht.rs,ht.rl,ht.rb⟩) (λ _ h=>h.elim)
  refine cv (λ z=>0<=z.1/\z.1<=(p.Am.length:Int)/\z.2.length=p.Am.length) (λ z=>((p.Am.length:Int)-z.1).toNat) _ _ ⟨by dsimp only;omega,by dsimp only;omega,rfl⟩ (by dsimp only;omega) ?_
  rintro⟨i,l⟩ ⟨h0,h1,h2⟩
  dsimp only at h0 h1 h2
  unfold O9
  dsimp only
  refine c9 (λ hc=>?_) (λ _=>cA h2)
  simp only [yU,cY] at hc
  refine (cF (l:=l) h0 (by omega)).bind λ _ _=>(cE h0 (by omega)).bind λ l2 hl2=>?_
  rw [Bp (by omega)]
  refine cr ⟨⟨by dsimp only;omega,by dsimp only;omega,by rw [hl2];simpa using h2⟩,by dsimp only;omega⟩
theorem Aj0 {x y:Bool} (h:Cm x=Cm y):x=y:=by cases x <;> cases y <;> simp [Cm] at h <;> rfl
theorem Mz {α β:Type} {f:α->β} (hf:∀ x y,f x=f y->x=y):∀ {a b:List α},a.map f=b.map f->a=b
 | [],[],_=>rfl
 | [],_::_,h=>by simp at h
 | _::_,[],h=>by simp at h
 | x::a,y::b,h=>by
  simp only [bz] at h
  obtain⟨h1,h2⟩:=bk h
  rw [hf x y h1,Mz hf h2]
theorem Aa0 {T:Int} {p q:Ab} {ro:List Ar} {e f:List A3} (hs:q.Ac.length=p.Ac.length) (h:Ev ⟨T,p,ro,e⟩=Ev ⟨T,q,ro,f⟩):p=q:=by
 unfold Ev at h
 dsimp only at h
 have hlen:=congrArg List.length h
 simp only [au,aw,aJ,aQ] at hlen
 have hb:p.As.length=q.As.length:=by omega
 obtain⟨h,_⟩:=List.append_inj h (by simp only [au,aw,aJ,aQ];omega)
 obtain⟨h,kb⟩:=List.append_inj h (by simp only [au,aw,aJ,aQ];omega)
 obtain⟨h,kl⟩:=List.append_inj h (by simp only [au,aw,aJ,aQ];omega)
 obtain⟨h,ks⟩:=List.append_inj h (by simp)
 simp only [List.cons.injEq,true_and,and_true] at h kl
 have e1:=Mz (λ x y=>Aj0) h
 have e2:=Mz (f:=λ (s:Ae)=>[s.State,s.Since,s.An,s.Phase]) (λ x y h=>by
  cases x;cases y
  simp only [List.cons.injEq,and_true] at h
  obtain⟨a1,a2,a3,a4⟩:=h
  subst a1;subst a2;subst a3;subst a4;rfl) ks
 have e3:=Mz (f:=λ (s:Aq)=>[s.Kind,s.Number]) (λ x y h=>by
  cases x;cases y
  simp only [List.cons.injEq,and_true] at h
  obtain⟨a1,a2⟩:=h
  subst a1;subst a2;rfl) kb
 cases p;cases q
 dsimp only at e1 e2 e3 kl
 rw [e1,e2,e3,kl]
theorem replayTexts_law (t:List Int):F6 t=some true:=by
 refine cI ?_
 unfold F6
 refine c9 (λ _=>by rw [Ado];exact cq rfl) λ _=>?_
 refine (Aot t).bind λ s hs=>(Aku hs).bind λ b hb=>(Aj8 hb.1.ok hb.2).bind λ p hp=>?_
 have h:=hb.1.ok
 have hpk:Nd b.1 ⟨0,0,0⟩ p.1:=hp.1.1 _
 have hx:=hpk.tx h
 have hself:uN p.1.Power p.1.Power:=⟨by omega,rfl,rfl,by omega,hx.rs,hx.rl,hx.rb⟩
 have a1:=hx.cl
 have a2:=hx.so
 have a3:=hx.li
 have a4:=hx.br
 have a5:=hx.ro
 have g2:=h.brl
 have n1:=hpk.st.ncl
 have n4:=hpk.st.brk.len
 refine (Al9 h hp.2 hpk.st hself).bind λ q hq=>?_
 refine (Ae5 (by omega) (by omega) (by omega) (by omega) (by omega)).bind λ v hv=>?_
 have hqs:=hq.so
 have hqc:=hq.cl
 have hql:=hq.li
 have hqb:=hq.br
 have xq:Ki ⟨p.1.Time,q.1,p.1.Av,p.1.A7⟩:=⟨by dsimp only;omega,by dsimp only;omega,by dsimp only;omega,by dsimp only;omega,hx.ro,hx.t,hq.rs,hq.rl,hq.rb,hx.rr⟩
 have xr:Ki ⟨p.1.Time,p.1.Power,p.1.Av,[⟨1,⟨0,0,0⟩,0⟩]⟩:=⟨hx.cl,hx.so,hx.li,hx.br,hx.ro,hx.t,hx.rs,hx.rl,hx.rb,hx.rr⟩
 have htm:=hp.1.2.1
 have eT:w64 (p.1.Time+1)=p.1.Time+1:=Bp (by omega)
 rw [eT]
 have xl:Ki ⟨p.1.Time+1,p.1.Power,p.1.Av,p.1.A7⟩:=⟨hx.cl,hx.so,hx.li,hx.br,hx.ro,by unfold I64;dsimp only;omega,hx.rs,hx.rl,hx.rb,hx.rr⟩
 rw [Gh hx,Gh xq,Gh xr,Gh xl,Af2 hx,Af2 xr]
 have er:Ev ⟨p.1.Time,p.1.Power,p.1.Av,[⟨1,⟨0,0,0⟩,0⟩]⟩=Ev p.1:=rfl
 have ed:Zd p.1=Zd ⟨p.1.Time,p.1.Power,p.1.Av,[⟨1,⟨0,0,0⟩,0⟩]⟩:=by
  unfold Zd F23
  rw [Gh hx,Gh xr];rfl
 have k1:(((Fk p.1).toList==(Fk ⟨p.1.Time,q.1,p.1.Av,p.1.A7⟩).toList)==v)=true:=by
  rw [Rl,da,ce,cY,hv]
  constructor
  ·exact λ e=>Aa0 (p:=p.1.Power) (q:=q.1) hqs e
  ·intro e
   rw [←e]
 have k2:((Fk p.1).toList==(Fk ⟨p.1.Time,p.1.Power,p.1.Av,[⟨1,⟨0,0,0⟩,0⟩]⟩).toList)=true:=by
  rw [Rl,er];simp
 have k3:((Fk p.1).toList==(Fk ⟨p.1.Time+1,p.1.Power,p.1.Av,p.1.A7⟩).toList)=false:=by
  rw [Rl,cZ]
  intro e
  have e2:=congrArg List.head? e
  simp only [Ev,cf,bU,List.head?_cons,aj,List.cons.injEq,and_true] at e2
  omega
 simp only [al,k1,k2,k3,A5,Eb,beq_self_eq_true,bL,cond_true,bH,←ed,Bool.not_false,Ado]
 exact cq rfl
end Go.Proofs.YtpdbkiafikdgpaaGreatDoor
