import Derived.Test.YtpdbkiafikdgpaaGreatDoorPl0
namespace Go.Proofs.YtpdbkiafikdgpaaGreatDoor
open Go.SL
theorem Kd {b:Aa} (h:Aw b) (i:Int):U2 b i=some (Ih b i):=by
 have hb:=h.brl
 unfold U2 qY
 refine db ?_
 refine Ok.bind (P:=λ y=>y=(Ih b i,i)) ?_ (λ y hy=>cV (by rw [hy]))
 have key:=J9 (f:=λ n (a:Ai) (z:Unit)=>(bif (a.Kind==2&&a.B==i) then some (.ret (cnt 0 n)) else some (.next ()):Option (Ctl Unit Int))) (p:=λ x:Ai=>x.Kind==2&&x.B==i) (λ _ _=>rfl) b.Ad 0 (by omega)
 have:∀ (xs:List Ai) (k:Nat),foldI (N5 i) xs k ()=match foldI (λ n (a:Ai) (z:Unit)=>(bif (a.Kind==2&&a.B==i) then some (.ret (cnt 0 n)) else some (.next ()):Option (Ctl Unit Int))) xs k () with
   | some (.ret r)=>some (.ret (r,i))
   | some (.next _)=>some (.next ())
   | some (.brk _)=>some (.brk ())
   | none=>none:=by
  intro xs
  induction xs with
  | nil=>intro k;rfl
  | cons x xs ih=>
   intro k
   simp only [foldI,N5,qX]
   cases hq:(x.Kind==2&&x.B==i) with
   | true=>rfl
   | false=>simp only [cond_false];exact ih (k+1)
 rw [this,key]
 unfold Ih Of
 cases b.Ad.findIdx? (λ x:Ai=>x.Kind==2&&x.B==i) with
 | none=>exact cV rfl
 | some j=>exact cV rfl
theorem Azj {b:Aa} (h:Aw b) {p:Ab} (hp:Ax b p) {n:Nat} (hn:n<b.An.toNat):Gg b p (n:Int)=some (isl b p (Gy b p n),true):=of_eq h hp hn
theorem A52 {l:List Int} {x:Int×Int} (h:x∈bw l):x.2∈l:=by
 unfold bw F3 at h
 obtain⟨j,hj,rfl⟩:=am.1 h
 have:=aZ.1 hj
 dsimp only
 rw [ag (by omega)]
 exact List.getElem_mem _
theorem A24 {b:Aa} (h:Aw b) {p:Ab} (hp:Ax b p) (y:A5) {n:Nat} (hn:n<b.An.toNat):Ok (Aj3 b y p (n:Int)) λ _=>True:=by
 have hbr:=hp.brk.len
 obtain⟨l1,_⟩:=Vu h hp hn
 obtain⟨r1,_⟩:=Nr h hp hn
 unfold Aj3
 rw [Azj h hp hn]
 simp only [ac]
 refine c9 (λ _=>cV trivial) (λ _=>?_)
 refine Ok.andThen (A:=λ _=>True) (B:=λ _=>True) ?_ (λ _ _=>cV trivial) (λ _ _=>cV trivial)
 refine Ok.foldE (λ _ _=>True) _ 0 _ trivial (λ j x s hx _=>?_) (λ _ _=>trivial)
 have hin:=Vw (A52 (af hx))
 unfold Wm
 rw [Kd h]
 simp only [ac]
 rw [Ev (by omega)]
 simp only [ac]
 refine c9 (λ _=>cW trivial) (λ _=>?_)
 rw [l1,r1]
 simp only [ac]
 refine (cY hin.1 hin.2).bind λ v _=>c9 (λ _=>Ok.ret trivial) (λ _=>cW trivial)
theorem A1w {b:Aa} (h:Aw b) {p:Ab} (hp:Ax b p) (y:A5) {n:Nat} (hn:n<b.An.toNat):Ok (Aj2 b y p (n:Int)) λ _=>True:=by
 obtain⟨l1,_⟩:=Vu h hp hn
 obtain⟨r1,_⟩:=Nr h hp hn
 have hl:=vZ h hp hn
 unfold Aj2
 rw [l1,r1,hl]
 refine (dj (λ _=>dk rfl) λ _=>trivial).bind (P:=λ _=>True) λ _ _=>?_
 refine (dj (λ _=>dk rfl) λ _=>trivial).bind (P:=λ _=>True) λ _ _=>?_
 refine (dj (λ _=>dk rfl) λ _=>trivial).bind (P:=λ _=>True) λ _ _=>cV trivial
theorem Axz {b:Aa} (h:Aw b) (p:Ab) (f:Nat):(isl b p f).An.length<=1000/\(isl b p f).Ac.length<=1000:=by
 have h1:=h.buses
 have h2:=h.sol
 have h3:(isl b p f).An.length<=b.An.toNat:=Dc _ _
 have h4:(isl b p f).Ac.length<=b.Ac.length:=Dc _ _
 omega
theorem Ax4 {b:Aa} (h:Aw b) {p:Ab} (hp:Ax b p) (f:Nat) {i:Int} (h0:0<=i) (h1:i<b.Ac.length):Ok (Ajt b p (isl b p f) i) λ _=>True:=by
 have hbr:=hp.brk.len
 have hns:=hp.nso
 obtain⟨w1,w2⟩:=Axz h p f
 obtain⟨j,x,e,hx,_,_,hj⟩:=Ll h h0 h1
 unfold Ajt
 rw [Kd h,e]
 simp only [ac]
 rw [Bi hx]
 simp only [ac]
 simp only [Ev (show p.Am.length<=1000 by omega),ac]
 refine (dj (λ _=>dk rfl) λ _=>trivial).bind (P:=λ _=>True) λ _ _=>?_
 refine (dj (λ _=>dk rfl) λ _=>trivial).bind (P:=λ _=>True) λ _ _=>?_
 refine (dj (λ _=>dk (Dr _ _ (by omega))) λ _=>trivial).bind (P:=λ _=>True) λ _ _=>?_
 refine (dj (λ _=>dk (Dr _ _ (by omega))) λ _=>trivial).bind (P:=λ _=>True) λ _ _=>?_
 refine (dj (λ _=>di h0 (by omega)) λ _=>trivial).bind (P:=λ _=>True) λ _ _=>cV trivial
theorem A1i {b:Aa} (h:Aw b) {p:Ab} (hp:Ax b p) {n:Nat} (hn:n<b.An.toNat):Ok (Aj1 b p (n:Int)) λ v=>v.2=true->0<=v.1/\v.1<b.Ac.length:=by
 have hns:=hp.nso
 have hsl:=h.sol
 unfold Aj1
 rw [Azj h hp hn]
 simp only [ac]
 refine c9 (λ _=>cV λ hh=>by cases hh) (λ _=>?_)
 refine Ok.andThen (A:=λ _=>True) (B:=λ v:Int×Bool=>v.2=true->0<=v.1/\v.1<b.Ac.length) ?_ (λ _ _=>cV λ hh=>by cases hh) (λ v hv=>cV hv)
 refine cX (I:=λ _ _=>True) trivial (λ j x s hx _=>?_) (λ _ _=>trivial)
 unfold zO
 refine Ok.inner (A:=λ _=>True) (B:=λ v:Int×Bool=>v.2=true->0<=v.1/\v.1<b.Ac.length) ?_ (λ _ _=>cW trivial) (λ v hv=>Ok.ret hv)
 refine cX (I:=λ _ _=>True) trivial (λ k a s ha _=>?_) (λ _ _=>trivial)
 have hk:k<p.Ac.length:=(aa.1 ha).1
 unfold zN
 rw [Cr (by omega)]
 refine (dj (λ _=>Ax4 h hp _ (by omega) (by omega)) λ _=>trivial).bind (P:=λ _=>True) λ _ _=>?_
 refine c9 (λ _=>Ok.ret λ _=>?_) (λ _=>cW trivial)
 dsimp only;omega
theorem Aq4 {b:Aa} (h:Aw b) {p:Ab} (hp:Ax b p) (n:Int) {i:Int} (h0:0<=i) (h1:i<b.Ac.length):Ok (U3 b p n i) λ v=>v.1.length<=2:=by
 have hns:=hp.nso
 unfold U3
 refine (cY h0 (by omega)).bind λ x _=>?_
 refine c9 (λ _=>cV (by simp)) (λ _=>c9 (λ _=>?_) (λ _=>cV (by simp)))
 refine (Nx h hp n).bind λ v _=>?_
 unfold zG
 rw [Dm h hp,My h hp,Kd h]
 exact cV (by simp)
theorem Aew {T o:Int} (ho:-1<=o/\o<=T) (hT:0<=T) (v:Bool):-1<=Ir o v T/\Ir o v T<=T:=by
 unfold Ir
 cases v with
 | false=>simp only [Bool.not_false,cond_true];omega
 | true=>
  simp only [bj,cond_false]
  cases hq:(o == -1) with
  | true=>simp only [cond_true];omega
  | false=>simp only [cond_false];exact ho
theorem Ast {b:Aa} (h:Aw b) {y:A5} (hy:F4 y) {p:Ab} (hp:Ax b p) {n:Nat} (hn:n<b.An.toNat) {T:Int} (hT:0<=T/\T<=2147483648) {r:Av} (hr:Er T r) :
  Ok (U8 b y p (n:Int) T r) λ z=>Er T z.1/\z.2.1.length<=2/\(y.Delay=600->T<=500->z.2.1=[]):=by
 obtain⟨hr1,hr2⟩:=hr
 have hbu:=h.buses
 unfold U8
 rw [Dm h hp]
 simp only [ac]
 refine c9 (λ hc=>by simp at hc) (λ _=>c9 (λ hc=>?_) (λ _=>c9 (λ hc=>?_) (λ _=>?_)))
 ·exfalso
  simp only [Ahk,Wv hy,Kx,bj,bk,aO,dF,bn,Bool.and_eq_false_iff,dG] at hc
  omega
 ·exfalso
  simp only [Ahj,aO,dF] at hc
  omega
 refine (A24 h hp y hn).bind λ v6 _=>(A1w h hp y hn).bind λ v8 _=>(A1i h hp hn).bind λ v10 h10=>?_
 have s1:=Aew hr1 hT.1 v8
 have s2:=Aew hr2 hT.1 v6.2
 refine c9 (λ hc=>?_) (λ hc=>?_)
 ·simp only [Ahi,ae,dF] at hc
  obtain⟨⟨c1,c2⟩,c3⟩:=hc
  have hin:=h10 c1
  refine (Aq4 h hp _ hin.1 hin.2).bind λ v13 h13=>?_
  refine Ok.andThen (A:=λ s=>-1<=s/\s<=T) (B:=λ (_:Unit)=>False) ?_ (λ s hs=>cV ⟨⟨hs,s2⟩,h13,λ hd ht=>?_⟩) (λ _ h=>h.elim)
  ·unfold U7
   refine c9 (λ _=>dh (by omega)) (λ _=>dh s1)
  ·exfalso
   rw [Bd (by omega)] at c3
   omega
 ·refine c9 (λ hc=>?_) (λ _=>cV ⟨⟨s1,s2⟩,by simp,λ _ _=>rfl⟩)
  rw [Kd h]
  simp only [ac]
  refine cV ⟨⟨s1,by dsimp only;omega⟩,by simp,λ hd ht=>?_⟩
  exfalso
  simp only [Ahh,ae,dF] at hc
  have c3:=hc.2
  rw [Bd (by omega)] at c3
  omega
def Bn (b:Aa) (T:Int) (p:Ab) (l:List Ao):Ab:=l.foldl (λ q a=>doP b q T a) p
def Cd (b:Aa) (T:Int):Ab->List Ao->List A6
 | _,[]=>[]
 | p,a::l=>doE b p T a++Cd b T (doP b p T a) l
def Db (b:Aa) (T:Int):Ab->List Ao->List Ab
 | _,[]=>[]
 | p,a::l=>doS b p T a++Db b T (doP b p T a) l
theorem Fx {b:Aa} (h:Aw b) (T:Int):∀ (l:List Ao) {p:Ab},Ax b p->Ax b (Bn b T p l)
 | [],_,hp=>hp
 | a::l,_,hp=>Fx h T l (jK h hp T a)
theorem Xs (b:Aa) (T:Int) (p:Ab) (l m:List Ao):Bn b T p (l++m)=Bn b T (Bn b T p l) m:=by unfold Bn;rw [aX]
theorem P5 (b:Aa) (T:Int):∀ (l m:List Ao) (p:Ab),Cd b T p (l++m)=Cd b T p l++Cd b T (Bn b T p l) m
 | [],_,_=>rfl
 | a::l,m,p=>by
  show doE b p T a++Cd b T (doP b p T a) (l++m)=doE b p T a++Cd b T (doP b p T a) l++Cd b T (Bn b T (doP b p T a) l) m
  rw [P5 b T l m,aD]
theorem P4 (b:Aa) (T:Int):∀ (l m:List Ao) (p:Ab),Db b T p (l++m)=Db b T p l++Db b T (Bn b T p l) m
 | [],_,_=>rfl
 | a::l,m,p=>by
  show doS b p T a++Db b T (doP b p T a) (l++m)=doS b p T a++Db b T (doP b p T a) l++Db b T (Bn b T (doP b p T a) l) m
  rw [P4 b T l m,aD]
theorem A14 {b:Aa} (h:Aw b) {p:Ab} (hp:Ax b p) (T:Int) (a:Ao):(doE b p T a).length<=10001:=by
 unfold doE
 split
 ·rename_i he
  have:=(I9 h (To h hp he).1).2.2
  simp;omega
 ·simp
theorem A13 {b:Aa} (h:Aw b) {p:Ab} (hp:Ax b p) (T:Int) (a:Ao):(doS b p T a).length<=10002:=by
 unfold doS
 split
 ·rename_i he
  have:=(I9 h (To h hp he).1).2.2
  split <;> simp [Ko] <;> omega
 ·simp
theorem Js {b:Aa} (h:Aw b) (T:Int):∀ (l:List Ao) {p:Ab},Ax b p->(Cd b T p l).length<=10001*l.length
 | [],_,_=>by simp [Cd]
 | a::l,p,hp=>by
  have h1:=A14 h hp T a
  have h2:=Js h T l (jK h hp T a)
  simp only [Cd,aA,aP]
  omega
theorem Mc {b:Aa} (h:Aw b) (T:Int):∀ (l:List Ao) {p:Ab},Ax b p->(Db b T p l).length<=10002*l.length
 | [],_,_=>by simp [Db]
 | a::l,p,hp=>by
  have h1:=A13 h hp T a
  have h2:=Mc h T l (jK h hp T a)
  simp only [Db,aA,aP]
  omega
abbrev Awv (b:Aa) (T:Int) (P:Ab) (ros:List Av) (evs ev:List A6) (st:List Ab):=
 (T,b.An,b.Ad,b.Ac,b.Ae,b.Phase,b.Aq,P.Ag,P.Ac,P.Ap,P.Am,ros,evs,ev,st)
theorem Alu {b:Aa} (h:Aw b) {T:Int} {P:Ab} (hp:Ax b P) (ros:List Av) (evs:List A6) {ev:List A6} {st:List Ab} {l:List Ao}
  (h1:ev.length+10001*l.length<=1000000) (h2:st.length+10002*l.length<=1000000) :
  Ok (foldI Q9 l 0 (Awv b T P ros evs ev st)) (Dg (λ s=>s=Awv b T (Bn b T P l) ros evs (ev++Cd b T P l) (st++Db b T P l)) λ (_:Unit)=>False):=by
 refine cX (I:=λ j s=>s=Awv b T (Bn b T P (l.take j)) ros evs (ev++Cd b T P (l.take j)) (st++Db b T P (l.take j))) ?_ (λ j a s ha hs=>?_) λ s hs=>?_
 ·simp [Bn,Cd,Db]
 ·have hj:j<l.length:=(aa.1 ha).1
  have hq:=Fx h T (l.take j) hp
  have e1:=Js h T (l.take j) hp
  have e2:=Mc h T (l.take j) hp
  rw [aW] at e1 e2
  subst hs
  unfold Q9
  have hd:=A7i h (T:=T) (ros:=ros) (evs:=evs) (ev:=ev++Cd b T P (l.take j)) (sts:=st++Db b T P (l.take j)) hq (by simp;omega) (by simp;omega) a
  refine Ok.bind (P:=λ y=>y=_) (d7 hd rfl) λ y hy=>cW ?_
  subst hy
  have e3:Bn b T P (l.take (j+1))=doP b (Bn b T P (l.take j)) T a:=by rw [Bj ha,Xs];rfl
  have e4:Cd b T P (l.take (j+1))=Cd b T P (l.take j)++doE b (Bn b T P (l.take j)) T a:=by rw [Bj ha,P5];simp [Cd]
  have e5:Db b T P (l.take (j+1))=Db b T P (l.take j)++doS b (Bn b T P (l.take j)) T a:=by rw [Bj ha,P4];simp [Db]
  rw [e3,e4,e5,←aD,←aD]
 ·rw [aI] at hs;exact hs
theorem Aw1 {b:Aa} (h:Aw b) {y:A5} (hy:F4 y) {T:Int} (hT:0<=T/\T<=2147483648) {P:Ab} (hp:Ax b P) {ros:List Av} (hr:ros.length=b.An.toNat/\∀ x,x∈ros->Er T x)
  (evs:List A6) {ev:List A6} {st:List Ab} (h1:ev.length<=500000) (h2:st.length<=500000) :
  Ok (qJ ⟨⟨T,P,ros,evs⟩,b,ev,st⟩ y) λ r=>∃ (l:List Ao) (ros':List Av),r=⟨⟨T,Bn b T P l,ros',evs⟩,b,ev++Cd b T P l,st++Db b T P l⟩ /\
   l.length<=2*(Bl b P).length/\(ros'.length=b.An.toNat/\∀ x,x∈ros'->Er T x)/\(y.Delay=600->T<=500->l=[]):=by
 have hbu:=h.buses
 have hil:=Hs b P
 unfold qJ
 have e0:=A1v hbu
 have e1:F67 b P=some (Bl b P):=Ht h hp
 refine Ok.bind (P:=λ v=>v=List.replicate b.An.toNat Ji) (d7 e0 rfl) λ v hv=>?_
 subst hv
 refine Ok.bind (P:=λ v=>v=Bl b P) (d7 e1 rfl) λ v hv=>?_
 subst hv
 have hidle:∀ x,x∈List.replicate b.An.toNat Ji->Er T x:=λ x hx=>by
  rw [(List.mem_replicate.1 hx).2]
  exact⟨by simp [Ji];omega,by simp [Ji];omega⟩
 refine Ok.andThen (A:=λ s=>∃ (l:List Ao) (ros':List Av),s=(T,b.An,b.Ad,b.Ac,b.Ae,b.Phase,b.Aq,ros',(Bn b T P l).Ag,(Bn b T P l).Ac,(Bn b T P l).Ap,(Bn b T P l).Am,ros,evs,ev++Cd b T P l,st++Db b T P l) /\
   l.length<=2*(Bl b P).length/\(ros'.length=b.An.toNat/\∀ x,x∈ros'->Er T x)/\(y.Delay=600->T<=500->l=[])) (B:=λ (_:Unit)=>False) ?_ (λ s hs=>?_) (λ _ h=>h.elim)
 ·refine cX (I:=λ j s=>∃ (l:List Ao) (ros':List Av),s=(T,b.An,b.Ad,b.Ac,b.Ae,b.Phase,b.Aq,ros',(Bn b T P l).Ag,(Bn b T P l).Ac,(Bn b T P l).Ap,(Bn b T P l).Am,ros,evs,ev++Cd b T P l,st++Db b T P l) /\
   l.length<=2*j/\(ros'.length=b.An.toNat/\∀ x,x∈ros'->Er T x)/\(y.Delay=600->T<=500->l=[])) ⟨[],_,by simp [Cd,Db,Bn],by simp,⟨by simp,hidle⟩,λ _ _=>rfl⟩ (λ j x s hx hI=>?_) λ s hI=>hI
  obtain⟨l,ros',rfl,g1,⟨g2,g3⟩,g4⟩:=hI
  have hj:j<(Bl b P).length:=(aa.1 hx).1
  have hin:=Agd h (af hx)
  obtain⟨b0,b1⟩:=Yf hin
  have hq:=Fx h T l hp
  have l1:=Js h T l hp
  have l2:=Mc h T l hp
  have stay:∃ (l':List Ao) (ros2:List Av),(T,b.An,b.Ad,b.Ac,b.Ae,b.Phase,b.Aq,ros',(Bn b T P l).Ag,(Bn b T P l).Ac,(Bn b T P l).Ap,(Bn b T P l).Am,ros,evs,ev++Cd b T P l,st++Db b T P l)=(T,b.An,b.Ad,b.Ac,b.Ae,b.Phase,b.Aq,ros2,(Bn b T P l').Ag,(Bn b T P l').Ac,(Bn b T P l').Ap,(Bn b T P l').Am,ros,evs,ev++Cd b T P l',st++Db b T P l') /\
   l'.length<=2*(j+1)/\(ros2.length=b.An.toNat/\∀ x,x∈ros2->Er T x)/\(y.Delay=600->T<=500->l'=[]):=⟨l,ros',rfl,by omega,⟨g2,g3⟩,g4⟩
  unfold Yu
  rw [b0]
  simp only [ac]
  have hl:=vZ h hq b1
  refine Ok.bind (P:=λ _=>True) (dj (λ _=>dk hl) λ _=>trivial) λ v _=>?_
  refine c9 (λ _=>cW stay) (λ _=>?_)
  refine Ok.bind (P:=λ r=>Er T r) ((cY (l:=ros) (by omega) (by omega)).mono λ r hr'=>hr.2 r (af hr')) λ r hr'=>?_
  refine Ok.bind (P:=λ z=>Er T z.1/\z.2.1.length<=2/\(y.Delay=600->T<=500->z.2.1=[])) (Ast h hy hq b1 hT hr') λ z hz=>?_
  refine (cY (l:=ros') (by omega) (by omega)).bind λ _ _=>(da (l:=ros') (x:=z.1) (by omega) (by omega)).bind λ w hw=>?_
  subst hw
  refine Ok.inner (Alu h hq ros evs (ev:=ev++Cd b T P l) (st:=st++Db b T P l) (l:=z.2.1) (by simp;omega) (by simp;omega)) (λ s hs=>?_) (λ _ h=>h.elim)
  subst hs
  refine cW ⟨l++z.2.1,ros'.set (Qu x:Int).toNat z.1,?_,by simp;omega,⟨by rw [bH];exact g2,λ r hr2=>?_⟩,λ hd ht=>by rw [g4 hd ht,hz.2.2 hd ht];rfl⟩
  ·rw [Xs,P5,P4,aD,aD]
  ·rcases cr hr2 with hr2 | hr2
   ·exact g3 r hr2
   ·rw [hr2];exact hz.1
 ·obtain⟨l,ros',rfl,g⟩:=hs
  exact cV ⟨l,ros',rfl,g⟩
def wtP (b:Aa) (P:Ab) (T:Int):Ab:=(By b P T ⟨7,0,0⟩).1
theorem Xc {b:Aa} (h:Aw b) {P:Ab} (hp:Ax b P) {T:Int} (hT:0<=T/\T<=2147483648):F78 b P T ⟨7,0,0⟩=some (wtP b P T,0)/\Ax b (wtP b P T)/\∃ w,Kw ⟨b,P,T⟩=some w/\w.Au=wtP b P T:=by
 obtain⟨w,hw,hwo⟩:=Akx h hp T
 have key:F78 b P T ⟨7,0,0⟩=some (w.Au,0):=by
  refine db ?_
  unfold F78
  rw [Dm h hp,A25,Dy h hp]
  simp only [ac]
  refine c9 (λ hc=>by simp at hc) (λ _=>c9 (λ hc=>?_) (λ _=>c9 (λ hc=>by simp at hc) (λ _=>?_)))
  ·simp [Ao0] at hc;omega
  ·have:M_ ⟨b,P,T⟩ ⟨7,0,0⟩=some (0,w):=by
    unfold M_
    rw [hw];rfl
   rw [this]
   exact cV rfl
 have e:wtP b P T=w.Au:=by unfold wtP By;rw [key];rfl
 rw [e]
 exact⟨key,hwo,w,hw,rfl⟩
def X9 (l:List A6):List A6:=l.drop (l.length-200)
theorem A00 {b:Aa} (h:Aw b) {y:A5} (hy:F4 y) {p:Ar} (hp:Fa b y p) (hT:p.Time<=1000) (he:p.A8.length<=200) {l:List Ao} (hl:l.length<=10) :
  Ok (F53 b y p l) λ z=>z.2=0/\∃ (m:List Ao) (ros':List Av),m.length<=2*b.An.toNat/\(ros'.length=b.An.toNat/\∀ x,x∈ros'->Er p.Time x)/\(y.Delay=600->p.Time<=500->m=[]) /\
   z.1=⟨⟨p.Time+1,wtP b (Bn b p.Time p.Power (l++m)) p.Time,ros',X9 (p.A8++Cd b p.Time p.Power (l++m))⟩,b,Cd b p.Time p.Power (l++m),[p.Power]++Db b p.Time p.Power (l++m)++[wtP b (Bn b p.Time p.Power (l++m)) p.Time]⟩:=by
 have hbu:=h.buses
 have hti:=hp.time
 have hst:=hp.st
 have hnr:=hp.nro
 unfold F53
 rw [Rn h hy hp]
 simp only [ac]
 refine c9 (λ hc=>by simp at hc) (λ _=>c9 (λ hc=>?_) (λ _=>c9 (λ hc=>?_) (λ _=>?_)))
 ·simp only [dF] at hc;omega
 ·simp only [dH] at hc;omega
 rw [Ayx h hst (by omega) (by omega)]
 simp only [ac]
 rw [A1m h hst (by simp)]
 simp only [ac]
 refine Ok.andThen (Alu h hst p.A2 p.A8 (ev:=[]) (st:=[]++[p.Power]) (l:=l) (by simp;omega) (by simp;omega)) (λ s hs=>?_) (λ _ h=>h.elim)
 subst hs
 have hq:=Fx h p.Time l hst
 have l1:=Js h p.Time l hst
 have l2:=Mc h p.Time l hst
 refine Ok.bind (Aw1 h hy hti hq ⟨hnr,hp.ros⟩ p.A8 (ev:=[]++Cd b p.Time p.Power l) (st:=[]++[p.Power]++Db b p.Time p.Power l) (by simp;omega) (by simp;omega)) λ r hr=>?_
 obtain⟨m,ros',rfl,g1,g2,g3⟩:=hr
 have hil:=Hs b (Bn b p.Time p.Power l)
 have hq2:=Fx h p.Time m hq
 have l3:=Js h p.Time m hq
 have l4:=Mc h p.Time m hq
 obtain⟨w1,w2,_⟩:=Xc h hq2 hti
 refine Ok.bind (P:=λ v=>v=(wtP b (Bn b p.Time (Bn b p.Time p.Power l) m) p.Time,(0:Int))) (d7 w1 rfl) λ v hv=>?_
 subst hv
 have k3:=Axu h (r:=⟨⟨p.Time,wtP b (Bn b p.Time (Bn b p.Time p.Power l) m) p.Time,ros',p.A8⟩,b,[]++Cd b p.Time p.Power l++Cd b p.Time (Bn b p.Time p.Power l) m,[]++[p.Power]++Db b p.Time p.Power l++Db b p.Time (Bn b p.Time p.Power l) m⟩) (p:=wtP b (Bn b p.Time (Bn b p.Time p.Power l) m) p.Time) w2
 refine Ok.bind (P:=λ v=>v=_) (d7 (k3 (by simp;omega)) rfl) λ v hv=>?_
 subst hv
 have eE:[]++Cd b p.Time p.Power l++Cd b p.Time (Bn b p.Time p.Power l) m=Cd b p.Time p.Power (l++m):=by rw [P5];rfl
 have eS:[]++[p.Power]++Db b p.Time p.Power l++Db b p.Time (Bn b p.Time p.Power l) m=[p.Power]++Db b p.Time p.Power (l++m):=by rw [P4];simp
 rw [eE,eS]
 have eP:Bn b p.Time (Bn b p.Time p.Power l) m=Bn b p.Time p.Power (l++m):=(Xs _ _ _ _ _).symm
 have l5:=Js h p.Time (l++m) hst
 simp only [aA] at l5
 refine (d3 (l:=p.A8) (m:=Cd b p.Time p.Power (l++m)) (by omega)).bind λ u hu=>?_
 subst hu
 have hlen:((p.A8++Cd b p.Time p.Power (l++m)).length:Int)<=10000000:=by simp only [aA];omega
 have ew:w64 (((p.A8++Cd b p.Time p.Power (l++m)).length:Int)-200)=((p.A8++Cd b p.Time p.Power (l++m)).length:Int)-200:=Bd (by omega)
 rw [ew]
 have en:(max 0 (((p.A8++Cd b p.Time p.Power (l++m)).length:Int)-200)).toNat=(p.A8++Cd b p.Time p.Power (l++m)).length-200:=by omega
 refine Ok.bind (P:=λ v=>v=X9 (p.A8++Cd b p.Time p.Power (l++m))) ((Ok.cutI (by omega) (by omega) (by omega)).mono λ v hv=>?_) λ v hv=>?_
 ·rw [hv,aH,aI,en];rfl
 rw [hv]
 unfold F79
 have hcl:(X9 (p.A8++Cd b p.Time p.Power (l++m))).length<=10000000:=by
  unfold X9
  rw [bV];omega
 rw [K9 (by omega)]
 simp only [ac]
 rw [Bd (n:=p.Time+1) (by omega),eP]
 exact cV ⟨rfl,m,ros',by omega,g2,g3,by rw [aD]⟩
theorem A03 {b:Aa} (h:Aw b) {y:A5} (hy:F4 y) {p:Ar} (hp:Fa b y p) (hT:p.Time<=1000) (he:p.A8.length<=200) {l:List Ao} (hl:l.length<=10) :
  Ok (F31 b y p l) λ z=>z.2.2=0/\∃ (m:List Ao) (ros':List Av),m.length<=2*b.An.toNat/\(ros'.length=b.An.toNat/\∀ x,x∈ros'->Er p.Time x)/\(y.Delay=600->p.Time<=500->m=[]) /\
   z.1=⟨p.Time+1,wtP b (Bn b p.Time p.Power (l++m)) p.Time,ros',X9 (p.A8++Cd b p.Time p.Power (l++m))⟩/\z.2.1=Cd b p.Time p.Power (l++m):=by
 unfold F31
 refine (A00 h hy hp hT he hl).bind λ r hr=>?_
 obtain⟨h1,m,ros',g1,g2,g3,g4⟩:=hr
 refine c9 (λ hc=>by rw [h1] at hc;simp at hc) (λ _=>cV ⟨rfl,m,ros',g1,g2,g3,?_⟩)
 rw [g4]
 exact⟨rfl,rfl⟩
def cl (C:List Bool):Nat:=C.count true
theorem Aex {α:Type} {l:List α} {x:α} {j:Nat} (h:l[j]? = some x):l.set j x=l:=by
 obtain⟨hj,e⟩:=aa.1 h
 rw [←e];exact List.set_getElem_self hj
def Dl (x:Af):Af:=if x.State=2 then ⟨x.State,x.Since,x.Aq,Gz (w64 (x.Phase+w64 (36*w64 (x.Aq-5000))))⟩ else x
theorem Ak5 {α:Type} {l m:List α} {x:α} {v:α} {j:Nat} (h:m[j]? = some x) (hl:l.length=m.length):(l.take j++m.drop j).set j v=l.take j++v::m.drop (j+1):=by
 have hj:=(aa.1 h).1
 rw [List.set_append_right _ _ (by simp;omega),cP hj]
 have:j-(l.take j).length=0:=by simp;omega
 rw [this];rfl
theorem A23 {α:Type} (f:α->α) {l:List α} {x:α} {j:Nat} (h:l[j]? = some x):(((l.map f).take j++l.drop j)[j]? = some x)/\(l.map f).take (j+1)++l.drop (j+1)=((l.map f).take j++l.drop j).set j (f x):=by
 have hj:=(aa.1 h).1
 constructor
 ·rw [aK (by simp;omega)]
  have:j-((l.map f).take j).length=0:=by simp;omega
  rw [this,aq];exact h
 ·rw [Ak5 h (by simp),Bj (x:=f x) (by simp [h]),aD];rfl
theorem A0x {b:Aa} (h:Aw b) {p:Ab} (hp:Ax b p):Yz b p=some (⟨p.Ag,p.Ac.map Dl,p.Ap,p.Am⟩,0):=by
 have hs:=h.sol
 have hn:=hp.nso
 refine db ?_
 unfold Yz
 rw [Dm h hp,Dy h hp]
 simp only [ac]
 refine c9 (λ hc=>by simp at hc) (λ _=>?_)
 refine Ok.andThen (A:=λ s=>s=p.Ac.map Dl) (B:=λ (_:Unit)=>False) ?_ (λ s hs=>cV (by rw [hs])) (λ _ h=>h.elim)
 refine cX (I:=λ j s=>s=(p.Ac.map Dl).take j++p.Ac.drop j) rfl (λ j x s hx hs=>?_) λ s hs=>?_
 ·obtain⟨m1,m2⟩:=A23 Dl hx
  have hj:=(aa.1 hx).1
  subst hs
  unfold Wi
  rw [Cr (by omega),m2]
  refine c9 (λ hc=>?_) (λ hc=>cW ?_)
  ·rw [Bi m1]
   simp only [ac]
   rw [Mb (by simp;omega)]
   refine cW ?_
   unfold Dl
   rw [if_pos (by simpa using hc)]
  ·unfold Dl
   rw [if_neg (by simpa using hc)]
   exact (Aex m1).symm
 ·rw [hs,List.drop_length,aV,bv (by simp)]
def yB (b:Aa) (C:List Bool) (i:Nat):Bool:=!C.getD (Ih b (i:Int)).toNat false
def F_ (b:Aa) (C:List Bool) (t:Int) (x:Af) (i:Nat):Af:=
 if (x.State=1/\yB b C i=true)/\w64 (x.Since+(b.Ac.getD i default).Start)<=w64 (t+1) then ⟨2,x.Since,x.Aq,x.Phase⟩ else x
def Kc (b:Aa) (C:List Bool) (t:Int) (l:List Af) (j:Nat):List Af:=((l.zipIdx.map λ z=>F_ b C t z.1 z.2).take j)++l.drop j
theorem Anp {b:Aa} {C:List Bool} {t:Int} {l:List Af} {j:Nat} {x:Af} (h:l[j]? = some x):(Kc b C t l j)[j]? = some x/\Kc b C t l (j+1)=(Kc b C t l j).set j (F_ b C t x j)/\(Kc b C t l j).length=l.length:=by
 have hj:=(aa.1 h).1
 unfold Kc
 refine⟨?_,?_,by simp;omega⟩
 ·rw [aK (by simp;omega)]
  have:j-((l.zipIdx.map λ z=>F_ b C t z.1 z.2).take j).length=0:=by simp;omega
  rw [this,aq];exact h
 ·rw [Ak5 h (by simp),Bj (x:=F_ b C t x j) (by simp [h]),aD];rfl
def wtS (b:Aa) (p:Ab) (t:Int):Ab:=⟨p.Ag,Kc b p.Ag t (p.Ac.map Dl) (p.Ac.map Dl).length,p.Ap,p.Am⟩
theorem A7u {b:Aa} {i:Nat} (h:i<b.Ac.length):b.Ac[i]? = some (b.Ac.getD i default):=by
 rw [ag h];simp [List.getD,List.getElem?_eq_getElem h]
theorem A1e {b:Aa} (h:Aw b) {p:Ab} (hc:p.Ag.length=b.Ad.length) (t:Int) {i:Nat} (hi:i<b.Ac.length):Jm ⟨b,p,t⟩ (i:Int)=some (yB b p.Ag i):=by
 obtain⟨j,x,e,hx,_⟩:=Ll h (i:=(i:Int)) (by omega) (by omega)
 have hj:=(aa.1 hx).1
 unfold Jm yB
 rw [jW h,e,aH]
 simp only [ac]
 have hg:p.Ag[j]? = some (p.Ag.getD j false):=by
  rw [ag (by omega)];simp [List.getD,List.getElem?_eq_getElem (show j<p.Ag.length by omega)]
 rw [Bi hg];rfl
theorem A0t {b:Aa} (h:Aw b) {p:Ab} (hp:Ax b p) (t:Int):Kw ⟨b,p,t⟩=some ⟨b,wtS b p t,t⟩:=by
 have hs:=h.sol
 have hn:=hp.nso
 refine db ?_
 unfold Kw
 rw [A0x h hp]
 simp only [ac]
 refine Ok.andThen (A:=λ s=>s.2=Kc b p.Ag t (p.Ac.map Dl) (p.Ac.map Dl).length) (B:=λ (_:Unit)=>False) ?_ (λ s hs=>cV (by rw [hs];rfl)) (λ _ h=>h.elim)
 refine cZ (λ s=>∃ j:Nat,s.1=(j:Int)/\j<=p.Ac.length/\s.2=Kc b p.Ag t (p.Ac.map Dl) j) (λ s=>(100-s.1).toNat) _ _ ⟨0,rfl,by omega,rfl⟩ (by dsimp only;omega) ?_
 rintro⟨z,s⟩ ⟨j,hz,hj,hsr⟩
 dsimp only at hz hsr
 subst hz
 unfold N9 Ye
 dsimp only
 refine c9 (λ hq=>?_) (λ hq=>de ?_)
 ·simp only [dF,au] at hq
  have hlt:j<p.Ac.length:=by omega
  obtain⟨x,hx⟩:∃ x,(p.Ac.map Dl)[j]? = some x:=⟨_,ag (by simp;omega)⟩
  obtain⟨r1,r2,r3⟩:=Anp (b:=b) (C:=p.Ag) (t:=t) hx
  rw [←hsr] at r1 r2 r3
  simp only [au] at r3
  rw [Bi r1]
  simp only [ac]
  have ho:=A1e h (p:=⟨p.Ag,s,p.Ap,p.Am⟩) hp.ncl t (i:=j) (by omega)
  have e1:w64 ((j:Int)+1)=((j+1:Nat):Int):=by rw [Bd (by omega)];omega
  rw [e1]
  have nxt:∀ v,v=F_ b p.Ag t x j->(∃ k:Nat,((j+1:Nat):Int)=(k:Int)/\k<=p.Ac.length/\s.set j v=Kc b p.Ag t (p.Ac.map Dl) k):=λ v hv=>⟨j+1,rfl,by omega,by rw [hv,r2]⟩
  have stay:x=F_ b p.Ag t x j->s=s.set j (F_ b p.Ag t x j):=λ hv=>by
   rw [←hv];exact (Aex r1).symm
  cases hs1:(x.State==1) with
  | false=>
   have hno:x=F_ b p.Ag t x j:=by
    unfold F_;rw [if_neg (λ hh=>by simp [hh.1.1] at hs1)]
   refine Ok.bind (P:=λ _=>True) (dj (λ hg=>absurd hg.1 (by simp)) λ _=>trivial) λ _ _=>?_
   refine Ok.bind (P:=λ _=>True) (dj (λ hg=>absurd hg.1 (by simp)) λ _=>trivial) λ _ _=>?_
   refine c9 (λ hc=>by simp [M1,hs1] at hc) (λ _=>cW ⟨?_,by dsimp only;omega⟩)
   dsimp only
   rw [stay hno]
   exact nxt _ rfl
  | true=>
   refine Ok.bind (P:=λ v=>v=yB b p.Ag j) (d7 ho rfl) λ v hv=>?_
   subst hv
   cases ho1:yB b p.Ag j with
   | false=>
    have hno:x=F_ b p.Ag t x j:=by
     unfold F_;rw [if_neg (λ hh=>by simp [hh.1.2] at ho1)]
    refine Ok.bind (P:=λ _=>True) (dj (λ hg=>absurd hg.1 (by simp)) λ _=>trivial) λ _ _=>?_
    refine c9 (λ hc=>by simp [M1] at hc) (λ _=>cW ⟨?_,by dsimp only;omega⟩)
    dsimp only
    rw [stay hno]
    exact nxt _ rfl
   | true=>
    refine Ok.bind (P:=λ v=>v=b.Ac.getD j default) (d7 (Bi (A7u (by omega))) rfl) λ v hv=>?_
    subst hv
    refine c9 (λ hc=>?_) (λ hc=>cW ⟨?_,by dsimp only;omega⟩)
    ·simp only [M1,hs1,bK,bi,dF] at hc
     rw [Mb (by omega)]
     refine cW ⟨?_,by dsimp only;omega⟩
     exact nxt _ (by unfold F_;rw [if_pos ⟨⟨by simpa using hs1,ho1⟩,hc⟩])
    ·simp only [M1,hs1,bK,bi,dG] at hc
     have hno:x=F_ b p.Ag t x j:=by
      unfold F_;rw [if_neg (λ hh=>hc hh.2)]
     dsimp only
     rw [stay hno]
     exact nxt _ rfl
 ·simp only [dG,au] at hq
  have:j=(p.Ac.map Dl).length:=by simp;omega
  dsimp only
  rw [hsr,this]
def brN (b:Aa) (i:Nat):Nat:=(Ih b (i:Int)).toNat
theorem Ahm {b:Aa} (h:Aw b) {i:Nat} (hi:i<b.Ac.length):Ih b (i:Int)=(brN b i:Int)/\brN b i<b.Ad.length/\(b.Ad.getD (brN b i) default).Kind=2/\(b.Ad.getD (brN b i) default).B=(i:Int)/\b.Ad[brN b i]? = some (b.Ad.getD (brN b i) default):=by
 obtain⟨j,x,e,hx,hk,hB,_⟩:=Ll h (i:=(i:Int)) (by omega) (by omega)
 have hj:=(aa.1 hx).1
 have:brN b i=j:=by unfold brN;omega
 rw [this,Auz hx]
 exact⟨e,hj,hk,hB,hx⟩
theorem Ayq {b:Aa} (h:Aw b) {i j:Nat} (hi:i<b.Ac.length) {x:Ai} (hx:b.Ad[j]? = some x) (hk:x.Kind=2) (hB:x.B=(i:Int)):j=brN b i:=by
 obtain⟨e,hlt,k2,kB,hg⟩:=Ahm h hi
 have hm:∀ {m:Nat} {y:Ai},b.Ad[m]? = some y->y.Kind=2->y.B=(i:Int)->(y,m)∈ofZ b 2 (i:Int):=fun {m y} hy h1 h2=>aF.2 ⟨by rw [cT];exact hy,by simp [h1,h2]⟩
 have hlen:(ofZ b 2 (i:Int)).length=1:=by
  have:=Adl (λ x:Ai=>x.Kind==2&&x.B==(i:Int)) b.Ad 0
  rw [←h.one i hi]
  exact this
 have m1:=hm hx hk hB
 have m2:=hm hg k2 kB
 match hz:ofZ b 2 (i:Int),hlen,m1,m2 with
 | [v],_,m1,m2=>
  rw [bz] at m1 m2
  rw [←m2] at m1
  exact (Prod.mk.inj m1).2
theorem jO {b:Aa} (h:Aw b) {p:Ab} (hp:Ax b p) {i:Nat} (hi:i<b.Ac.length):Ea b p (i:Int)=if (p.Ac.getD i default).State=2/\p.Ag.getD (brN b i) false=true then some (b.Ad.getD (brN b i) default).A else none:=by
 obtain⟨e,hlt,k2,kB,hg⟩:=Ahm h hi
 have hn:=hp.nso
 have hz:∀ z,z∈ofZ b 2 (i:Int)->z.2=brN b i/\z.1=b.Ad.getD (brN b i) default:=λ z hz=>by
  have h1:=Vn hz
  have h2:=(aF.1 hz).2
  simp only [ae,dH] at h2
  have:=Ayq h hi h1 h2.1 h2.2
  rw [this] at h1
  rw [hg] at h1
  exact⟨this,(bN h1).symm⟩
 have hin:(b.Ad.getD (brN b i) default,brN b i)∈ofZ b 2 (i:Int):=aF.2 ⟨by rw [cT];exact hg,by
  rw [ae,dH,dH];exact⟨k2,kB⟩⟩
 have hled:Ei b p 2 (i:Int)=if p.Ag.getD (brN b i) false=true then some (b.Ad.getD (brN b i) default).A else none:=by
  rw [Af7 hp.ncl]
  by_cases hc:p.Ag.getD (brN b i) false=true
  ·rw [if_pos hc]
   cases hf:(ofZ b 2 (i:Int)).find? λ z=>p.Ag.getD z.2 false with
   | none=>
    rw [List.find?_eq_none] at hf
    exact absurd hc (hf _ hin)
   | some z=>
    rw [(hz z (List.mem_of_find?_eq_some hf)).2.symm];rfl
  ·rw [if_neg hc]
   cases hf:(ofZ b 2 (i:Int)).find? λ z=>p.Ag.getD z.2 false with
   | none=>rfl
   | some z=>
    have h1:=List.find?_some hf
    rw [(hz z (List.mem_of_find?_eq_some hf)).1] at h1
    exact absurd h1 hc
 unfold Ea
 rw [aH,hled]
 by_cases hs:(p.Ac.getD i default).State=2
 ·rw [if_pos ⟨by omega,by omega,hs⟩]
  simp only [hs,true_and]
 ·rw [if_neg (λ hh=>hs hh.2.2),if_neg (λ hh=>hs hh.1)]
def tog (b:Aa) (p:Ab) (i j:Nat):Prop:=∃ a c:Int,Ea b p (i:Int)=some a/\Ea b p (j:Int)=some c/\(A_ b p).getD a.toNat 0=(A_ b p).getD c.toNat 0
def B4 (x y:Af):Prop:=x.Aq=y.Aq/\x.Phase=y.Phase
theorem A0z {b:Aa} (h:Aw b) {p:Ab} {i j:Nat} (hi:i<b.Ac.length) (hj:j<b.Ac.length) (t:tog b p i j):∃ f,isl b p f∈Bl b p/\(i:Int)∈(isl b p f).Ac/\(j:Int)∈(isl b p f).Ac:=by
 obtain⟨a,c,h1,h2,h3⟩:=t
 have ha:=Mz h h1
 have hg:=Hd h p (n:=a.toNat) (by omega)
 refine⟨((A_ b p).getD a.toNat 0).toNat,?_,Jq.2 ⟨i,rfl,hi,?_⟩,Jq.2 ⟨j,rfl,hj,?_⟩⟩
 ·rw [Gj h]
  exact am.2 ⟨_,aF.2 ⟨aZ.2 (by omega),Hv h p (by omega)⟩,rfl⟩
 ·rw [h1];show some _=some _;rw [hg.2.2]
 ·rw [h2];show some ((A_ b p).getD c.toNat 0)=some _;rw [←h3,hg.2.2]
theorem A1o {b:Aa} {p:Ab} {f:Nat} {i j:Int} (hi:i∈(isl b p f).Ac) (hj:j∈(isl b p f).Ac):tog b p i.toNat j.toNat:=by
 obtain⟨k,rfl,_,e1⟩:=Jq.1 hi
 obtain⟨m,rfl,_,e2⟩:=Jq.1 hj
 rw [aH,aH]
 unfold Fe at e1 e2
 rw [Option.map_eq_some_iff] at e1 e2
 obtain⟨a,h1,h2⟩:=e1
 obtain⟨c,h3,h4⟩:=e2
 exact⟨a,c,h1,h3,by rw [h2,h4]⟩
theorem Abq {b:Aa} (h:Aw b) {p:Ab}:Fl b p↔∀ i j,i<b.Ac.length->j<b.Ac.length->tog b p i j->B4 (p.Ac.getD i default) (p.Ac.getD j default):=by
 constructor
 ·intro ha i j hi hj t
  obtain⟨f,hf,h1,h2⟩:=A0z h hi hj t
  have:=ha _ hf _ _ h1 h2
  rw [aH,aH] at this
  exact this
 ·intro ha x hx i j hi hj
  unfold Bl at hx
  obtain⟨f,_,rfl⟩:=am.1 (aF.1 hx).1
  have b1:=Vw hi
  have b2:=Vw hj
  exact ha _ _ (by omega) (by omega) (A1o hi hj)
structure Sub (b:Aa) (q p:Ab):Prop where
 con:∀ i,i<b.Ac.length->(q.Ac.getD i default).State=2->q.Ag.getD (brN b i) false=true->(p.Ac.getD i default).State=2/\p.Ag.getD (brN b i) false=true
 tie:∀ (k:Nat) x,b.Ad[k]? = some x->x.Kind=1->q.Ag.getD k false=true->p.Ag.getD k false=true
theorem Aue {L M:C9} (h:∀ i j,Tie L i j->Tie M i j) {i j:Nat} (c:E2 L i j):E2 M i j:=by
 obtain⟨r,c⟩:=c
 induction c with
 | refl=>exact .refl M i
 | stay _ ih=>exact ih
 | step _ t ih=>exact ih.tie (h _ _ t)
theorem Aqv {α:Type}:∀ {l:List α} {c:List Bool} {z:α×Bool},z∈l.zip c->∃ k:Nat,l[k]? = some z.1/\c[k]? = some z.2
 | [],_,_,h=>by simp at h
 | _::_,[],_,h=>by simp at h
 | x::l,v::c,z,h=>by
  rw [bF,ah] at h
  rcases h with rfl | h
  ·exact⟨0,rfl,rfl⟩
  ·obtain⟨k,h1,h2⟩:=Aqv h
   exact⟨k+1,h1,h2⟩
theorem Au2 {α:Type}:∀ {l:List α} {c:List Bool} {k:Nat} {x:α} {v:Bool},l[k]? = some x->c[k]? = some v->(x,v)∈l.zip c
 | [],_,_,_,_,h,_=>by simp at h
 | _::_,[],_,_,_,_,h=>by simp at h
 | y::l,w::c,0,x,v,h1,h2=>by
  simp at h1 h2
  rw [bF,←h1,←h2];exact aj
 | y::l,w::c,k+1,x,v,h1,h2=>by
  rw [bF]
  exact ai _ (Au2 (k:=k) (by simpa using h1) (by simpa using h2))
theorem Ak3 {b:Aa} {p:Ab} (hp:p.Ag.length=b.Ad.length) {i j:Nat}:Tie (Cj b p) i j↔∃ (k:Nat) (x:Ai),b.Ad[k]? = some x/\x.Kind=1/\p.Ag.getD k false=true/\((x.A.toNat=i/\x.B.toNat=j)\/(x.A.toNat=j/\x.B.toNat=i)):=by
 constructor
 ·rintro⟨z,hz,h1,h2,h3⟩
  obtain⟨k,g1,g2⟩:=Aqv hz
  exact⟨k,z.1,g1,h1,by rw [List.getD,g2,h2];rfl,h3⟩
 ·rintro⟨k,x,h1,h2,h3,h4⟩
  have hk:=(aa.1 h1).1
  refine⟨(x,true),Au2 h1 ?_,h2,rfl,h4⟩
  rw [ag (by omega)]
  simp only [List.getD,ag (show k<p.Ag.length by omega),cI] at h3
  rw [h3]
theorem Sub.conn {b:Aa} {q p:Ab} (hq:q.Ag.length=b.Ad.length) (hp:p.Ag.length=b.Ad.length) (s:Sub b q p) {i j:Nat} (c:E2 (Cj b q) i j):E2 (Cj b p) i j:=by
 refine Aue (λ i j t=>?_) c
 obtain⟨k,x,h1,h2,h3,h4⟩:=(Ak3 hq).1 t
 exact (Ak3 hp).2 ⟨k,x,h1,h2,s.tie k x h1 h2 h3,h4⟩
theorem Sub.tog {b:Aa} (h:Aw b) {q p:Ab} (hq:Ax b q) (hp:Ax b p) (s:Sub b q p) {i j:Nat} (hi:i<b.Ac.length) (hj:j<b.Ac.length) (t:tog b q i j):tog b p i j:=by
 obtain⟨a,c,h1,h2,h3⟩:=t
 have ha:=Mz h h1
 have hc:=Mz h h2
 have cc:=s.conn hq.ncl hp.ncl ((Lg h q (by omega) (by omega)).1 h3)
 have lift:∀ {m:Nat} {v:Int},m<b.Ac.length->Ea b q (m:Int)=some v->Ea b p (m:Int)=some v:=fun {m v} hm e=>by
  rw [jO h hq hm] at e
  rw [jO h hp hm]
  by_cases hh:(q.Ac.getD m default).State=2/\q.Ag.getD (brN b m) false=true
  ·rw [if_pos hh] at e
   rw [if_pos (s.con m hm hh.1 hh.2)];exact e
  ·rw [if_neg hh] at e;cases e
 exact⟨a,c,lift hi h1,lift hj h2,(Lg h p (by omega) (by omega)).2 cc⟩
theorem A2u {b:Aa} {q p:Ab} (hs:∀ i:Nat,(q.Ac.getD i default).State=(p.Ac.getD i default).State) (hc:∀ k:Nat,q.Ag.getD k false=true->p.Ag.getD k false=true):Sub b q p:=
 ⟨λ i _ h1 h2=>⟨by rw [←hs];exact h1,hc _ h2⟩,λ k _ _ _ h=>hc k h⟩
theorem Abr {b:Aa} (h:Aw b) {q p:Ab} (hq:Ax b q) (hp:Ax b p) (s:Sub b q p) (ha:Fl b p) (hl:∀ i j,i<b.Ac.length->j<b.Ac.length->tog b q i j->B4 (p.Ac.getD i default) (p.Ac.getD j default)->B4 (q.Ac.getD i default) (q.Ac.getD j default)):Fl b q:=
 (Abq h).2 λ i j hi hj t=>hl i j hi hj t ((Abq h).1 ha i j hi hj (s.tog h hq hp hi hj t))
theorem A2k (b:Aa) (C:List Bool) (q:Ai->Bool) (hC:C.length=b.Ad.length) (k:Nat) (h:(acC b C q).getD k false=true):C.getD k false=true:=by
 by_cases hk:k<b.Ad.length
 ·rw [A2l b C q hk,ae] at h;exact h.1
 ·have hl:(acC b C q).length=C.length:=Nt _ _
  simp [List.getD,List.getElem?_eq_none (show (acC b C q).length<=k by omega)] at h
theorem Adq {b:Aa} (p:Ab) (n:Nat):∀ (l:List Int) (z:List Bool×List Ao),z.1.length=b.Ad.length->(E3 b p n l z).1.length=b.Ad.length/\∀ k,(E3 b p n l z).1.getD k false=true->z.1.getD k false=true
 | [],_,hz=>⟨hz,λ _ h=>h⟩
 | c::l,z,hz=>by
  have hl:(Ib b p n z c).1.length=b.Ad.length/\∀ k,(Ib b p n z c).1.getD k false=true->z.1.getD k false=true:=by
   unfold Ib
   split
   ·exact⟨by show (acC b z.1 (isC c)).length=_;unfold acC;rw [Nt];exact hz,λ k h=>A2k b z.1 (isC c) hz k h⟩
   ·exact⟨hz,λ _ h=>h⟩
  obtain⟨h1,h2⟩:=Adq p n l (Ib b p n z c) hl.1
  exact⟨h1,λ k h=>hl.2 k (h2 k h)⟩
theorem Afl {b:Aa}:∀ (l:List Ah) (z:Ab×List Ao),z.1.Ag.length=b.Ad.length->(G9 b l z).1.Ac=z.1.Ac/\(G9 b l z).1.Am=z.1.Am/\∀ k,(G9 b l z).1.Ag.getD k false=true->z.1.Ag.getD k false=true
 | [],_,_=>⟨rfl,rfl,λ _ h=>h⟩
 | x::l,z,hz=>by
  have hs:(G8 b z x).1.Ac=z.1.Ac/\(G8 b z x).1.Am=z.1.Am/\(G8 b z x).1.Ag.length=b.Ad.length/\∀ k,(G8 b z x).1.Ag.getD k false=true->z.1.Ag.getD k false=true:=by
   unfold G8
   split
   ·obtain⟨h1,h2⟩:=Adq (B2 z.1 (Gw b x z).1) (Qu x) (H6 b x) (z.1.Ag,(Gw b x z).2) hz
    exact⟨rfl,rfl,h1,h2⟩
   ·exact⟨rfl,rfl,hz,λ _ h=>h⟩
  obtain⟨g1,g2,g3⟩:=Afl l (G8 b z x) hs.2.2.1
  exact⟨g1.trans hs.1,g2.trans hs.2.1,λ k h=>hs.2.2.2 k (g3 k h)⟩
theorem A1c {b:Aa} {p:Ab} (hp:Ax b p):(Mi b p).Ac=(J3 b p).Ac/\(Mi b p).Am=p.Am/\∀ k,(Mi b p).Ag.getD k false=true->(J3 b p).Ag.getD k false=true:=by
 have:=Afl (Bl b (J3 b p)) (J3 b p,Tu b p) (V4 hp).ncl
 exact⟨this.1,this.2.1,this.2.2⟩
theorem Asw {b:Aa} (h:Aw b) {p:Ab} (hp:Ax b p):Fl b (Mi b p):=by
 obtain⟨h1,_,h3⟩:=A1c hp
 exact Abr h (I9 h hp).2.1 (V4 hp) (A2u (λ i=>by rw [h1]) h3) (Aoy h hp) λ i j _ _ _ hl=>by rw [h1];exact hl
def Apc (b:Aa) (p q:Ab):Prop:=(∀ k,q.Ag.getD k false=true->p.Ag.getD k false=true)/\∀ i,i<b.Ac.length->(q.Ac.getD i default).State=2->q.Ag.getD (brN b i) false=true->(p.Ac.getD i default).State=2
theorem Apc.sub {b:Aa} {p q:Ab} (s:Apc b p q):Sub b q p:=⟨λ i hi h1 h2=>⟨s.2 i hi h1 h2,s.1 _ h2⟩,λ k _ _ _ h=>s.1 k h⟩
theorem Aqx {x y:Af} (hx:x.State=2) (hy:y.State=2) (h:B4 x y):B4 (Dl x) (Dl y):=by
 unfold Dl
 rw [if_pos hx,if_pos hy]
 exact⟨h.1,by dsimp only;rw [h.1,h.2]⟩
theorem Y8 (x:Af):(Dl x).State=x.State:=by unfold Dl;split <;> rfl
theorem Adm {b:Aa} {p:Ab} (t:Int) {i:Nat} (hi:i<p.Ac.length):(wtS b p t).Ac.getD i default=F_ b p.Ag t (Dl (p.Ac.getD i default)) i:=by
 unfold wtS Kc
 simp only [au]
 rw [cS (by simp),aV]
 have hl:((p.Ac.map Dl).zipIdx.map λ z=>F_ b p.Ag t z.1 z.2).length=p.Ac.length:=by simp
 rw [bv (by omega)]
 simp [List.getD,List.getElem?_eq_getElem hi]
theorem Pr {b:Aa} {p:Ab} (hp:Ax b p) (t:Int):Apc b p (wtS b p t):=by
 have hn:=hp.nso
 refine⟨λ _ hk=>hk,λ i hi h1 h2=>?_⟩
 rw [Adm t (by omega)] at h1
 have h2:p.Ag.getD (brN b i) false=true:=h2
 unfold F_ at h1
 split at h1
 ·rename_i hh
  exfalso
  have:=hh.1.2
  unfold yB at this
  have e:brN b i=(Ih b (i:Int)).toNat:=rfl
  rw [←e,h2] at this
  cases this
 ·rw [Y8] at h1;exact h1
theorem Anh {b:Aa} (h:Aw b) {p:Ab} (hp:Ax b p) (ha:Fl b p) {t:Int} (hq:Ax b (wtS b p t)):Fl b (wtS b p t):=by
 have hn:=hp.nso
 refine Abr h hq hp (Pr hp t).sub ha λ i j hi hj tg hl=>?_
 obtain⟨a,c,h1,h2,_⟩:=tg
 rw [jO h hq hi] at h1
 rw [jO h hq hj] at h2
 have k1:(wtS b p t).Ag.getD (brN b i) false=true/\(p.Ac.getD i default).State=2:=by
  split at h1
  ·rename_i hh;exact⟨hh.2,(Pr hp t).2 i hi hh.1 hh.2⟩
  ·cases h1
 have k2:(wtS b p t).Ag.getD (brN b j) false=true/\(p.Ac.getD j default).State=2:=by
  split at h2
  ·rename_i hh;exact⟨hh.2,(Pr hp t).2 j hj hh.1 hh.2⟩
  ·cases h2
 have stay:∀ m,(p.Ac.getD m default).State=2->F_ b p.Ag t (Dl (p.Ac.getD m default)) m=Dl (p.Ac.getD m default):=λ m hm=>by
  unfold F_
  rw [if_neg (λ hh=>by have:=hh.1.1;rw [Y8,hm] at this;omega)]
 rw [Adm t (by omega),Adm t (by omega),stay i k1.2,stay j k2.2]
 exact Aqx k1.2 k2.2 hl
theorem Zm {b:Aa} (h:Aw b) (t:Int):∀ (l:List Ao) {p:Ab},Ax b p->Fl b p->Fl b (Bn b t p l)
 | [],_,_,ha=>ha
 | a::l,p,hp,ha=>Zm h t l (jK h hp t a) (by
   show Fl b (doP b p t a)
   unfold doP
   split
   ·rename_i he
    exact Asw h (To h hp he).1
   ·exact ha)
theorem Aqz {b:Aa} (h:Aw b) {y:A5} {p:Ar} (hp:Fa b y p) (hT:p.Time<=1000) (l:List Ao) {ros:List Av} (hr:ros.length=b.An.toNat/\∀ x,x∈ros->Er p.Time x) (ev:List A6) :
  Fa b y ⟨p.Time+1,wtP b (Bn b p.Time p.Power l) p.Time,ros,ev⟩:=by
 have hti:=hp.time
 have ha0:Fl b p.Power:=by
  have:=J2 h (p:=p.Power) hp.st.nso
  rw [hp.fol] at this
  exact this
 have c2:=Zm h p.Time l hp.st ha0
 have hq:=Fx h p.Time l hp.st
 have hw:=(Xc h hq hti).2.1
 have e:wtP b (Bn b p.Time p.Power l) p.Time=wtS b (Bn b p.Time p.Power l) p.Time:=by
  obtain⟨_,_,w,hw,e⟩:=Xc h hq hti
  rw [A0t h hq] at hw
  cases hw
  exact e.symm
 have hws:Ax b (wtS b (Bn b p.Time p.Power l) p.Time):=by rw [←e];exact hw
 have hag:=Anh h hq c2 hws
 rw [e]
 exact {
  st:=hws
  fol:=Tf hws.nso hag
  time:=by dsimp only;omega
  nro:=hr.1
  ros:=λ x hx=>by
   have:=hr.2 x hx
   unfold Er at this ⊢
   dsimp only
   omega}
def Jy (b:Aa) (y:A5) (p:Ar) (l:List Ao):Ar:=match F31 b y p l with
 | some z=>z.1
 | none=>p
structure M4 (b:Aa) (y:A5) (n:Int) (p:Ar):Prop where
 ok:Fa b y p
 time:p.Time<=n
 evs:p.A8.length<=200
theorem Al0 {b:Aa} (h:Aw b) {y:A5} (hy:F4 y) {n:Int} (hn:n<=1000) {p:Ar} (hp:M4 b y n p) {l:List Ao} (hl:l.length<=10) :
  (∃ e,F31 b y p l=some (Jy b y p l,e,0))/\M4 b y (n+1) (Jy b y p l)/\(Jy b y p l).Time=p.Time+1:=by
 have htm:=hp.time
 obtain⟨z,e,h1,m,ros',g1,g2,_,g4,_⟩:=A03 h hy hp.ok (by omega) hp.evs hl
 obtain⟨z1,z2,z3⟩:=z
 dsimp only at h1 g4
 subst h1
 have en:Jy b y p l=z1:=by unfold Jy;rw [e]
 rw [en]
 refine⟨⟨z2,e⟩,?_,by rw [g4]⟩
 have hc:=Aqz h hp.ok (by omega) (l++m) g2 (X9 (p.A8++Cd b p.Time p.Power (l++m)))
 rw [g4]
 exact⟨hc,by dsimp only;omega,by dsimp only;unfold X9;rw [bV];omega⟩
section
variable {b:Aa} {y:A5}
def K0 (b:Aa) (y:A5):Ar->List (List Ao)->List Ar
 | _,[]=>[]
 | p,l::r=>Jy b y p l::K0 b y (Jy b y p l) r
def Jj (b:Aa) (y:A5) (p:Ar) (x:List (List Ao)):Ar:=x.foldl (Jy b y) p
theorem Ayd (p:Ar) (x z:List (List Ao)):Jj b y p (x++z)=Jj b y (Jj b y p x) z:=aX
theorem Afi (z:List (List Ao)):∀ (x:List (List Ao)) (p:Ar),K0 b y p (x++z)=K0 b y p x++K0 b y (Jj b y p x) z
 | [],_=>rfl
 | l::x,p=>by
  show Jy b y p l::K0 b y (Jy b y p l) (x++z)=_
  rw [Afi z x];rfl
theorem Xr:∀ (x:List (List Ao)) (p:Ar),(K0 b y p x).length=x.length
 | [],_=>rfl
 | l::x,p=>by show (K0 b y (Jy b y p l) x).length+1=x.length+1;rw [Xr x]
theorem yK (h:Aw b) (hy:F4 y):∀ (x:List (List Ao)) {n:Int} {p:Ar},n+x.length<=1000->M4 b y n p->(∀ l,l∈x->l.length<=10)->M4 b y (n+x.length) (Jj b y p x)/\(Jj b y p x).Time=p.Time+x.length
 | [],n,p,_,hp,_=>by
  have e:n+(([]:List (List Ao)).length:Int)=n:=by simp
  rw [e]
  exact⟨hp,by show p.Time=p.Time+((0:Nat):Int);omega⟩
 | l::x,n,p,hn,hp,hl=>by
  have hlen:((l::x).length:Int)=(x.length:Int)+1:=by simp
  rw [hlen] at hn ⊢
  obtain⟨_,h1,h2⟩:=Al0 h hy (by omega) hp (hl l aj)
  obtain⟨k1,k2⟩:=yK h hy x (by omega) h1 λ m hm=>hl m (ai _ hm)
  have e:n+((x.length:Int)+1)=n+1+x.length:=by omega
  rw [e]
  exact⟨k1,by
   show (Jj b y (Jy b y p l) x).Time=_
   rw [k2,h2];omega⟩
end
def I64 (x:Int):Prop:=-9223372036854775808<=x/\x<=9223372036854775807
theorem Axo {ns:List Int} (h:∀ x,x∈ns->I64 x):(Cy ns).length<=22*ns.length+1:=by
 have key:∀ {l:List Int},(∀ x,x∈l->I64 x)->(l.flatMap λ y=>32::Lib.itoa y).length<=22*l.length:=fun {l}=>by
  induction l with
  | nil=>intro _;simp
  | cons x l ih=>
   intro h
   have h1:=ih λ y hy=>h y (ai _ hy)
   have h2:=Lib.itoa_length_le x (h x aj).1 (h x aj).2
   simp only [cK,aA,aP]
   omega
 unfold Cy
 cases ns with
 | nil=>simp [Dn]
 | cons x r=>
  have h1:=key λ y hy=>h y (ai _ hy)
  have h2:=Lib.itoa_length_le x (h x aj).1 (h x aj).2
  simp only [Dn,aA,aP,bg]
  omega
theorem Adr:∀ {l:List (List Int)},(∀ r,r∈l->r.length<=100/\∀ x,x∈r->I64 x)->(Bz l).length<=2201*l.length
 | [],_=>by simp [Bz]
 | r::l,h=>by
  have h1:=Adr (l:=l) λ s hs=>h s (ai _ hs)
  obtain⟨h2,h3⟩:=h r aj
  have h4:=Axo h3
  have e:Bz (r::l)=Cy r++Bz l:=by simp [Bz]
  rw [e,aA,aP]
  omega
def Ky (p:Ar):List (List Int):=[[p.Time],p.Power.Ag.map Du]++p.Power.Ac.map (λ s=>[s.State,s.Since,s.Aq,s.Phase])++[p.Power.Ap]++p.Power.Am.map (λ s=>[s.Kind,s.Number])++p.A2.map (λ s=>[s.High,s.Low])
def L6 (p:Ar):ByteArray:=⟨(Bz (Ky p)).toArray⟩
structure yR (p:Ar):Prop where
 cl:p.Power.Ag.length<=100
 so:p.Power.Ac.length<=100
 li:p.Power.Ap.length<=100
 br:p.Power.Am.length<=100
 ro:p.A2.length<=100
 t:I64 p.Time
 rs:∀ s,s∈p.Power.Ac->I64 s.State/\I64 s.Since/\I64 s.Aq/\I64 s.Phase
 rl:∀ s,s∈p.Power.Ap->I64 s
 rb:∀ s,s∈p.Power.Am->I64 s.Kind/\I64 s.Number
 rr:∀ s,s∈p.A2->I64 s.High/\I64 s.Low
theorem Xz {p:Ar} (h:yR p):∀ r,r∈Ky p->r.length<=100/\∀ x,x∈r->I64 x:=by
 intro r hr
 unfold Ky at hr
 simp only [az,ah,cv,or_false,am] at hr
 rcases hr with ((((rfl | rfl) | ⟨s,hs,rfl⟩) | rfl) | ⟨s,hs,rfl⟩) | ⟨s,hs,rfl⟩
 ·exact⟨by simp,λ x hx=>by simp only [ah,cv,or_false] at hx;subst hx;exact h.t⟩
 ·refine⟨by rw [au];exact h.cl,λ x hx=>?_⟩
  obtain⟨c,_,rfl⟩:=am.1 hx
  cases c <;> simp [Du,I64]
 ·refine⟨by simp,λ x hx=>?_⟩
  have:=h.rs s hs
  simp only [ah,cv,or_false] at hx
  rcases hx with rfl | rfl | rfl | rfl
  ·exact this.1
  ·exact this.2.1
  ·exact this.2.2.1
  ·exact this.2.2.2
 ·exact⟨h.li,h.rl⟩
 ·refine⟨by simp,λ x hx=>?_⟩
  have:=h.rb s hs
  simp only [ah,cv,or_false] at hx
  rcases hx with rfl | rfl
  ·exact this.1
  ·exact this.2
 ·refine⟨by simp,λ x hx=>?_⟩
  have:=h.rr s hs
  simp only [ah,cv,or_false] at hx
  rcases hx with rfl | rfl
  ·exact this.1
  ·exact this.2
theorem As2 {p:Ar} (h:yR p):(Ky p).length<=303:=by
 have h1:=h.so
 have h2:=h.br
 have h3:=h.ro
 unfold Ky
 simp only [aA,au,aP,bg]
 omega
theorem Ak4 {p:Ar} (h:yR p):(Bz (Ky p)).length<=1000000:=by
 have h1:=Adr (Xz h)
 have h2:=As2 h
 omega
theorem uK {p:Ar} (h:yR p):F22 p=some (L6 p):=
 As4 (l:=Ky p) (λ x hx=>⟨by have:=(Xz h x hx).1;omega,(Xz h x hx).2⟩) (by have:=Ak4 h;omega)
theorem Fa.tx {b:Aa} (h:Aw b) {y:A5} {p:Ar} (hp:Fa b y p):yR p:=by
 have g1:=h.buses
 have g2:=h.brl
 have g3:=h.sol
 have g4:=h.col
 have n1:=hp.st.ncl
 have n2:=hp.st.nso
 have n3:=hp.st.nli
 have n4:=hp.st.brk.len
 have n5:=hp.nro
 have ht:=hp.time
 refine⟨by omega,by omega,by omega,by omega,by omega,by unfold I64;omega,λ s hs=>?_,λ s hs=>?_,λ s hs=>?_,λ s hs=>?_⟩
 ·have:=hp.st.run s hs
  unfold C1 at this
  unfold I64
  omega
 ·obtain⟨i,hi⟩:=cd hs
  have hil:=(aa.1 hi).1
  obtain⟨c,hc⟩:∃ c,b.Ae[i]? = some c:=⟨_,ag (by omega)⟩
  have:=hp.st.lim i s c hi hc
  have hco:=h.co i c hc
  unfold Aka at hco
  unfold I64
  omega
 ·have:=hp.st.brk.mem s hs
  unfold B8 at this
  unfold I64
  omega
 ·have:=hp.ros s hs
  unfold Er at this
  unfold I64
  omega
def yL (p:Ar):Int:=(F23 p).getD 0
theorem A5s {p:Ar} (h:yR p):F23 p=some (yL p):=by
 have key:Ok (F23 p) λ _=>True:=by
  unfold F23
  rw [uK h]
  simp only [ac]
  refine Ok.bind (P:=λ _=>True) ?_ λ _ _=>cV trivial
  unfold F41
  have hsz:(L6 p).size=(Bz (Ky p)).length:=by simp [L6,ByteArray.size]
  have hb:Ty (L6 p)=some (Tz (L6 p)):=by
   unfold Ty
   rw [dK (by have:=Ak4 h;omega)];rfl
  rw [hb]
  simp only [ac]
  refine Ok.andThen (A:=λ _=>True) (B:=λ _=>False) ?_ (λ _ _=>cV trivial) (λ _ h=>h.elim)
  exact cX (λ _ _=>True) trivial (λ _ _ _ _ _=>cW trivial) λ _ _=>trivial
 obtain⟨r,e,_⟩:=key
 unfold yL
 rw [e];rfl
theorem V7 {α:Type} {B:Nat} {l:List α} (h:l.length*B<=140737488355328):appI B ([]:List α) l=some l:=by
 unfold appI
 rw [dK (by simpa using h)];rfl
theorem Aud {b:Aa} (h:Aw b) {y:A5} {p:Ar} (hp:Fa b y p) (he:p.A8.length<=200):F30 p=some p:=by
 have ht:=hp.tx h
 have h1:=ht.cl
 have h2:=ht.so
 have h3:=ht.li
 have h4:=ht.br
 have h5:=ht.ro
 unfold F30
 rw [V7 (by omega),V7 (by omega),V7 (by omega),V7 (by omega),V7 (by omega),V7 (by omega)]
 rfl
section
variable {b:Aa} {y:A5}
theorem Asv (h:Aw b) (hy:F4 y) {x:List (List Ao)} (hx:∀ l,l∈x->l.length<=10) (hl:x.length<=60) {n:Int} {p:Ar} (hn:n+x.length<=1000) (hp:M4 b y n p) {k:Nat} (hk:k<=x.length) :
  F15 b y p x (k:Int)=some ((K0 b y p (x.drop k)).map yL,Jj b y p (x.drop k),0):=by
 have hdl:(x.drop k).length=x.length-k:=bV
 have hdx:∀ i:Nat,∀ l,l∈(x.drop k).take i->l.length<=10:=λ i l hm=>hx l (cg (bh hm))
 refine db ?_
 unfold F15
 have c0:Ao6 x (k:Int)=false:=by
  unfold Ao6
  simp only [bM,dG]
  omega
 have c1:decide ((x.length:Int)>60)=false:=by simp only [dG];omega
 rw [c0,c1,Rn h hy hp.ok,Aud h hp.ok hp.evs]
 simp only [cond_false,ac,dM]
 generalize hD:x.drop k=D at *
 refine Ok.andThen (A:=λ z=>∃ q:Ar,q=Jj b y p D/\z=((D.length:Int),q.Power.Ag,q.Power.Ac,q.Power.Ap,q.Power.Am,q.A2,q.A8,q.Time,(K0 b y p D).map yL)) (B:=λ _=>False) ?_ ?_ (λ _ h=>h.elim)
 ·refine cZ (λ z=>∃ (i:Nat) (q:Ar),i<=D.length/\q=Jj b y p (D.take i)/\z=((i:Int),q.Power.Ag,q.Power.Ac,q.Power.Ap,q.Power.Am,q.A2,q.A8,q.Time,(K0 b y p (D.take i)).map yL)) (λ z=>D.length-z.1.toNat) _ _ ⟨0,p,by omega,by simp [Jj],by simp [K0]⟩ (by dsimp only;omega) ?_
  rintro _ ⟨i,q,hi,hq,rfl⟩
  unfold Aju
  have e0:w64 ((x.length:Int)-(k:Int))=(D.length:Int):=by rw [Bd (by omega),hdl];omega
  refine c9 (λ hc=>?_) (λ hc=>?_)
  ·simp only [Ao5,e0,dF] at hc
   have hilt:i<D.length:=by omega
   have hti:(D.take i).length=i:=by rw [aW];omega
   obtain⟨l,hli⟩:∃ l,D[i]? = some l:=⟨_,ag hilt⟩
   have hxk:x[k+i]? = some l:=by rw [←hli,←hD,aq]
   have eg:getI x (w64 ((k:Int)+(i:Int)))=some l:=by
    rw [Bd (by omega)]
    have:=Bi hxk
    rw [←this];congr 1
   dsimp only
   rw [eg]
   simp only [ac]
   have hqt:=(yK h hy (D.take i) (n:=n) (p:=p) (by omega) hp (hdx i)).1
   rw [←hq] at hqt
   obtain⟨⟨e,he⟩,g1,_⟩:=Al0 h hy (by omega) hqt (hx l (af hxk))
   have eta:(⟨q.Time,(⟨q.Power.Ag,q.Power.Ac,q.Power.Ap,q.Power.Am⟩:Ab),q.A2,q.A8⟩:Ar)=q:=rfl
   rw [eta,he]
   simp only [ac,dM,cond_false]
   rw [A5s (g1.ok.tx h)]
   simp only [ac]
   have e1:D.take (i+1)=D.take i++[l]:=by rw [ce,hli];rfl
   refine (d3 (by simp [Xr];omega)).bind λ w hw=>cW ?_
   subst hw
   refine⟨⟨i+1,Jy b y q l,hilt,?_,?_⟩,?_⟩
   ·rw [e1,Ayd,←hq];rfl
   ·rw [e1,Afi,bE,←hq,Bd (by omega)]
    rfl
   ·dsimp only
    rw [Bd (by omega)]
    omega
  ·simp only [Ao5,e0,dG] at hc
   have ei:i=D.length:=by omega
   subst ei
   rw [aI] at hq
   exact de ⟨q,hq,by rw [aI]⟩
 ·rintro _ ⟨q,rfl,rfl⟩
  exact cV rfl
theorem A2x (h:Aw b) (hy:F4 y) {x:List (List Ao)} (hx:∀ l,l∈x->l.length<=10) (hl:x.length<=60) {n:Int} {p:Ar} (hn:n+x.length<=1000) (hp:M4 b y n p) :
  F14 b y p x=some ((K0 b y p x).map yL,Jj b y p x,0):=by
 unfold F14
 have:=Asv h hy hx hl hn hp (k:=0) (by omega)
 rw [List.drop_zero] at this
 rw [show (0:Int)=((0:Nat):Int) from rfl,this]
 rfl
end
def A95 (a b:List Int) (r:Int):Prop:=(r = -1/\a=b)\/∃ n:Nat,r=n/\a[n]? ≠ b[n]? /\ ∀ j:Nat,j<n->a[j]? = b[j]?
theorem S8 {α:Type} {c:Bool} {x:Option α} {d:α} (h:c=false):A3 [(c,false)] x d=x:=by subst h;rfl
theorem Agm {a:List Int} (ha:a.length<=1000):F32 a a=some (-1):=by
 refine db ?_
 unfold F32
 refine Ok.andThen (A:=λ _=>True) (B:=λ _=>False) ?_ (λ _ _=>cV rfl) (λ r h=>h.elim)
 refine cZ (λ z=>0<=z/\z<=1000) (λ z=>(1000-z).toNat) _ _ ⟨by omega,by omega⟩ (by omega) ?_
 rintro z ⟨h0,h1⟩
 unfold Ajm
 refine c9 (λ hc=>?_) (λ hc=>de trivial)
 have hc:z<a.length:=by simp only [A0l,Bool.or_self,dF] at hc;omega
 have hin:(decide (z>=(a.length:Int)) || decide (z>=(a.length:Int)))=false:=by simp only [Bool.or_self,dG];omega
 rw [S8 hin]
 obtain⟨u,hu,_⟩:=cY (l:=a) h0 hc
 rw [hu]
 simp only [ac,A0k,hin,dM,Bool.or_self,cond_false]
 rw [Bd (by omega)]
 exact cW ⟨⟨by omega,by omega⟩,by omega⟩
theorem Ag3 {a:List Int} (ha:a.length<=1000):F16 a a=some true:=by
 unfold F16
 rw [Agm ha];rfl
theorem Aq9:F8=some true:=by kernel_rfl
theorem A6m {b:Aa} {y:A5} {p:Ar} (hp:(∀ t,Fa b t p)/\(5<=p.Time/\p.Time<=20)/\p.A8=[]/\p.Power.Am.length<=4):M4 b y 20 p:=⟨hp.1 y,hp.2.1.2,by rw [hp.2.2.1];simp⟩
theorem Tr:∀ (n:Nat) c,c∈Lib.decDigits n->48<=c.toNat/\c.toNat<=57:=by
 intro n
 induction n using Nat.strongRecOn with
 | _ n ih=>
  intro c hc
  have one:∀ k:Nat,k<10->48<=(UInt8.ofNat (48+k)).toNat/\(UInt8.ofNat (48+k)).toNat<=57:=λ k hk=>by
   rw [UInt8.toNat_ofNat']
   omega
  rw [Lib.decDigits] at hc
  split at hc
  ·rename_i h
   rw [bz] at hc
   subst hc
   exact one n h
  ·rcases az.1 hc with hc | hc
   ·exact ih (n / 10) (by omega) c hc
   ·rw [bz] at hc
    subst hc
    exact one (n % 10) (by omega)
def Ado (l:List UInt8):Nat:=l.foldl (λ a c=>a*10+(c.toNat-48)) 0
theorem V2 (n:Nat):Ado (Lib.decDigits n)=n:=by
 induction n using Nat.strongRecOn with
 | _ n ih=>
  rw [Lib.decDigits]
  split
  ·simp only [Ado,bD,List.foldl_nil,UInt8.toNat_ofNat']
   omega
  ·have:=ih (n / 10) (by omega)
   unfold Ado at this ⊢
   rw [aX,this]
   simp only [bD,List.foldl_nil,UInt8.toNat_ofNat']
   omega
theorem A5t (n:Nat):Lib.decDigits n≠[]:=by
 rw [Lib.decDigits]
 split <;> simp
theorem Jg {x:Int} {c:UInt8} (h:c∈Lib.itoa x):c.toNat=45\/48<=c.toNat:=by
 unfold Lib.itoa at h
 split at h
 ·rcases ah.1 h with rfl | h
  ·exact .inl rfl
  ·exact .inr (Tr _ c h).1
 ·exact .inr (Tr _ c h).1
theorem A1n (x:Int):Lib.itoa x≠[]:=by
 unfold Lib.itoa
 split
 ·simp
 ·exact A5t _
theorem Ag6 {n:Nat} {r:List UInt8} (h:Lib.decDigits n=45::r):False:=by
 have:=Tr n 45 (by rw [h];exact aj)
 simp at this
theorem Agb {x y:Int} (h:Lib.itoa x=Lib.itoa y):x=y:=by
 unfold Lib.itoa at h
 split at h <;> split at h
 ·have e:=congrArg Ado (bS h).2
  rw [V2,V2] at e
  omega
 ·exact (Ag6 h.symm).elim
 ·exact (Ag6 h).elim
 ·have e:=congrArg Ado h
  rw [V2,V2] at e
  omega
def Ape (l:List UInt8):Prop:=∃ c t,l=c::t/\(c=32\/c=10)
theorem Sk:∀ {a b A B:List UInt8},(∀ c,c∈a->c.toNat=45\/48<=c.toNat)->(∀ c,c∈b->c.toNat=45\/48<=c.toNat)->Ape A->Ape B->a++A=b++B->a=b/\A=B
 | [],[],_,_,_,_,_,_,h=>⟨rfl,h⟩
 | [],d::b,A,B,_,hb,⟨c,t,e,hc⟩,_,h=>by
  subst e
  have e1:=(bS h).1
  have:=hb d aj
  rw [←e1] at this
  rcases hc with rfl | rfl <;> simp at this
 | d::a,[],A,B,ha,_,_,⟨c,t,e,hc⟩,h=>by
  subst e
  have e1:=(bS h).1
  have:=ha d aj
  rw [e1] at this
  rcases hc with rfl | rfl <;> simp at this
 | d::a,e::b,A,B,ha,hb,hA,hB,h=>by
  obtain⟨h1,h2⟩:=bS h
  obtain⟨k1,k2⟩:=Sk (λ c hc=>ha c (ai _ hc)) (λ c hc=>hb c (ai _ hc)) hA hB h2
  exact⟨by rw [h1,k1],k2⟩
theorem Agk:∀ {r s:List Int} {R S:List UInt8},(r.flatMap λ y=>32::Lib.itoa y)++10::R=(s.flatMap λ y=>32::Lib.itoa y)++10::S->r=s/\R=S
 | [],[],_,_,h=>⟨rfl,(bS h).2⟩
 | [],y::s,_,_,h=>by
  simp only [List.flatMap_nil,cK,bI,cu] at h
  exact absurd (bS h).1 (by decide)
 | x::r,[],_,_,h=>by
  simp only [List.flatMap_nil,cK,bI,cu] at h
  exact absurd (bS h).1 (by decide)
 | x::r,y::s,R,S,h=>by
  simp only [cK,cu,aD] at h
  have sep:∀ (l:List Int) (T:List UInt8),Ape ((l.flatMap λ y=>32::Lib.itoa y)++10::T):=λ l T=>by
   cases l with
   | nil=>exact⟨10,T,rfl,.inr rfl⟩
   | cons z l=>exact⟨32,_,rfl,.inl rfl⟩
  obtain⟨h1,h2⟩:=Sk (λ c hc=>Jg hc) (λ c hc=>Jg hc) (sep r R) (sep s S) (bS h).2
  obtain⟨k1,k2⟩:=Agk h2
  exact⟨by rw [Agb h1,k1],k2⟩
theorem Axp {r s:List Int} {R S:List UInt8} (h:Cy r++R=Cy s++S):r=s/\R=S:=by
 have two:∀ {x:Int} {T U:List UInt8},Lib.itoa x++T=10::U->False:=fun {x T U} h=>by
  cases hx:Lib.itoa x with
  | nil=>exact A1n x hx
  | cons c l=>
   rw [hx] at h
   have e:=(bS h).1
   have:=Jg (x:=x) (c:=c) (by rw [hx];exact aj)
   rw [e] at this
   simp at this
 unfold Cy at h
 cases r with
 | nil=>
  cases s with
  | nil=>exact⟨rfl,by simpa [Dn] using h⟩
  | cons y s=>
   simp only [Dn,bI,aD] at h
   exact (two h.symm).elim
 | cons x r=>
  cases s with
  | nil=>
   simp only [Dn,bI,aD] at h
   exact (two h).elim
  | cons y s=>
   simp only [Dn,aD] at h
   have sep:∀ (l:List Int) (T:List UInt8),Ape ((l.flatMap λ y=>32::Lib.itoa y)++10::T):=λ l T=>by
    cases l with
    | nil=>exact⟨10,T,rfl,.inr rfl⟩
    | cons z l=>exact⟨32,_,rfl,.inl rfl⟩
   obtain⟨h1,h2⟩:=Sk (λ c hc=>Jg hc) (λ c hc=>Jg hc) (sep r R) (sep s S) h
   obtain⟨k1,k2⟩:=Agk h2
   exact⟨by rw [Agb h1,k1],k2⟩
theorem Aae:∀ {a b:List (List Int)},Bz a=Bz b->a=b
 | [],[],_=>rfl
 | [],r::b,h=>by
  have:Bz (r::b)=Cy r++Bz b:=by simp [Bz]
  rw [this] at h
  simp [Bz,Cy] at h
 | r::a,[],h=>by
  have:Bz (r::a)=Cy r++Bz a:=by simp [Bz]
  rw [this] at h
  simp [Bz,Cy] at h
 | r::a,s::b,h=>by
  have e1:Bz (r::a)=Cy r++Bz a:=by simp [Bz]
  have e2:Bz (s::b)=Cy s++Bz b:=by simp [Bz]
  rw [e1,e2] at h
  obtain⟨k1,k2⟩:=Axp h
  rw [k1,Aae k2]
theorem Amj (bs:ByteArray):∀ (n i:Nat) (r:List UInt8),bs.size-i=n->ByteArray.toList.loop bs i r=r.reverse++bs.data.toList.drop i
 | 0,i,r,h=>by
  have hs:bs.size=bs.data.toList.length:=rfl
  rw [ByteArray.toList.loop,if_neg (by omega),cS (by omega),aV]
 | n+1,i,r,h=>by
  have hs:bs.size=bs.data.toList.length:=rfl
  have hi:i<bs.data.toList.length:=by omega
  have hi2:i<bs.data.size:=by simpa using hi
  rw [ByteArray.toList.loop,if_pos (by omega),Amj bs n (i+1) _ (by omega),cP hi]
  have e:bs.get! i=bs.data.toList[i]:=by
   cases bs with
   | mk d=>
    show d[i]! = _
    rw [getElem!_pos d i hi2]
    simp
  rw [e,List.reverse_cons,aD];rfl
theorem Au1 (bs:ByteArray):bs.toList=bs.data.toList:=by
 unfold ByteArray.toList
 rw [Amj bs _ 0 [] rfl];simp
theorem Adp (p:Ar):(L6 p).toList=Bz (Ky p):=by
 rw [Au1]
 unfold L6
 simp
theorem A0v (p q:Ar):((L6 p).toList==(L6 q).toList)=decide (Ky p=Ky q):=by
 rw [Adp,Adp,bR,dH,dF]
 exact⟨Aae,λ h=>by rw [h]⟩
theorem Akk (l:List A6) (h:l.length<=1000):F34 l l=some true:=by
 unfold F34
 rw [Cs l 0 λ j x hj=>?_]
 ·simp [andThen]
 ·have hjl:=(aa.1 hj).1
  unfold Ajj A0f
  rw [aG,Cr (by omega),Bi hj]
  simp
theorem Ant {b:Aa} (h:Aw b) {y:A5} {p:Ar} (hp:Fa b y p) (he:p.A8.length<=200):F17 p p=some true:=by
 have h5:=(hp.tx h).ro
 refine db ?_
 unfold F17
 have e0:(p.Time != p.Time)=false:=by simp
 rw [e0,S8 rfl,Afn (hp.st.lens h)]
 simp only [ac]
 have e1:(((false || !true) || ((p.A2.length:Int) != (p.A2.length:Int))))=false:=by simp
 rw [e1,S8 rfl,Akk _ (by omega)]
 simp only [ac]
 refine c9 (λ hc=>by simp [A0p] at hc) λ _=>?_
 refine Ok.andThen (A:=λ _=>True) (B:=λ _=>False) ?_ (λ _ _=>cV rfl) (λ _ h=>h.elim)
 refine cZ (λ s=>0<=s/\s<=(p.A2.length:Int)) (λ s=>((p.A2.length:Int)-s).toNat) _ _ (by omega) (by omega) ?_
 rintro z ⟨z0,z1⟩
 unfold Ajr
 refine c9 (λ hc=>?_) (λ _=>de trivial)
 simp only [A0o,dF] at hc
 obtain⟨u,hu,_⟩:=cY (l:=p.A2) z0 hc
 rw [hu]
 simp only [ac]
 refine c9 (λ hc=>by simp [A0n] at hc) λ _=>?_
 rw [Bd (by omega)]
 exact cW ⟨⟨by omega,by omega⟩,by omega⟩
theorem Ani {p q:Ar} (h:p.Time≠q.Time):((L6 p).toList==(L6 q).toList)=false:=by
 rw [A0v,dG]
 intro e
 have e2:=congrArg List.head? e
 simp only [Ky,cu,bI,List.head?_cons,al,List.cons.injEq,and_true] at e2
 exact h e2
theorem replayNever_law (t:List Int):F7 t=some true:=by
 refine db ?_
 unfold F7
 refine c9 (λ _=>by rw [Aq9];exact cV rfl) λ _=>?_
 refine (A6e t).bind λ s hs=>(Aza hs).bind λ b hb=>(Ay4 hb.2).bind λ y hy=>(Ay6 hb.1.ok hy.2).bind λ p hp=>?_
 have h:=hb.1.ok
 have hp0:=A6m (y:=y.1) hp.1
 have em:mkI 25 4 ([]:List Ao)=some [[],[],[],[]]:=rfl
 rw [em]
 simp only [ac]
 have hx:∀ l,l∈([[],[],[],[]]:List (List Ao))->l.length<=10:=λ l hl=>by
  simp only [ah,cv,or_false,or_self] at hl
  subst hl;simp
 have hl4:(([[],[],[],[]]:List (List Ao)).length:Int)=4:=rfl
 rw [A2x h hy.1 hx (by simp) (n:=20) (by omega) hp0]
 simp only [ac]
 obtain⟨hend,het⟩:=yK h hy.1 [[],[],[],[]] (n:=20) (by omega) hp0 hx
 rw [hl4] at het
 rw [Ag3 (by simp [Xr]),Ant h hend.ok hend.evs]
 have htm:=hp.1.2.1
 have eT:w64 (p.1.Time+4)=p.1.Time+4:=Bd (by omega)
 have k1:((Jj b.1 y.1 p.1 [[],[],[],[]]).Time==w64 (p.1.Time+4))=true:=by rw [eT,het];simp
 have k2:=Ani (p:=Jj b.1 y.1 p.1 [[],[],[],[]]) (q:=p.1) (by omega)
 rw [uK (hend.ok.tx h),uK (hp0.ok.tx h)]
 simp only [beq_self_eq_true,cy,bi,A3,C5,cond_true,ac,k1,k2,Bool.not_false,Aq9]
 exact cV rfl
end Go.Proofs.YtpdbkiafikdgpaaGreatDoor
