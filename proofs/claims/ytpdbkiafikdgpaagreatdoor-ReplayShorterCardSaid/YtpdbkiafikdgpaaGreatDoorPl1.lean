import Derived.Test.YtpdbkiafikdgpaaGreatDoorPl0
namespace Go.Proofs.YtpdbkiafikdgpaaGreatDoor
open Go.SL
theorem J8 {b:Aa} (h:Av b) (i:Int):Ul b i=some (Ia b i):=by
 have hb:=h.brl
 unfold Ul qU
 refine d7 ?_
 refine Ok.bind (P:=λ y=>y=(Ia b i,i)) ?_ (λ y hy=>c9 (by rw [hy]))
 have key:=J3 (f:=λ n (a:Aj) (z:Unit)=>(bif (a.Kind==2&&a.B==i) then some (.ret (cnt 0 n)) else some (.next ()):Option (Ctl Unit Int))) (p:=λ x:Aj=>x.Kind==2&&x.B==i) (λ _ _=>rfl) b.Ad 0 (by omega)
 have:∀ (xs:List Aj) (k:Nat),foldI (Nt i) xs k ()=match foldI (λ n (a:Aj) (z:Unit)=>(bif (a.Kind==2&&a.B==i) then some (.ret (cnt 0 n)) else some (.next ()):Option (Ctl Unit Int))) xs k () with
   | some (.ret r)=>some (.ret (r,i))
   | some (.next _)=>some (.next ())
   | some (.brk _)=>some (.brk ())
   | none=>none:=by
  intro xs
  induction xs with
  | nil=>intro k;rfl
  | cons x xs ih=>
   intro k
   simp only [foldI,Nt,qT]
   cases hq:(x.Kind==2&&x.B==i) with
   | true=>rfl
   | false=>simp only [cond_false];exact ih (k+1)
 rw [this,key]
 unfold Ia N4
 cases b.Ad.findIdx? (λ x:Aj=>x.Kind==2&&x.B==i) with
 | none=>exact c9 rfl
 | some j=>exact c9 rfl
theorem Ax4 {b:Aa} (h:Av b) {p:Ab} (hp:Ax b p) {n:Nat} (hn:n<b.An.toNat):Gb b p (n:Int)=some (isl b p (Gt b p n),true):=of_eq h hp hn
theorem A4b {l:List Int} {x:Int×Int} (h:x∈bw l):x.2∈l:=by
 unfold bw Fy at h
 obtain⟨j,hj,rfl⟩:=am.1 h
 have:=aZ.1 hj
 dsimp only
 rw [ag (by omega)]
 exact List.getElem_mem _
theorem A1e {b:Aa} (h:Av b) {p:Ab} (hp:Ax b p) (y:A2) {n:Nat} (hn:n<b.An.toNat):Ok (Ajg b y p (n:Int)) λ _=>True:=by
 have hbr:=hp.brk.len
 obtain⟨l1,_⟩:=Vd h hp hn
 obtain⟨r1,_⟩:=Nd h hp hn
 unfold Ajg
 rw [Ax4 h hp hn]
 simp only [ac]
 refine cR (λ _=>c9 trivial) (λ _=>?_)
 refine Ok.andThen (A:=λ _=>True) (B:=λ _=>True) ?_ (λ _ _=>c9 trivial) (λ _ _=>c9 trivial)
 refine Ok.foldE (λ _ _=>True) _ 0 _ trivial (λ j x s hx _=>?_) (λ _ _=>trivial)
 have hin:=Vf (A4b (af hx))
 unfold V6
 rw [J8 h]
 simp only [ac]
 rw [Et (by omega)]
 simp only [ac]
 refine cR (λ _=>cS trivial) (λ _=>?_)
 rw [l1,r1]
 simp only [ac]
 refine (cV hin.1 hin.2).bind λ v _=>cR (λ _=>Ok.ret trivial) (λ _=>cS trivial)
theorem Az6 {b:Aa} (h:Av b) {p:Ab} (hp:Ax b p) (y:A2) {n:Nat} (hn:n<b.An.toNat):Ok (Ajf b y p (n:Int)) λ _=>True:=by
 obtain⟨l1,_⟩:=Vd h hp hn
 obtain⟨r1,_⟩:=Nd h hp hn
 have hl:=vS h hp hn
 unfold Ajf
 rw [l1,r1,hl]
 refine (de (λ _=>dg rfl) λ _=>trivial).bind (P:=λ _=>True) λ _ _=>?_
 refine (de (λ _=>dg rfl) λ _=>trivial).bind (P:=λ _=>True) λ _ _=>?_
 refine (de (λ _=>dg rfl) λ _=>trivial).bind (P:=λ _=>True) λ _ _=>c9 trivial
theorem Awi {b:Aa} (h:Av b) (p:Ab) (f:Nat):(isl b p f).An.length<=1000/\(isl b p f).Ac.length<=1000:=by
 have h1:=h.buses
 have h2:=h.sol
 have h3:(isl b p f).An.length<=b.An.toNat:=C9 _ _
 have h4:(isl b p f).Ac.length<=b.Ac.length:=C9 _ _
 omega
theorem Awn {b:Aa} (h:Av b) {p:Ab} (hp:Ax b p) (f:Nat) {i:Int} (h0:0<=i) (h1:i<b.Ac.length):Ok (Ai6 b p (isl b p f) i) λ _=>True:=by
 have hbr:=hp.brk.len
 have hns:=hp.nso
 obtain⟨w1,w2⟩:=Awi h p f
 obtain⟨j,x,e,hx,_,_,hj⟩:=Ld h h0 h1
 unfold Ai6
 rw [J8 h,e]
 simp only [ac]
 rw [Bj hx]
 simp only [ac]
 simp only [Et (show p.Ao.length<=1000 by omega),ac]
 refine (de (λ _=>dg rfl) λ _=>trivial).bind (P:=λ _=>True) λ _ _=>?_
 refine (de (λ _=>dg rfl) λ _=>trivial).bind (P:=λ _=>True) λ _ _=>?_
 refine (de (λ _=>dg (Dm _ _ (by omega))) λ _=>trivial).bind (P:=λ _=>True) λ _ _=>?_
 refine (de (λ _=>dg (Dm _ _ (by omega))) λ _=>trivial).bind (P:=λ _=>True) λ _ _=>?_
 refine (de (λ _=>db h0 (by omega)) λ _=>trivial).bind (P:=λ _=>True) λ _ _=>c9 trivial
theorem Azt {b:Aa} (h:Av b) {p:Ab} (hp:Ax b p) {n:Nat} (hn:n<b.An.toNat):Ok (Aje b p (n:Int)) λ v=>v.2=true->0<=v.1/\v.1<b.Ac.length:=by
 have hns:=hp.nso
 have hsl:=h.sol
 unfold Aje
 rw [Ax4 h hp hn]
 simp only [ac]
 refine cR (λ _=>c9 λ hh=>by cases hh) (λ _=>?_)
 refine Ok.andThen (A:=λ _=>True) (B:=λ v:Int×Bool=>v.2=true->0<=v.1/\v.1<b.Ac.length) ?_ (λ _ _=>c9 λ hh=>by cases hh) (λ v hv=>c9 hv)
 refine cT (I:=λ _ _=>True) trivial (λ j x s hx _=>?_) (λ _ _=>trivial)
 unfold zG
 refine Ok.inner (A:=λ _=>True) (B:=λ v:Int×Bool=>v.2=true->0<=v.1/\v.1<b.Ac.length) ?_ (λ _ _=>cS trivial) (λ v hv=>Ok.ret hv)
 refine cT (I:=λ _ _=>True) trivial (λ k a s ha _=>?_) (λ _ _=>trivial)
 have hk:k<p.Ac.length:=(aa.1 ha).1
 unfold zF
 rw [Cv (by omega)]
 refine (de (λ _=>Awn h hp _ (by omega) (by omega)) λ _=>trivial).bind (P:=λ _=>True) λ _ _=>?_
 refine cR (λ _=>Ok.ret λ _=>?_) (λ _=>cS trivial)
 dsimp only;omega
theorem Ap6 {b:Aa} (h:Av b) {p:Ab} (hp:Ax b p) (n:Int) {i:Int} (h0:0<=i) (h1:i<b.Ac.length):Ok (Um b p n i) λ v=>v.1.length<=2:=by
 have hns:=hp.nso
 unfold Um
 refine (cV h0 (by omega)).bind λ x _=>?_
 refine cR (λ _=>c9 (by simp)) (λ _=>cR (λ _=>?_) (λ _=>c9 (by simp)))
 refine (Nk h hp n).bind λ v _=>?_
 unfold yX
 rw [Dj h hp,Mp h hp,J8 h]
 exact c9 (by simp)
theorem Aef {T o:Int} (ho:-1<=o/\o<=T) (hT:0<=T) (v:Bool):-1<=Im o v T/\Im o v T<=T:=by
 unfold Im
 cases v with
 | false=>simp only [Bool.not_false,cond_true];omega
 | true=>
  simp only [bj,cond_false]
  cases hq:(o == -1) with
  | true=>simp only [cond_true];omega
  | false=>simp only [cond_false];exact ho
theorem Arm {b:Aa} (h:Av b) {y:A2} (hy:E_ y) {p:Ab} (hp:Ax b p) {n:Nat} (hn:n<b.An.toNat) {T:Int} (hT:0<=T/\T<=2147483648) {r:Aw} (hr:Eo T r) :
  Ok (Us b y p (n:Int) T r) λ z=>Eo T z.1/\z.2.1.length<=2/\(y.Delay=600->T<=500->z.2.1=[]):=by
 obtain⟨hr1,hr2⟩:=hr
 have hbu:=h.buses
 unfold Us
 rw [Dj h hp]
 simp only [ac]
 refine cR (λ hc=>by simp at hc) (λ _=>cR (λ hc=>?_) (λ _=>cR (λ hc=>?_) (λ _=>?_)))
 ·exfalso
  simp only [Ag1,We hy,Kr,bj,bh,aO,dA,bo,Bool.and_eq_false_iff,dC] at hc
  omega
 ·exfalso
  simp only [Ag0,aO,dA] at hc
  omega
 refine (A1e h hp y hn).bind λ v6 _=>(Az6 h hp y hn).bind λ v8 _=>(Azt h hp hn).bind λ v10 h10=>?_
 have s1:=Aef hr1 hT.1 v8
 have s2:=Aef hr2 hT.1 v6.2
 refine cR (λ hc=>?_) (λ hc=>?_)
 ·simp only [Agz,ae,dA] at hc
  obtain⟨⟨c1,c2⟩,c3⟩:=hc
  have hin:=h10 c1
  refine (Ap6 h hp _ hin.1 hin.2).bind λ v13 h13=>?_
  refine Ok.andThen (A:=λ s=>-1<=s/\s<=T) (B:=λ (_:Unit)=>False) ?_ (λ s hs=>c9 ⟨⟨hs,s2⟩,h13,λ hd ht=>?_⟩) (λ _ h=>h.elim)
  ·unfold Ur
   refine cR (λ _=>d9 (by omega)) (λ _=>d9 s1)
  ·exfalso
   rw [A9 (by omega)] at c3
   omega
 ·refine cR (λ hc=>?_) (λ _=>c9 ⟨⟨s1,s2⟩,by simp,λ _ _=>rfl⟩)
  rw [J8 h]
  simp only [ac]
  refine c9 ⟨⟨s1,by dsimp only;omega⟩,by simp,λ hd ht=>?_⟩
  exfalso
  simp only [Agy,ae,dA] at hc
  have c3:=hc.2
  rw [A9 (by omega)] at c3
  omega
def Bm (b:Aa) (T:Int) (p:Ab) (l:List Am):Ab:=l.foldl (λ q a=>doP b q T a) p
def Cb (b:Aa) (T:Int):Ab->List Am->List A6
 | _,[]=>[]
 | p,a::l=>doE b p T a++Cb b T (doP b p T a) l
def C8 (b:Aa) (T:Int):Ab->List Am->List Ab
 | _,[]=>[]
 | p,a::l=>doS b p T a++C8 b T (doP b p T a) l
theorem Fr {b:Aa} (h:Av b) (T:Int):∀ (l:List Am) {p:Ab},Ax b p->Ax b (Bm b T p l)
 | [],_,hp=>hp
 | a::l,_,hp=>Fr h T l (jE h hp T a)
theorem Xe (b:Aa) (T:Int) (p:Ab) (l m:List Am):Bm b T p (l++m)=Bm b T (Bm b T p l) m:=by unfold Bm;rw [aX]
theorem Ps (b:Aa) (T:Int):∀ (l m:List Am) (p:Ab),Cb b T p (l++m)=Cb b T p l++Cb b T (Bm b T p l) m
 | [],_,_=>rfl
 | a::l,m,p=>by
  show doE b p T a++Cb b T (doP b p T a) (l++m)=doE b p T a++Cb b T (doP b p T a) l++Cb b T (Bm b T (doP b p T a) l) m
  rw [Ps b T l m,aJ]
theorem Pr (b:Aa) (T:Int):∀ (l m:List Am) (p:Ab),C8 b T p (l++m)=C8 b T p l++C8 b T (Bm b T p l) m
 | [],_,_=>rfl
 | a::l,m,p=>by
  show doS b p T a++C8 b T (doP b p T a) (l++m)=doS b p T a++C8 b T (doP b p T a) l++C8 b T (Bm b T (doP b p T a) l) m
  rw [Pr b T l m,aJ]
theorem A0f {b:Aa} (h:Av b) {p:Ab} (hp:Ax b p) (T:Int) (a:Am):(doE b p T a).length<=10001:=by
 unfold doE
 split
 ·rename_i he
  have:=(I5 h (S9 h hp he).1).2.2
  simp;omega
 ·simp
theorem A0e {b:Aa} (h:Av b) {p:Ab} (hp:Ax b p) (T:Int) (a:Am):(doS b p T a).length<=10002:=by
 unfold doS
 split
 ·rename_i he
  have:=(I5 h (S9 h hp he).1).2.2
  split <;> simp [Kh] <;> omega
 ·simp
theorem Jn {b:Aa} (h:Av b) (T:Int):∀ (l:List Am) {p:Ab},Ax b p->(Cb b T p l).length<=10001*l.length
 | [],_,_=>by simp [Cb]
 | a::l,p,hp=>by
  have h1:=A0f h hp T a
  have h2:=Jn h T l (jE h hp T a)
  simp only [Cb,aA,aP]
  omega
theorem L5 {b:Aa} (h:Av b) (T:Int):∀ (l:List Am) {p:Ab},Ax b p->(C8 b T p l).length<=10002*l.length
 | [],_,_=>by simp [C8]
 | a::l,p,hp=>by
  have h1:=A0e h hp T a
  have h2:=L5 h T l (jE h hp T a)
  simp only [C8,aA,aP]
  omega
abbrev Avf (b:Aa) (T:Int) (P:Ab) (ros:List Aw) (evs ev:List A6) (st:List Ab):=
 (T,b.An,b.Ad,b.Ac,b.Ae,b.Phase,b.Ap,P.Ag,P.Ac,P.Aq,P.Ao,ros,evs,ev,st)
theorem Ak6 {b:Aa} (h:Av b) {T:Int} {P:Ab} (hp:Ax b P) (ros:List Aw) (evs:List A6) {ev:List A6} {st:List Ab} {l:List Am}
  (h1:ev.length+10001*l.length<=1000000) (h2:st.length+10002*l.length<=1000000) :
  Ok (foldI Qw l 0 (Avf b T P ros evs ev st)) (Dd (λ s=>s=Avf b T (Bm b T P l) ros evs (ev++Cb b T P l) (st++C8 b T P l)) λ (_:Unit)=>False):=by
 refine cT (I:=λ j s=>s=Avf b T (Bm b T P (l.take j)) ros evs (ev++Cb b T P (l.take j)) (st++C8 b T P (l.take j))) ?_ (λ j a s ha hs=>?_) λ s hs=>?_
 ·simp [Bm,Cb,C8]
 ·have hj:j<l.length:=(aa.1 ha).1
  have hq:=Fr h T (l.take j) hp
  have e1:=Jn h T (l.take j) hp
  have e2:=L5 h T (l.take j) hp
  rw [aU] at e1 e2
  subst hs
  unfold Qw
  have hd:=A5z h (T:=T) (ros:=ros) (evs:=evs) (ev:=ev++Cb b T P (l.take j)) (sts:=st++C8 b T P (l.take j)) hq (by simp;omega) (by simp;omega) a
  refine Ok.bind (P:=λ y=>y=_) (cY hd rfl) λ y hy=>cS ?_
  subst hy
  have e3:Bm b T P (l.take (j+1))=doP b (Bm b T P (l.take j)) T a:=by rw [Bi ha,Xe];rfl
  have e4:Cb b T P (l.take (j+1))=Cb b T P (l.take j)++doE b (Bm b T P (l.take j)) T a:=by rw [Bi ha,Ps];simp [Cb]
  have e5:C8 b T P (l.take (j+1))=C8 b T P (l.take j)++doS b (Bm b T P (l.take j)) T a:=by rw [Bi ha,Pr];simp [C8]
  rw [e3,e4,e5,←aJ,←aJ]
 ·rw [aG] at hs;exact hs
theorem Avl {b:Aa} (h:Av b) {y:A2} (hy:E_ y) {T:Int} (hT:0<=T/\T<=2147483648) {P:Ab} (hp:Ax b P) {ros:List Aw} (hr:ros.length=b.An.toNat/\∀ x,x∈ros->Eo T x)
  (evs:List A6) {ev:List A6} {st:List Ab} (h1:ev.length<=500000) (h2:st.length<=500000) :
  Ok (qD ⟨⟨T,P,ros,evs⟩,b,ev,st⟩ y) λ r=>∃ (l:List Am) (ros':List Aw),r=⟨⟨T,Bm b T P l,ros',evs⟩,b,ev++Cb b T P l,st++C8 b T P l⟩ /\
   l.length<=2*(Bk b P).length/\(ros'.length=b.An.toNat/\∀ x,x∈ros'->Eo T x)/\(y.Delay=600->T<=500->l=[]):=by
 have hbu:=h.buses
 have hil:=Ho b P
 unfold qD
 have e0:=Az5 hbu
 have e1:F67 b P=some (Bk b P):=Hp h hp
 refine Ok.bind (P:=λ v=>v=List.replicate b.An.toNat Jd) (cY e0 rfl) λ v hv=>?_
 subst hv
 refine Ok.bind (P:=λ v=>v=Bk b P) (cY e1 rfl) λ v hv=>?_
 subst hv
 have hidle:∀ x,x∈List.replicate b.An.toNat Jd->Eo T x:=λ x hx=>by
  rw [(List.mem_replicate.1 hx).2]
  exact⟨by simp [Jd];omega,by simp [Jd];omega⟩
 refine Ok.andThen (A:=λ s=>∃ (l:List Am) (ros':List Aw),s=(T,b.An,b.Ad,b.Ac,b.Ae,b.Phase,b.Ap,ros',(Bm b T P l).Ag,(Bm b T P l).Ac,(Bm b T P l).Aq,(Bm b T P l).Ao,ros,evs,ev++Cb b T P l,st++C8 b T P l) /\
   l.length<=2*(Bk b P).length/\(ros'.length=b.An.toNat/\∀ x,x∈ros'->Eo T x)/\(y.Delay=600->T<=500->l=[])) (B:=λ (_:Unit)=>False) ?_ (λ s hs=>?_) (λ _ h=>h.elim)
 ·refine cT (I:=λ j s=>∃ (l:List Am) (ros':List Aw),s=(T,b.An,b.Ad,b.Ac,b.Ae,b.Phase,b.Ap,ros',(Bm b T P l).Ag,(Bm b T P l).Ac,(Bm b T P l).Aq,(Bm b T P l).Ao,ros,evs,ev++Cb b T P l,st++C8 b T P l) /\
   l.length<=2*j/\(ros'.length=b.An.toNat/\∀ x,x∈ros'->Eo T x)/\(y.Delay=600->T<=500->l=[])) ⟨[],_,by simp [Cb,C8,Bm],by simp,⟨by simp,hidle⟩,λ _ _=>rfl⟩ (λ j x s hx hI=>?_) λ s hI=>hI
  obtain⟨l,ros',rfl,g1,⟨g2,g3⟩,g4⟩:=hI
  have hj:j<(Bk b P).length:=(aa.1 hx).1
  have hin:=Afx h (af hx)
  obtain⟨b0,b1⟩:=X1 hin
  have hq:=Fr h T l hp
  have l1:=Jn h T l hp
  have l2:=L5 h T l hp
  have stay:∃ (l':List Am) (ros2:List Aw),(T,b.An,b.Ad,b.Ac,b.Ae,b.Phase,b.Ap,ros',(Bm b T P l).Ag,(Bm b T P l).Ac,(Bm b T P l).Aq,(Bm b T P l).Ao,ros,evs,ev++Cb b T P l,st++C8 b T P l)=(T,b.An,b.Ad,b.Ac,b.Ae,b.Phase,b.Ap,ros2,(Bm b T P l').Ag,(Bm b T P l').Ac,(Bm b T P l').Aq,(Bm b T P l').Ao,ros,evs,ev++Cb b T P l',st++C8 b T P l') /\
   l'.length<=2*(j+1)/\(ros2.length=b.An.toNat/\∀ x,x∈ros2->Eo T x)/\(y.Delay=600->T<=500->l'=[]):=⟨l,ros',rfl,by omega,⟨g2,g3⟩,g4⟩
  unfold Yi
  rw [b0]
  simp only [ac]
  have hl:=vS h hq b1
  refine Ok.bind (P:=λ _=>True) (de (λ _=>dg hl) λ _=>trivial) λ v _=>?_
  refine cR (λ _=>cS stay) (λ _=>?_)
  refine Ok.bind (P:=λ r=>Eo T r) ((cV (l:=ros) (by omega) (by omega)).mono λ r hr'=>hr.2 r (af hr')) λ r hr'=>?_
  refine Ok.bind (P:=λ z=>Eo T z.1/\z.2.1.length<=2/\(y.Delay=600->T<=500->z.2.1=[])) (Arm h hy hq b1 hT hr') λ z hz=>?_
  refine (cV (l:=ros') (by omega) (by omega)).bind λ _ _=>(d4 (l:=ros') (x:=z.1) (by omega) (by omega)).bind λ w hw=>?_
  subst hw
  refine Ok.inner (Ak6 h hq ros evs (ev:=ev++Cb b T P l) (st:=st++C8 b T P l) (l:=z.2.1) (by simp;omega) (by simp;omega)) (λ s hs=>?_) (λ _ h=>h.elim)
  subst hs
  refine cS ⟨l++z.2.1,ros'.set (Qg x:Int).toNat z.1,?_,by simp;omega,⟨by rw [bL];exact g2,λ r hr2=>?_⟩,λ hd ht=>by rw [g4 hd ht,hz.2.2 hd ht];rfl⟩
  ·rw [Xe,Ps,Pr,aJ,aJ]
  ·rcases cm hr2 with hr2 | hr2
   ·exact g3 r hr2
   ·rw [hr2];exact hz.1
 ·obtain⟨l,ros',rfl,g⟩:=hs
  exact c9 ⟨l,ros',rfl,g⟩
def wtP (b:Aa) (P:Ab) (T:Int):Ab:=(Bx b P T ⟨7,0,0⟩).1
theorem Wp {b:Aa} (h:Av b) {P:Ab} (hp:Ax b P) {T:Int} (hT:0<=T/\T<=2147483648):F78 b P T ⟨7,0,0⟩=some (wtP b P T,0)/\Ax b (wtP b P T)/\∃ w,Kq ⟨b,P,T⟩=some w/\w.Au=wtP b P T:=by
 obtain⟨w,hw,hwo⟩:=Aj9 h hp T
 have key:F78 b P T ⟨7,0,0⟩=some (w.Au,0):=by
  refine d7 ?_
  unfold F78
  rw [Dj h hp,A1f,Du h hp]
  simp only [ac]
  refine cR (λ hc=>by simp at hc) (λ _=>cR (λ hc=>?_) (λ _=>cR (λ hc=>by simp at hc) (λ _=>?_)))
  ·simp [Aoa] at hc;omega
  ·have:Mz ⟨b,P,T⟩ ⟨7,0,0⟩=some (0,w):=by
    unfold Mz
    rw [hw];rfl
   rw [this]
   exact c9 rfl
 have e:wtP b P T=w.Au:=by unfold wtP Bx;rw [key];rfl
 rw [e]
 exact⟨key,hwo,w,hw,rfl⟩
def Xu (l:List A6):List A6:=l.drop (l.length-200)
theorem Aza {b:Aa} (h:Av b) {y:A2} (hy:E_ y) {p:As} (hp:Fz b y p) (hT:p.Time<=1000) (he:p.Bc.length<=200) {l:List Am} (hl:l.length<=10) :
  Ok (F53 b y p l) λ z=>z.2=0/\∃ (m:List Am) (ros':List Aw),m.length<=2*b.An.toNat/\(ros'.length=b.An.toNat/\∀ x,x∈ros'->Eo p.Time x)/\(y.Delay=600->p.Time<=500->m=[]) /\
   z.1=⟨⟨p.Time+1,wtP b (Bm b p.Time p.Power (l++m)) p.Time,ros',Xu (p.Bc++Cb b p.Time p.Power (l++m))⟩,b,Cb b p.Time p.Power (l++m),[p.Power]++C8 b p.Time p.Power (l++m)++[wtP b (Bm b p.Time p.Power (l++m)) p.Time]⟩:=by
 have hbu:=h.buses
 have hti:=hp.time
 have hst:=hp.st
 have hnr:=hp.nro
 unfold F53
 rw [Q9 h hy hp]
 simp only [ac]
 refine cR (λ hc=>by simp at hc) (λ _=>cR (λ hc=>?_) (λ _=>cR (λ hc=>?_) (λ _=>?_)))
 ·simp only [dA] at hc;omega
 ·simp only [dD] at hc;omega
 rw [Axh h hst (by omega) (by omega)]
 simp only [ac]
 rw [Azx h hst (by simp)]
 simp only [ac]
 refine Ok.andThen (Ak6 h hst p.A7 p.Bc (ev:=[]) (st:=[]++[p.Power]) (l:=l) (by simp;omega) (by simp;omega)) (λ s hs=>?_) (λ _ h=>h.elim)
 subst hs
 have hq:=Fr h p.Time l hst
 have l1:=Jn h p.Time l hst
 have l2:=L5 h p.Time l hst
 refine Ok.bind (Avl h hy hti hq ⟨hnr,hp.ros⟩ p.Bc (ev:=[]++Cb b p.Time p.Power l) (st:=[]++[p.Power]++C8 b p.Time p.Power l) (by simp;omega) (by simp;omega)) λ r hr=>?_
 obtain⟨m,ros',rfl,g1,g2,g3⟩:=hr
 have hil:=Ho b (Bm b p.Time p.Power l)
 have hq2:=Fr h p.Time m hq
 have l3:=Jn h p.Time m hq
 have l4:=L5 h p.Time m hq
 obtain⟨w1,w2,_⟩:=Wp h hq2 hti
 refine Ok.bind (P:=λ v=>v=(wtP b (Bm b p.Time (Bm b p.Time p.Power l) m) p.Time,(0:Int))) (cY w1 rfl) λ v hv=>?_
 subst hv
 have k3:=Awd h (r:=⟨⟨p.Time,wtP b (Bm b p.Time (Bm b p.Time p.Power l) m) p.Time,ros',p.Bc⟩,b,[]++Cb b p.Time p.Power l++Cb b p.Time (Bm b p.Time p.Power l) m,[]++[p.Power]++C8 b p.Time p.Power l++C8 b p.Time (Bm b p.Time p.Power l) m⟩) (p:=wtP b (Bm b p.Time (Bm b p.Time p.Power l) m) p.Time) w2
 refine Ok.bind (P:=λ v=>v=_) (cY (k3 (by simp;omega)) rfl) λ v hv=>?_
 subst hv
 have eE:[]++Cb b p.Time p.Power l++Cb b p.Time (Bm b p.Time p.Power l) m=Cb b p.Time p.Power (l++m):=by rw [Ps];rfl
 have eS:[]++[p.Power]++C8 b p.Time p.Power l++C8 b p.Time (Bm b p.Time p.Power l) m=[p.Power]++C8 b p.Time p.Power (l++m):=by rw [Pr];simp
 rw [eE,eS]
 have eP:Bm b p.Time (Bm b p.Time p.Power l) m=Bm b p.Time p.Power (l++m):=(Xe _ _ _ _ _).symm
 have l5:=Jn h p.Time (l++m) hst
 simp only [aA] at l5
 refine (cW (l:=p.Bc) (m:=Cb b p.Time p.Power (l++m)) (by omega)).bind λ u hu=>?_
 subst hu
 have hlen:((p.Bc++Cb b p.Time p.Power (l++m)).length:Int)<=10000000:=by simp only [aA];omega
 have ew:w64 (((p.Bc++Cb b p.Time p.Power (l++m)).length:Int)-200)=((p.Bc++Cb b p.Time p.Power (l++m)).length:Int)-200:=A9 (by omega)
 rw [ew]
 have en:(max 0 (((p.Bc++Cb b p.Time p.Power (l++m)).length:Int)-200)).toNat=(p.Bc++Cb b p.Time p.Power (l++m)).length-200:=by omega
 refine Ok.bind (P:=λ v=>v=Xu (p.Bc++Cb b p.Time p.Power (l++m))) ((Ok.cutI (by omega) (by omega) (by omega)).mono λ v hv=>?_) λ v hv=>?_
 ·rw [hv,aF,aG,en];rfl
 rw [hv]
 unfold F79
 have hcl:(Xu (p.Bc++Cb b p.Time p.Power (l++m))).length<=10000000:=by
  unfold Xu
  rw [bT];omega
 rw [K1 (by omega)]
 simp only [ac]
 rw [A9 (n:=p.Time+1) (by omega),eP]
 exact c9 ⟨rfl,m,ros',by omega,g2,g3,by rw [aJ]⟩
theorem Aze {b:Aa} (h:Av b) {y:A2} (hy:E_ y) {p:As} (hp:Fz b y p) (hT:p.Time<=1000) (he:p.Bc.length<=200) {l:List Am} (hl:l.length<=10) :
  Ok (F31 b y p l) λ z=>z.2.2=0/\∃ (m:List Am) (ros':List Aw),m.length<=2*b.An.toNat/\(ros'.length=b.An.toNat/\∀ x,x∈ros'->Eo p.Time x)/\(y.Delay=600->p.Time<=500->m=[]) /\
   z.1=⟨p.Time+1,wtP b (Bm b p.Time p.Power (l++m)) p.Time,ros',Xu (p.Bc++Cb b p.Time p.Power (l++m))⟩/\z.2.1=Cb b p.Time p.Power (l++m):=by
 unfold F31
 refine (Aza h hy hp hT he hl).bind λ r hr=>?_
 obtain⟨h1,m,ros',g1,g2,g3,g4⟩:=hr
 refine cR (λ hc=>by rw [h1] at hc;simp at hc) (λ _=>c9 ⟨rfl,m,ros',g1,g2,g3,?_⟩)
 rw [g4]
 exact⟨rfl,rfl⟩
def cl (C:List Bool):Nat:=C.count true
theorem A4p {b:Aa} (h:Av b) {s:Ah} (hs:Bq s) {k:Int} (hk:0<=k/\k<=100):Ok (qP s b k) λ y=>(y.1.length:Int)<=k/\Bq y.2:=by
 unfold qP
 have e:w64 (k+1)=k+1:=A9 (by omega)
 rw [e]
 refine (D_ hs (k+1) (by omega) (by omega)).bind λ y hy=>?_
 refine Ok.andThen (A:=λ s=>(s.2.2.2.length:Int)<=k/\Bq ⟨s.2.1,s.2.2.1⟩) (B:=λ (_:Unit)=>False) ?_ (λ s hs=>c9 hs) (λ _ h=>h.elim)
 refine cU (λ s=>(0<=s.1/\s.1<=200/\s.1+(s.2.2.2.length:Int)<=k)/\Bq ⟨s.2.1,s.2.2.1⟩) (λ s=>s.1.toNat) _ _ ?_ ?_ ?_
 ·exact⟨⟨by dsimp only;omega,by dsimp only;omega,by simp;omega⟩,hy.1⟩
 ·dsimp only;omega
 ·rintro⟨i,L,a,l⟩ ⟨⟨g1,g2,g3⟩,g4⟩
  dsimp only at g1 g2 g3 g4
  unfold Yp
  dsimp only
  refine cR (λ hq=>?_) (λ _=>d8 ⟨by dsimp only;omega,g4⟩)
  simp only [dA] at hq
  have e1:w64 (i-1)=i-1:=A9 (by omega)
  rw [e1]
  refine (A4q h g4).bind λ u hu=>(cW (by simp;omega)).bind λ w hw=>cS ⟨⟨⟨by dsimp only;omega,by dsimp only;omega,by rw [hw];simp;omega⟩,hu⟩,by dsimp only;omega⟩
theorem Aeg {α:Type} {l:List α} {x:α} {j:Nat} (h:l[j]? = some x):l.set j x=l:=by
 obtain⟨hj,e⟩:=aa.1 h
 rw [←e];exact List.set_getElem_self hj
def Di (x:Af):Af:=if x.State=2 then ⟨x.State,x.Since,x.Ap,Gu (w64 (x.Phase+w64 (36*w64 (x.Ap-5000))))⟩ else x
theorem Akh {α:Type} {l m:List α} {x:α} {v:α} {j:Nat} (h:m[j]? = some x) (hl:l.length=m.length):(l.take j++m.drop j).set j v=l.take j++v::m.drop (j+1):=by
 have hj:=(aa.1 h).1
 rw [List.set_append_right _ _ (by simp;omega),cO hj]
 have:j-(l.take j).length=0:=by simp;omega
 rw [this];rfl
theorem A1d {α:Type} (f:α->α) {l:List α} {x:α} {j:Nat} (h:l[j]? = some x):(((l.map f).take j++l.drop j)[j]? = some x)/\(l.map f).take (j+1)++l.drop (j+1)=((l.map f).take j++l.drop j).set j (f x):=by
 have hj:=(aa.1 h).1
 constructor
 ·rw [aK (by simp;omega)]
  have:j-((l.map f).take j).length=0:=by simp;omega
  rw [this,aq];exact h
 ·rw [Akh h (by simp),Bi (x:=f x) (by simp [h]),aJ];rfl
theorem Ay7 {b:Aa} (h:Av b) {p:Ab} (hp:Ax b p):Yq b p=some (⟨p.Ag,p.Ac.map Di,p.Aq,p.Ao⟩,0):=by
 have hs:=h.sol
 have hn:=hp.nso
 refine d7 ?_
 unfold Yq
 rw [Dj h hp,Du h hp]
 simp only [ac]
 refine cR (λ hc=>by simp at hc) (λ _=>?_)
 refine Ok.andThen (A:=λ s=>s=p.Ac.map Di) (B:=λ (_:Unit)=>False) ?_ (λ s hs=>c9 (by rw [hs])) (λ _ h=>h.elim)
 refine cT (I:=λ j s=>s=(p.Ac.map Di).take j++p.Ac.drop j) rfl (λ j x s hx hs=>?_) λ s hs=>?_
 ·obtain⟨m1,m2⟩:=A1d Di hx
  have hj:=(aa.1 hx).1
  subst hs
  unfold V2
  rw [Cv (by omega),m2]
  refine cR (λ hc=>?_) (λ hc=>cS ?_)
  ·rw [Bj m1]
   simp only [ac]
   rw [L4 (by simp;omega)]
   refine cS ?_
   unfold Di
   rw [if_pos (by simpa using hc)]
  ·unfold Di
   rw [if_neg (by simpa using hc)]
   exact (Aeg m1).symm
 ·rw [hs,List.drop_length,aW,bz (by simp)]
def vU (b:Aa) (C:List Bool) (i:Nat):Bool:=!C.getD (Ia b (i:Int)).toNat false
def F2 (b:Aa) (C:List Bool) (t:Int) (x:Af) (i:Nat):Af:=
 if (x.State=1/\vU b C i=true)/\w64 (x.Since+(b.Ac.getD i default).Start)<=w64 (t+1) then ⟨2,x.Since,x.Ap,x.Phase⟩ else x
def J7 (b:Aa) (C:List Bool) (t:Int) (l:List Af) (j:Nat):List Af:=((l.zipIdx.map λ z=>F2 b C t z.1 z.2).take j)++l.drop j
theorem Am0 {b:Aa} {C:List Bool} {t:Int} {l:List Af} {j:Nat} {x:Af} (h:l[j]? = some x):(J7 b C t l j)[j]? = some x/\J7 b C t l (j+1)=(J7 b C t l j).set j (F2 b C t x j)/\(J7 b C t l j).length=l.length:=by
 have hj:=(aa.1 h).1
 unfold J7
 refine⟨?_,?_,by simp;omega⟩
 ·rw [aK (by simp;omega)]
  have:j-((l.zipIdx.map λ z=>F2 b C t z.1 z.2).take j).length=0:=by simp;omega
  rw [this,aq];exact h
 ·rw [Akh h (by simp),Bi (x:=F2 b C t x j) (by simp [h]),aJ];rfl
def wtS (b:Aa) (p:Ab) (t:Int):Ab:=⟨p.Ag,J7 b p.Ag t (p.Ac.map Di) (p.Ac.map Di).length,p.Aq,p.Ao⟩
theorem A6a {b:Aa} {i:Nat} (h:i<b.Ac.length):b.Ac[i]? = some (b.Ac.getD i default):=by
 rw [ag h];simp [List.getD,List.getElem?_eq_getElem h]
theorem Azp {b:Aa} (h:Av b) {p:Ab} (hc:p.Ag.length=b.Ad.length) (t:Int) {i:Nat} (hi:i<b.Ac.length):Jg ⟨b,p,t⟩ (i:Int)=some (vU b p.Ag i):=by
 obtain⟨j,x,e,hx,_⟩:=Ld h (i:=(i:Int)) (by omega) (by omega)
 have hj:=(aa.1 hx).1
 unfold Jg vU
 rw [jQ h,e,aF]
 simp only [ac]
 have hg:p.Ag[j]? = some (p.Ag.getD j false):=by
  rw [ag (by omega)];simp [List.getD,List.getElem?_eq_getElem (show j<p.Ag.length by omega)]
 rw [Bj hg];rfl
theorem Ay4 {b:Aa} (h:Av b) {p:Ab} (hp:Ax b p) (t:Int):Kq ⟨b,p,t⟩=some ⟨b,wtS b p t,t⟩:=by
 have hs:=h.sol
 have hn:=hp.nso
 refine d7 ?_
 unfold Kq
 rw [Ay7 h hp]
 simp only [ac]
 refine Ok.andThen (A:=λ s=>s.2=J7 b p.Ag t (p.Ac.map Di) (p.Ac.map Di).length) (B:=λ (_:Unit)=>False) ?_ (λ s hs=>c9 (by rw [hs];rfl)) (λ _ h=>h.elim)
 refine cU (λ s=>∃ j:Nat,s.1=(j:Int)/\j<=p.Ac.length/\s.2=J7 b p.Ag t (p.Ac.map Di) j) (λ s=>(100-s.1).toNat) _ _ ⟨0,rfl,by omega,rfl⟩ (by dsimp only;omega) ?_
 rintro⟨z,s⟩ ⟨j,hz,hj,hsr⟩
 dsimp only at hz hsr
 subst hz
 unfold Nx X0
 dsimp only
 refine cR (λ hq=>?_) (λ hq=>d8 ?_)
 ·simp only [dA,au] at hq
  have hlt:j<p.Ac.length:=by omega
  obtain⟨x,hx⟩:∃ x,(p.Ac.map Di)[j]? = some x:=⟨_,ag (by simp;omega)⟩
  obtain⟨r1,r2,r3⟩:=Am0 (b:=b) (C:=p.Ag) (t:=t) hx
  rw [←hsr] at r1 r2 r3
  simp only [au] at r3
  rw [Bj r1]
  simp only [ac]
  have ho:=Azp h (p:=⟨p.Ag,s,p.Aq,p.Ao⟩) hp.ncl t (i:=j) (by omega)
  have e1:w64 ((j:Int)+1)=((j+1:Nat):Int):=by rw [A9 (by omega)];omega
  rw [e1]
  have nxt:∀ v,v=F2 b p.Ag t x j->(∃ k:Nat,((j+1:Nat):Int)=(k:Int)/\k<=p.Ac.length/\s.set j v=J7 b p.Ag t (p.Ac.map Di) k):=λ v hv=>⟨j+1,rfl,by omega,by rw [hv,r2]⟩
  have stay:x=F2 b p.Ag t x j->s=s.set j (F2 b p.Ag t x j):=λ hv=>by
   rw [←hv];exact (Aeg r1).symm
  cases hs1:(x.State==1) with
  | false=>
   have hno:x=F2 b p.Ag t x j:=by
    unfold F2;rw [if_neg (λ hh=>by simp [hh.1.1] at hs1)]
   refine Ok.bind (P:=λ _=>True) (de (λ hg=>absurd hg.1 (by simp)) λ _=>trivial) λ _ _=>?_
   refine Ok.bind (P:=λ _=>True) (de (λ hg=>absurd hg.1 (by simp)) λ _=>trivial) λ _ _=>?_
   refine cR (λ hc=>by simp [Ms,hs1] at hc) (λ _=>cS ⟨?_,by dsimp only;omega⟩)
   dsimp only
   rw [stay hno]
   exact nxt _ rfl
  | true=>
   refine Ok.bind (P:=λ v=>v=vU b p.Ag j) (cY ho rfl) λ v hv=>?_
   subst hv
   cases ho1:vU b p.Ag j with
   | false=>
    have hno:x=F2 b p.Ag t x j:=by
     unfold F2;rw [if_neg (λ hh=>by simp [hh.1.2] at ho1)]
    refine Ok.bind (P:=λ _=>True) (de (λ hg=>absurd hg.1 (by simp)) λ _=>trivial) λ _ _=>?_
    refine cR (λ hc=>by simp [Ms] at hc) (λ _=>cS ⟨?_,by dsimp only;omega⟩)
    dsimp only
    rw [stay hno]
    exact nxt _ rfl
   | true=>
    refine Ok.bind (P:=λ v=>v=b.Ac.getD j default) (cY (Bj (A6a (by omega))) rfl) λ v hv=>?_
    subst hv
    refine cR (λ hc=>?_) (λ hc=>cS ⟨?_,by dsimp only;omega⟩)
    ·simp only [Ms,hs1,bM,bk,dA] at hc
     rw [L4 (by omega)]
     refine cS ⟨?_,by dsimp only;omega⟩
     exact nxt _ (by unfold F2;rw [if_pos ⟨⟨by simpa using hs1,ho1⟩,hc⟩])
    ·simp only [Ms,hs1,bM,bk,dC] at hc
     have hno:x=F2 b p.Ag t x j:=by
      unfold F2;rw [if_neg (λ hh=>hc hh.2)]
     dsimp only
     rw [stay hno]
     exact nxt _ rfl
 ·simp only [dC,au] at hq
  have:j=(p.Ac.map Di).length:=by simp;omega
  dsimp only
  rw [hsr,this]
def brN (b:Aa) (i:Nat):Nat:=(Ia b (i:Int)).toNat
theorem Ag3 {b:Aa} (h:Av b) {i:Nat} (hi:i<b.Ac.length):Ia b (i:Int)=(brN b i:Int)/\brN b i<b.Ad.length/\(b.Ad.getD (brN b i) default).Kind=2/\(b.Ad.getD (brN b i) default).B=(i:Int)/\b.Ad[brN b i]? = some (b.Ad.getD (brN b i) default):=by
 obtain⟨j,x,e,hx,hk,hB,_⟩:=Ld h (i:=(i:Int)) (by omega) (by omega)
 have hj:=(aa.1 hx).1
 have:brN b i=j:=by unfold brN;omega
 rw [this,Ats hx]
 exact⟨e,hj,hk,hB,hx⟩
theorem Axa {b:Aa} (h:Av b) {i j:Nat} (hi:i<b.Ac.length) {x:Aj} (hx:b.Ad[j]? = some x) (hk:x.Kind=2) (hB:x.B=(i:Int)):j=brN b i:=by
 obtain⟨e,hlt,k2,kB,hg⟩:=Ag3 h hi
 have hm:∀ {m:Nat} {y:Aj},b.Ad[m]? = some y->y.Kind=2->y.B=(i:Int)->(y,m)∈ofZ b 2 (i:Int):=fun {m y} hy h1 h2=>aD.2 ⟨by rw [cP];exact hy,by simp [h1,h2]⟩
 have hlen:(ofZ b 2 (i:Int)).length=1:=by
  have:=Adb (λ x:Aj=>x.Kind==2&&x.B==(i:Int)) b.Ad 0
  rw [←h.one i hi]
  exact this
 have m1:=hm hx hk hB
 have m2:=hm hg k2 kB
 match hz:ofZ b 2 (i:Int),hlen,m1,m2 with
 | [v],_,m1,m2=>
  rw [bA] at m1 m2
  rw [←m2] at m1
  exact (Prod.mk.inj m1).2
theorem jI {b:Aa} (h:Av b) {p:Ab} (hp:Ax b p) {i:Nat} (hi:i<b.Ac.length):D7 b p (i:Int)=if (p.Ac.getD i default).State=2/\p.Ag.getD (brN b i) false=true then some (b.Ad.getD (brN b i) default).A else none:=by
 obtain⟨e,hlt,k2,kB,hg⟩:=Ag3 h hi
 have hn:=hp.nso
 have hz:∀ z,z∈ofZ b 2 (i:Int)->z.2=brN b i/\z.1=b.Ad.getD (brN b i) default:=λ z hz=>by
  have h1:=U7 hz
  have h2:=(aD.1 hz).2
  simp only [ae,dD] at h2
  have:=Axa h hi h1 h2.1 h2.2
  rw [this] at h1
  rw [hg] at h1
  exact⟨this,(bH h1).symm⟩
 have hin:(b.Ad.getD (brN b i) default,brN b i)∈ofZ b 2 (i:Int):=aD.2 ⟨by rw [cP];exact hg,by
  rw [ae,dD,dD];exact⟨k2,kB⟩⟩
 have hled:Ee b p 2 (i:Int)=if p.Ag.getD (brN b i) false=true then some (b.Ad.getD (brN b i) default).A else none:=by
  rw [Afs hp.ncl]
  by_cases hc:p.Ag.getD (brN b i) false=true
  ·rw [if_pos hc]
   cases hf:(ofZ b 2 (i:Int)).find? λ z=>p.Ag.getD z.2 false with
   | none=>
    rw [List.find?_eq_none] at hf
    exact absurd hc (hf _ hin)
   | some z=>
    rw [(hz z (List.mem_of_find?_eq_some hf)).2.symm];rfl
  ·rw [if_neg hc]
   cases hf:(ofZ b 2 (i:Int)).find? λ z=>p.Ag.getD z.2 false with
   | none=>rfl
   | some z=>
    have h1:=List.find?_some hf
    rw [(hz z (List.mem_of_find?_eq_some hf)).1] at h1
    exact absurd h1 hc
 unfold D7
 rw [aF,hled]
 by_cases hs:(p.Ac.getD i default).State=2
 ·rw [if_pos ⟨by omega,by omega,hs⟩]
  simp only [hs,true_and]
 ·rw [if_neg (λ hh=>hs hh.2.2),if_neg (λ hh=>hs hh.1)]
def tog (b:Aa) (p:Ab) (i j:Nat):Prop:=∃ a c:Int,D7 b p (i:Int)=some a/\D7 b p (j:Int)=some c/\(A8 b p).getD a.toNat 0=(A8 b p).getD c.toNat 0
def B1 (x y:Af):Prop:=x.Ap=y.Ap/\x.Phase=y.Phase
theorem Ay9 {b:Aa} (h:Av b) {p:Ab} {i j:Nat} (hi:i<b.Ac.length) (hj:j<b.Ac.length) (t:tog b p i j):∃ f,isl b p f∈Bk b p/\(i:Int)∈(isl b p f).Ac/\(j:Int)∈(isl b p f).Ac:=by
 obtain⟨a,c,h1,h2,h3⟩:=t
 have ha:=Mq h h1
 have hg:=G9 h p (n:=a.toNat) (by omega)
 refine⟨((A8 b p).getD a.toNat 0).toNat,?_,Jk.2 ⟨i,rfl,hi,?_⟩,Jk.2 ⟨j,rfl,hj,?_⟩⟩
 ·rw [Ge h]
  exact am.2 ⟨_,aD.2 ⟨aZ.2 (by omega),Hr h p (by omega)⟩,rfl⟩
 ·rw [h1];show some _=some _;rw [hg.2.2]
 ·rw [h2];show some ((A8 b p).getD c.toNat 0)=some _;rw [←h3,hg.2.2]
theorem Azy {b:Aa} {p:Ab} {f:Nat} {i j:Int} (hi:i∈(isl b p f).Ac) (hj:j∈(isl b p f).Ac):tog b p i.toNat j.toNat:=by
 obtain⟨k,rfl,_,e1⟩:=Jk.1 hi
 obtain⟨m,rfl,_,e2⟩:=Jk.1 hj
 rw [aF,aF]
 unfold Fc at e1 e2
 rw [Option.map_eq_some_iff] at e1 e2
 obtain⟨a,h1,h2⟩:=e1
 obtain⟨c,h3,h4⟩:=e2
 exact⟨a,c,h1,h3,by rw [h2,h4]⟩
theorem Abi {b:Aa} (h:Av b) {p:Ab}:Fh b p↔∀ i j,i<b.Ac.length->j<b.Ac.length->tog b p i j->B1 (p.Ac.getD i default) (p.Ac.getD j default):=by
 constructor
 ·intro ha i j hi hj t
  obtain⟨f,hf,h1,h2⟩:=Ay9 h hi hj t
  have:=ha _ hf _ _ h1 h2
  rw [aF,aF] at this
  exact this
 ·intro ha x hx i j hi hj
  unfold Bk at hx
  obtain⟨f,_,rfl⟩:=am.1 (aD.1 hx).1
  have b1:=Vf hi
  have b2:=Vf hj
  exact ha _ _ (by omega) (by omega) (Azy hi hj)
structure Sub (b:Aa) (q p:Ab):Prop where
 con:∀ i,i<b.Ac.length->(q.Ac.getD i default).State=2->q.Ag.getD (brN b i) false=true->(p.Ac.getD i default).State=2/\p.Ag.getD (brN b i) false=true
 tie:∀ (k:Nat) x,b.Ad[k]? = some x->x.Kind=1->q.Ag.getD k false=true->p.Ag.getD k false=true
theorem As8 {L M:C5} (h:∀ i j,Tie L i j->Tie M i j) {i j:Nat} (c:E0 L i j):E0 M i j:=by
 obtain⟨r,c⟩:=c
 induction c with
 | refl=>exact .refl M i
 | stay _ ih=>exact ih
 | step _ t ih=>exact ih.tie (h _ _ t)
theorem Apx {α:Type}:∀ {l:List α} {c:List Bool} {z:α×Bool},z∈l.zip c->∃ k:Nat,l[k]? = some z.1/\c[k]? = some z.2
 | [],_,_,h=>by simp at h
 | _::_,[],_,h=>by simp at h
 | x::l,v::c,z,h=>by
  rw [bJ,ah] at h
  rcases h with rfl | h
  ·exact⟨0,rfl,rfl⟩
  ·obtain⟨k,h1,h2⟩:=Apx h
   exact⟨k+1,h1,h2⟩
theorem Atu {α:Type}:∀ {l:List α} {c:List Bool} {k:Nat} {x:α} {v:Bool},l[k]? = some x->c[k]? = some v->(x,v)∈l.zip c
 | [],_,_,_,_,h,_=>by simp at h
 | _::_,[],_,_,_,_,h=>by simp at h
 | y::l,w::c,0,x,v,h1,h2=>by
  simp at h1 h2
  rw [bJ,←h1,←h2];exact aj
 | y::l,w::c,k+1,x,v,h1,h2=>by
  rw [bJ]
  exact ai _ (Atu (k:=k) (by simpa using h1) (by simpa using h2))
theorem Akf {b:Aa} {p:Ab} (hp:p.Ag.length=b.Ad.length) {i j:Nat}:Tie (Ch b p) i j↔∃ (k:Nat) (x:Aj),b.Ad[k]? = some x/\x.Kind=1/\p.Ag.getD k false=true/\((x.A.toNat=i/\x.B.toNat=j)\/(x.A.toNat=j/\x.B.toNat=i)):=by
 constructor
 ·rintro⟨z,hz,h1,h2,h3⟩
  obtain⟨k,g1,g2⟩:=Apx hz
  exact⟨k,z.1,g1,h1,by rw [List.getD,g2,h2];rfl,h3⟩
 ·rintro⟨k,x,h1,h2,h3,h4⟩
  have hk:=(aa.1 h1).1
  refine⟨(x,true),Atu h1 ?_,h2,rfl,h4⟩
  rw [ag (by omega)]
  simp only [List.getD,ag (show k<p.Ag.length by omega),cF] at h3
  rw [h3]
theorem Sub.conn {b:Aa} {q p:Ab} (hq:q.Ag.length=b.Ad.length) (hp:p.Ag.length=b.Ad.length) (s:Sub b q p) {i j:Nat} (c:E0 (Ch b q) i j):E0 (Ch b p) i j:=by
 refine As8 (λ i j t=>?_) c
 obtain⟨k,x,h1,h2,h3,h4⟩:=(Akf hq).1 t
 exact (Akf hp).2 ⟨k,x,h1,h2,s.tie k x h1 h2 h3,h4⟩
theorem Sub.tog {b:Aa} (h:Av b) {q p:Ab} (hq:Ax b q) (hp:Ax b p) (s:Sub b q p) {i j:Nat} (hi:i<b.Ac.length) (hj:j<b.Ac.length) (t:tog b q i j):tog b p i j:=by
 obtain⟨a,c,h1,h2,h3⟩:=t
 have ha:=Mq h h1
 have hc:=Mq h h2
 have cc:=s.conn hq.ncl hp.ncl ((K_ h q (by omega) (by omega)).1 h3)
 have lift:∀ {m:Nat} {v:Int},m<b.Ac.length->D7 b q (m:Int)=some v->D7 b p (m:Int)=some v:=fun {m v} hm e=>by
  rw [jI h hq hm] at e
  rw [jI h hp hm]
  by_cases hh:(q.Ac.getD m default).State=2/\q.Ag.getD (brN b m) false=true
  ·rw [if_pos hh] at e
   rw [if_pos (s.con m hm hh.1 hh.2)];exact e
  ·rw [if_neg hh] at e;cases e
 exact⟨a,c,lift hi h1,lift hj h2,(K_ h p (by omega) (by omega)).2 cc⟩
theorem A05 {b:Aa} {q p:Ab} (hs:∀ i:Nat,(q.Ac.getD i default).State=(p.Ac.getD i default).State) (hc:∀ k:Nat,q.Ag.getD k false=true->p.Ag.getD k false=true):Sub b q p:=
 ⟨λ i _ h1 h2=>⟨by rw [←hs];exact h1,hc _ h2⟩,λ k _ _ _ h=>hc k h⟩
theorem Abj {b:Aa} (h:Av b) {q p:Ab} (hq:Ax b q) (hp:Ax b p) (s:Sub b q p) (ha:Fh b p) (hl:∀ i j,i<b.Ac.length->j<b.Ac.length->tog b q i j->B1 (p.Ac.getD i default) (p.Ac.getD j default)->B1 (q.Ac.getD i default) (q.Ac.getD j default)):Fh b q:=
 (Abi h).2 λ i j hi hj t=>hl i j hi hj t ((Abi h).1 ha i j hi hj (s.tog h hq hp hi hj t))
theorem A0v (b:Aa) (C:List Bool) (q:Aj->Bool) (hC:C.length=b.Ad.length) (k:Nat) (h:(acC b C q).getD k false=true):C.getD k false=true:=by
 by_cases hk:k<b.Ad.length
 ·rw [A0w b C q hk,ae] at h;exact h.1
 ·have hl:(acC b C q).length=C.length:=Ng _ _
  simp [List.getD,List.getElem?_eq_none (show (acC b C q).length<=k by omega)] at h
theorem Adf {b:Aa} (p:Ab) (n:Nat):∀ (l:List Int) (z:List Bool×List Am),z.1.length=b.Ad.length->(E1 b p n l z).1.length=b.Ad.length/\∀ k,(E1 b p n l z).1.getD k false=true->z.1.getD k false=true
 | [],_,hz=>⟨hz,λ _ h=>h⟩
 | c::l,z,hz=>by
  have hl:(H7 b p n z c).1.length=b.Ad.length/\∀ k,(H7 b p n z c).1.getD k false=true->z.1.getD k false=true:=by
   unfold H7
   split
   ·exact⟨by show (acC b z.1 (isC c)).length=_;unfold acC;rw [Ng];exact hz,λ k h=>A0v b z.1 (isC c) hz k h⟩
   ·exact⟨hz,λ _ h=>h⟩
  obtain⟨h1,h2⟩:=Adf p n l (H7 b p n z c) hl.1
  exact⟨h1,λ k h=>hl.2 k (h2 k h)⟩
theorem Ae6 {b:Aa}:∀ (l:List Ai) (z:Ab×List Am),z.1.Ag.length=b.Ad.length->(G4 b l z).1.Ac=z.1.Ac/\(G4 b l z).1.Ao=z.1.Ao/\∀ k,(G4 b l z).1.Ag.getD k false=true->z.1.Ag.getD k false=true
 | [],_,_=>⟨rfl,rfl,λ _ h=>h⟩
 | x::l,z,hz=>by
  have hs:(G3 b z x).1.Ac=z.1.Ac/\(G3 b z x).1.Ao=z.1.Ao/\(G3 b z x).1.Ag.length=b.Ad.length/\∀ k,(G3 b z x).1.Ag.getD k false=true->z.1.Ag.getD k false=true:=by
   unfold G3
   split
   ·obtain⟨h1,h2⟩:=Adf (Bz z.1 (Gr b x z).1) (Qg x) (H1 b x) (z.1.Ag,(Gr b x z).2) hz
    exact⟨rfl,rfl,h1,h2⟩
   ·exact⟨rfl,rfl,hz,λ _ h=>h⟩
  obtain⟨g1,g2,g3⟩:=Ae6 l (G3 b z x) hs.2.2.1
  exact⟨g1.trans hs.1,g2.trans hs.2.1,λ k h=>hs.2.2.2 k (g3 k h)⟩
theorem Azn {b:Aa} {p:Ab} (hp:Ax b p):(Ma b p).Ac=(Jw b p).Ac/\(Ma b p).Ao=p.Ao/\∀ k,(Ma b p).Ag.getD k false=true->(Jw b p).Ag.getD k false=true:=by
 have:=Ae6 (Bk b (Jw b p)) (Jw b p,Td b p) (Vn hp).ncl
 exact⟨this.1,this.2.1,this.2.2⟩
theorem Arq {b:Aa} (h:Av b) {p:Ab} (hp:Ax b p):Fh b (Ma b p):=by
 obtain⟨h1,_,h3⟩:=Azn hp
 exact Abj h (I5 h hp).2.1 (Vn hp) (A05 (λ i=>by rw [h1]) h3) (An8 h hp) λ i j _ _ _ hl=>by rw [h1];exact hl
def Aon (b:Aa) (p q:Ab):Prop:=(∀ k,q.Ag.getD k false=true->p.Ag.getD k false=true)/\∀ i,i<b.Ac.length->(q.Ac.getD i default).State=2->q.Ag.getD (brN b i) false=true->(p.Ac.getD i default).State=2
theorem Aon.sub {b:Aa} {p q:Ab} (s:Aon b p q):Sub b q p:=⟨λ i hi h1 h2=>⟨s.2 i hi h1 h2,s.1 _ h2⟩,λ k _ _ _ h=>s.1 k h⟩
theorem Apz {x y:Af} (hx:x.State=2) (hy:y.State=2) (h:B1 x y):B1 (Di x) (Di y):=by
 unfold Di
 rw [if_pos hx,if_pos hy]
 exact⟨h.1,by dsimp only;rw [h.1,h.2]⟩
theorem Y0 (x:Af):(Di x).State=x.State:=by unfold Di;split <;> rfl
theorem Adc {b:Aa} {p:Ab} (t:Int) {i:Nat} (hi:i<p.Ac.length):(wtS b p t).Ac.getD i default=F2 b p.Ag t (Di (p.Ac.getD i default)) i:=by
 unfold wtS J7
 simp only [au]
 rw [List.drop_of_length_le (by simp),aW]
 have hl:((p.Ac.map Di).zipIdx.map λ z=>F2 b p.Ag t z.1 z.2).length=p.Ac.length:=by simp
 rw [bz (by omega)]
 simp [List.getD,List.getElem?_eq_getElem hi]
theorem Pc {b:Aa} {p:Ab} (hp:Ax b p) (t:Int):Aon b p (wtS b p t):=by
 have hn:=hp.nso
 refine⟨λ _ hk=>hk,λ i hi h1 h2=>?_⟩
 rw [Adc t (by omega)] at h1
 have h2:p.Ag.getD (brN b i) false=true:=h2
 unfold F2 at h1
 split at h1
 ·rename_i hh
  exfalso
  have:=hh.1.2
  unfold vU at this
  have e:brN b i=(Ia b (i:Int)).toNat:=rfl
  rw [←e,h2] at this
  cases this
 ·rw [Y0] at h1;exact h1
theorem Amt {b:Aa} (h:Av b) {p:Ab} (hp:Ax b p) (ha:Fh b p) {t:Int} (hq:Ax b (wtS b p t)):Fh b (wtS b p t):=by
 have hn:=hp.nso
 refine Abj h hq hp (Pc hp t).sub ha λ i j hi hj tg hl=>?_
 obtain⟨a,c,h1,h2,_⟩:=tg
 rw [jI h hq hi] at h1
 rw [jI h hq hj] at h2
 have k1:(wtS b p t).Ag.getD (brN b i) false=true/\(p.Ac.getD i default).State=2:=by
  split at h1
  ·rename_i hh;exact⟨hh.2,(Pc hp t).2 i hi hh.1 hh.2⟩
  ·cases h1
 have k2:(wtS b p t).Ag.getD (brN b j) false=true/\(p.Ac.getD j default).State=2:=by
  split at h2
  ·rename_i hh;exact⟨hh.2,(Pc hp t).2 j hj hh.1 hh.2⟩
  ·cases h2
 have stay:∀ m,(p.Ac.getD m default).State=2->F2 b p.Ag t (Di (p.Ac.getD m default)) m=Di (p.Ac.getD m default):=λ m hm=>by
  unfold F2
  rw [if_neg (λ hh=>by have:=hh.1.1;rw [Y0,hm] at this;omega)]
 rw [Adc t (by omega),Adc t (by omega),stay i k1.2,stay j k2.2]
 exact Apz k1.2 k2.2 hl
theorem Ze {b:Aa} (h:Av b) (t:Int):∀ (l:List Am) {p:Ab},Ax b p->Fh b p->Fh b (Bm b t p l)
 | [],_,_,ha=>ha
 | a::l,p,hp,ha=>Ze h t l (jE h hp t a) (by
   show Fh b (doP b p t a)
   unfold doP
   split
   ·rename_i he
    exact Arq h (S9 h hp he).1
   ·exact ha)
theorem Ap1 {b:Aa} (h:Av b) {y:A2} {p:As} (hp:Fz b y p) (hT:p.Time<=1000) (l:List Am) {ros:List Aw} (hr:ros.length=b.An.toNat/\∀ x,x∈ros->Eo p.Time x) (ev:List A6) :
  Fz b y ⟨p.Time+1,wtP b (Bm b p.Time p.Power l) p.Time,ros,ev⟩:=by
 have hti:=hp.time
 have ha0:Fh b p.Power:=by
  have:=Jv h (p:=p.Power) hp.st.nso
  rw [hp.fol] at this
  exact this
 have c2:=Ze h p.Time l hp.st ha0
 have hq:=Fr h p.Time l hp.st
 have hw:=(Wp h hq hti).2.1
 have e:wtP b (Bm b p.Time p.Power l) p.Time=wtS b (Bm b p.Time p.Power l) p.Time:=by
  obtain⟨_,_,w,hw,e⟩:=Wp h hq hti
  rw [Ay4 h hq] at hw
  cases hw
  exact e.symm
 have hws:Ax b (wtS b (Bm b p.Time p.Power l) p.Time):=by rw [←e];exact hw
 have hag:=Amt h hq c2 hws
 rw [e]
 exact {
  st:=hws
  fol:=Sy hws.nso hag
  time:=by dsimp only;omega
  nro:=hr.1
  ros:=λ x hx=>by
   have:=hr.2 x hx
   unfold Eo at this ⊢
   dsimp only
   omega}
def Ie (b:Aa) (y:A2) (p:As) (l:List Am):As:=match F31 b y p l with
 | some z=>z.1
 | none=>p
structure Ko (b:Aa) (y:A2) (n:Int) (p:As):Prop where
 ok:Fz b y p
 time:p.Time<=n
 evs:p.Bc.length<=200
theorem Alc {b:Aa} (h:Av b) {y:A2} (hy:E_ y) {n:Int} (hn:n<=1000) {p:As} (hp:Ko b y n p) {l:List Am} (hl:l.length<=10) :
  (∃ e,F31 b y p l=some (Ie b y p l,e,0))/\Ko b y (n+1) (Ie b y p l)/\(Ie b y p l).Time=p.Time+1:=by
 have htm:=hp.time
 obtain⟨z,e,h1,m,ros',g1,g2,_,g4,_⟩:=Aze h hy hp.ok (by omega) hp.evs hl
 obtain⟨z1,z2,z3⟩:=z
 dsimp only at h1 g4
 subst h1
 have en:Ie b y p l=z1:=by unfold Ie;rw [e]
 rw [en]
 refine⟨⟨z2,e⟩,?_,by rw [g4]⟩
 have hc:=Ap1 h hp.ok (by omega) (l++m) g2 (Xu (p.Bc++Cb b p.Time p.Power (l++m)))
 rw [g4]
 exact⟨hc,by dsimp only;omega,by dsimp only;unfold Xu;rw [bT];omega⟩
section
variable {b:Aa} {y:A2}
def Fq (b:Aa) (y:A2):As->List (List Am)->List As
 | _,[]=>[]
 | p,l::r=>Ie b y p l::Fq b y (Ie b y p l) r
def Kw (b:Aa) (y:A2) (p:As) (x:List (List Am)):As:=x.foldl (Ie b y) p
theorem Awx (p:As) (x z:List (List Am)):Kw b y p (x++z)=Kw b y (Kw b y p x) z:=aX
theorem Ae3 (z:List (List Am)):∀ (x:List (List Am)) (p:As),Fq b y p (x++z)=Fq b y p x++Fq b y (Kw b y p x) z
 | [],_=>rfl
 | l::x,p=>by
  show Ie b y p l::Fq b y (Ie b y p l) (x++z)=_
  rw [Ae3 z x];rfl
theorem Jm:∀ (x:List (List Am)) (p:As),(Fq b y p x).length=x.length
 | [],_=>rfl
 | l::x,p=>by show (Fq b y (Ie b y p l) x).length+1=x.length+1;rw [Jm x]
theorem Alm (h:Av b) (hy:E_ y):∀ (x:List (List Am)) {n:Int} {p:As},n+x.length<=1000->Ko b y n p->(∀ l,l∈x->l.length<=10)->Ko b y (n+x.length) (Kw b y p x)/\(Kw b y p x).Time=p.Time+x.length
 | [],n,p,_,hp,_=>by
  have e:n+(([]:List (List Am)).length:Int)=n:=by simp
  rw [e]
  exact⟨hp,by show p.Time=p.Time+((0:Nat):Int);omega⟩
 | l::x,n,p,hn,hp,hl=>by
  have hlen:((l::x).length:Int)=(x.length:Int)+1:=by simp
  rw [hlen] at hn ⊢
  obtain⟨_,h1,h2⟩:=Alc h hy (by omega) hp (hl l aj)
  obtain⟨k1,k2⟩:=Alm h hy x (by omega) h1 λ m hm=>hl m (ai _ hm)
  have e:n+((x.length:Int)+1)=n+1+x.length:=by omega
  rw [e]
  exact⟨k1,by
   show (Kw b y (Ie b y p l) x).Time=_
   rw [k2,h2];omega⟩
end
def I64 (x:Int):Prop:=-9223372036854775808<=x/\x<=9223372036854775807
theorem Av8 {ns:List Int} (h:∀ x,x∈ns->I64 x):(E3 ns).length<=22*ns.length+1:=by
 have key:∀ {l:List Int},(∀ x,x∈l->I64 x)->(l.flatMap λ y=>32::Lib.itoa y).length<=22*l.length:=fun {l}=>by
  induction l with
  | nil=>intro _;simp
  | cons x l ih=>
   intro h
   have h1:=ih λ y hy=>h y (ai _ hy)
   have h2:=Lib.itoa_length_le x (h x aj).1 (h x aj).2
   simp only [List.flatMap_cons,aA,aP]
   omega
 unfold E3
 cases ns with
 | nil=>simp [Ek]
 | cons x r=>
  have h1:=key λ y hy=>h y (ai _ hy)
  have h2:=Lib.itoa_length_le x (h x aj).1 (h x aj).2
  simp only [Ek,aA,aP,bi]
  omega
theorem Adg:∀ {l:List (List Int)},(∀ r,r∈l->r.length<=100/\∀ x,x∈r->I64 x)->(Ca l).length<=2201*l.length
 | [],_=>by simp [Ca]
 | r::l,h=>by
  have h1:=Adg (l:=l) λ s hs=>h s (ai _ hs)
  obtain⟨h2,h3⟩:=h r aj
  have h4:=Av8 h3
  have e:Ca (r::l)=E3 r++Ca l:=by simp [Ca]
  rw [e,aA,aP]
  omega
def Rh (p:As):List (List Int):=[[p.Time],p.Power.Ag.map Dq]++p.Power.Ac.map (λ s=>[s.State,s.Since,s.Ap,s.Phase])++[p.Power.Aq]++p.Power.Ao.map (λ s=>[s.Kind,s.Number])++p.A7.map (λ s=>[s.High,s.Low])
def Ade (p:As):ByteArray:=⟨(Ca (Rh p)).toArray⟩
structure yH (p:As):Prop where
 cl:p.Power.Ag.length<=100
 so:p.Power.Ac.length<=100
 li:p.Power.Aq.length<=100
 br:p.Power.Ao.length<=100
 ro:p.A7.length<=100
 t:I64 p.Time
 rs:∀ s,s∈p.Power.Ac->I64 s.State/\I64 s.Since/\I64 s.Ap/\I64 s.Phase
 rl:∀ s,s∈p.Power.Aq->I64 s
 rb:∀ s,s∈p.Power.Ao->I64 s.Kind/\I64 s.Number
 rr:∀ s,s∈p.A7->I64 s.High/\I64 s.Low
theorem Xk {p:As} (h:yH p):∀ r,r∈Rh p->r.length<=100/\∀ x,x∈r->I64 x:=by
 intro r hr
 unfold Rh at hr
 simp only [az,ah,cz,or_false,am] at hr
 rcases hr with ((((rfl | rfl) | ⟨s,hs,rfl⟩) | rfl) | ⟨s,hs,rfl⟩) | ⟨s,hs,rfl⟩
 ·exact⟨by simp,λ x hx=>by simp only [ah,cz,or_false] at hx;subst hx;exact h.t⟩
 ·refine⟨by rw [au];exact h.cl,λ x hx=>?_⟩
  obtain⟨c,_,rfl⟩:=am.1 hx
  cases c <;> simp [Dq,I64]
 ·refine⟨by simp,λ x hx=>?_⟩
  have:=h.rs s hs
  simp only [ah,cz,or_false] at hx
  rcases hx with rfl | rfl | rfl | rfl
  ·exact this.1
  ·exact this.2.1
  ·exact this.2.2.1
  ·exact this.2.2.2
 ·exact⟨h.li,h.rl⟩
 ·refine⟨by simp,λ x hx=>?_⟩
  have:=h.rb s hs
  simp only [ah,cz,or_false] at hx
  rcases hx with rfl | rfl
  ·exact this.1
  ·exact this.2
 ·refine⟨by simp,λ x hx=>?_⟩
  have:=h.rr s hs
  simp only [ah,cz,or_false] at hx
  rcases hx with rfl | rfl
  ·exact this.1
  ·exact this.2
theorem Arw {p:As} (h:yH p):(Rh p).length<=303:=by
 have h1:=h.so
 have h2:=h.br
 have h3:=h.ro
 unfold Rh
 simp only [aA,au,aP,bi]
 omega
theorem Akg {p:As} (h:yH p):(Ca (Rh p)).length<=1000000:=by
 have h1:=Adg (Xk h)
 have h2:=Arw h
 omega
theorem Azb {p:As} (h:yH p):F22 p=some (Ade p):=
 Ary (l:=Rh p) (λ x hx=>⟨by have:=(Xk h x hx).1;omega,(Xk h x hx).2⟩) (by have:=Akg h;omega)
theorem Fz.tx {b:Aa} (h:Av b) {y:A2} {p:As} (hp:Fz b y p):yH p:=by
 have g1:=h.buses
 have g2:=h.brl
 have g3:=h.sol
 have g4:=h.col
 have n1:=hp.st.ncl
 have n2:=hp.st.nso
 have n3:=hp.st.nli
 have n4:=hp.st.brk.len
 have n5:=hp.nro
 have ht:=hp.time
 refine⟨by omega,by omega,by omega,by omega,by omega,by unfold I64;omega,λ s hs=>?_,λ s hs=>?_,λ s hs=>?_,λ s hs=>?_⟩
 ·have:=hp.st.run s hs
  unfold Cw at this
  unfold I64
  omega
 ·obtain⟨i,hi⟩:=bY hs
  have hil:=(aa.1 hi).1
  obtain⟨c,hc⟩:∃ c,b.Ae[i]? = some c:=⟨_,ag (by omega)⟩
  have:=hp.st.lim i s c hi hc
  have hco:=h.co i c hc
  unfold Ajn at hco
  unfold I64
  omega
 ·have:=hp.st.brk.mem s hs
  unfold B5 at this
  unfold I64
  omega
 ·have:=hp.ros s hs
  unfold Eo at this
  unfold I64
  omega
def N7 (p:As):Int:=(F23 p).getD 0
theorem A32 {p:As} (h:yH p):F23 p=some (N7 p):=by
 have key:Ok (F23 p) λ _=>True:=by
  unfold F23
  rw [Azb h]
  simp only [ac]
  refine Ok.bind (P:=λ _=>True) ?_ λ _ _=>c9 trivial
  unfold F41
  have hsz:(Ade p).size=(Ca (Rh p)).length:=by simp [Ade,ByteArray.size]
  have hb:Th (Ade p)=some (Ti (Ade p)):=by
   unfold Th
   rw [dF (by have:=Akg h;omega)];rfl
  rw [hb]
  simp only [ac]
  refine Ok.andThen (A:=λ _=>True) (B:=λ _=>False) ?_ (λ _ _=>c9 trivial) (λ _ h=>h.elim)
  exact cT (λ _ _=>True) trivial (λ _ _ _ _ _=>cS trivial) λ _ _=>trivial
 obtain⟨r,e,_⟩:=key
 unfold N7
 rw [e];rfl
theorem Vq {α:Type} {B:Nat} {l:List α} (h:l.length*B<=140737488355328):appI B ([]:List α) l=some l:=by
 unfold appI
 rw [dF (by simpa using h)];rfl
theorem As7 {b:Aa} (h:Av b) {y:A2} {p:As} (hp:Fz b y p) (he:p.Bc.length<=200):F30 p=some p:=by
 have ht:=hp.tx h
 have h1:=ht.cl
 have h2:=ht.so
 have h3:=ht.li
 have h4:=ht.br
 have h5:=ht.ro
 unfold F30
 rw [Vq (by omega),Vq (by omega),Vq (by omega),Vq (by omega),Vq (by omega),Vq (by omega)]
 rfl
section
variable {b:Aa} {y:A2}
theorem Aro (h:Av b) (hy:E_ y) {x:List (List Am)} (hx:∀ l,l∈x->l.length<=10) (hl:x.length<=60) {n:Int} {p:As} (hn:n+x.length<=1000) (hp:Ko b y n p) {k:Nat} (hk:k<=x.length) :
  F15 b y p x (k:Int)=some ((Fq b y p (x.drop k)).map N7,Kw b y p (x.drop k),0):=by
 have hdl:(x.drop k).length=x.length-k:=bT
 have hdx:∀ i:Nat,∀ l,l∈(x.drop k).take i->l.length<=10:=λ i l hm=>hx l (ce (be hm))
 refine d7 ?_
 unfold F15
 have c0:Aoi x (k:Int)=false:=by
  unfold Aoi
  simp only [bG,dC]
  omega
 have c1:decide ((x.length:Int)>60)=false:=by simp only [dC];omega
 rw [c0,c1,Q9 h hy hp.ok,As7 h hp.ok hp.evs]
 simp only [cond_false,ac,dH]
 generalize hD:x.drop k=D at *
 refine Ok.andThen (A:=λ z=>∃ q:As,q=Kw b y p D/\z=((D.length:Int),q.Power.Ag,q.Power.Ac,q.Power.Aq,q.Power.Ao,q.A7,q.Bc,q.Time,(Fq b y p D).map N7)) (B:=λ _=>False) ?_ ?_ (λ _ h=>h.elim)
 ·refine cU (λ z=>∃ (i:Nat) (q:As),i<=D.length/\q=Kw b y p (D.take i)/\z=((i:Int),q.Power.Ag,q.Power.Ac,q.Power.Aq,q.Power.Ao,q.A7,q.Bc,q.Time,(Fq b y p (D.take i)).map N7)) (λ z=>D.length-z.1.toNat) _ _ ⟨0,p,by omega,by simp [Kw],by simp [Fq]⟩ (by dsimp only;omega) ?_
  rintro _ ⟨i,q,hi,hq,rfl⟩
  unfold Ai7
  have e0:w64 ((x.length:Int)-(k:Int))=(D.length:Int):=by rw [A9 (by omega),hdl];omega
  refine cR (λ hc=>?_) (λ hc=>?_)
  ·simp only [Aoh,e0,dA] at hc
   have hilt:i<D.length:=by omega
   have hti:(D.take i).length=i:=by rw [aU];omega
   obtain⟨l,hli⟩:∃ l,D[i]? = some l:=⟨_,ag hilt⟩
   have hxk:x[k+i]? = some l:=by rw [←hli,←hD,aq]
   have eg:getI x (w64 ((k:Int)+(i:Int)))=some l:=by
    rw [A9 (by omega)]
    have:=Bj hxk
    rw [←this];congr 1
   dsimp only
   rw [eg]
   simp only [ac]
   have hqt:=(Alm h hy (D.take i) (n:=n) (p:=p) (by omega) hp (hdx i)).1
   rw [←hq] at hqt
   obtain⟨⟨e,he⟩,g1,_⟩:=Alc h hy (by omega) hqt (hx l (af hxk))
   have eta:(⟨q.Time,(⟨q.Power.Ag,q.Power.Ac,q.Power.Aq,q.Power.Ao⟩:Ab),q.A7,q.Bc⟩:As)=q:=rfl
   rw [eta,he]
   simp only [ac,dH,cond_false]
   rw [A32 (g1.ok.tx h)]
   simp only [ac]
   have e1:D.take (i+1)=D.take i++[l]:=by rw [bZ,hli];rfl
   refine (cW (by simp [Jm];omega)).bind λ w hw=>cS ?_
   subst hw
   refine⟨⟨i+1,Ie b y q l,hilt,?_,?_⟩,?_⟩
   ·rw [e1,Awx,←hq];rfl
   ·rw [e1,Ae3,bI,←hq,A9 (by omega)]
    rfl
   ·dsimp only
    rw [A9 (by omega)]
    omega
  ·simp only [Aoh,e0,dC] at hc
   have ei:i=D.length:=by omega
   subst ei
   rw [aG] at hq
   exact d8 ⟨q,hq,by rw [aG]⟩
 ·rintro _ ⟨q,rfl,rfl⟩
  exact c9 rfl
theorem Ark (h:Av b) (hy:E_ y) {x:List (List Am)} (hx:∀ l,l∈x->l.length<=10) (hl:x.length<=60) {n:Int} {p:As} (hn:n+x.length<=1000) (hp:Ko b y n p) :
  F14 b y p x=some ((Fq b y p x).map N7,Kw b y p x,0):=by
 unfold F14
 have:=Aro h hy hx hl hn hp (k:=0) (by omega)
 rw [List.drop_zero] at this
 rw [show (0:Int)=((0:Nat):Int) from rfl,this]
 rfl
end
def Lv (a b:List Int) (r:Int):Prop:=(r = -1/\a=b)\/∃ n:Nat,r=n/\a[n]? ≠ b[n]? /\ ∀ j:Nat,j<n->a[j]? = b[j]?
theorem Lv.uniq {a b:List Int} {r s:Int} (h:Lv a b r) (k:Lv a b s):r=s:=by
 rcases h with⟨rfl,rfl⟩ | ⟨n,rfl,h1,h2⟩ <;> rcases k with⟨rfl,h3⟩ | ⟨m,rfl,k1,k2⟩
 ·rfl
 ·exact absurd rfl k1
 ·subst h3;exact absurd rfl h1
 ·rcases bF n m with h | h | h
  ·exact absurd (k2 n h) h1
  ·rw [h]
  ·exact absurd (h2 m h) k1
theorem Afz {α:Type} {c:Bool} {x:Option α} {d:α} (h:c=true):A4 [(c,false)] x d=some d:=by subst h;rfl
theorem Aa3 {α:Type} {c:Bool} {x:Option α} {d:α} (h:c=false):A4 [(c,false)] x d=x:=by subst h;rfl
theorem Az9 {a b:List Int} {z:Int} (h0:0<=z) (h1:(a.length:Int)<=z) (h2:(b.length:Int)<=z) (h:∀ j:Nat,(j:Int)<z->a[j]? = b[j]?):a=b:=by
 apply bE
 intro j
 by_cases hj:(j:Int)<z
 ·exact h j hj
 ·rw [bl (by omega),bl (by omega)]
theorem Aws {a b:List Int} (ha:a.length<=1000) (hb:b.length<=1000):Ok (F25 a b) (Lv a b):=by
 unfold F25
 refine Ok.andThen (A:=λ _=>a=b) (B:=Lv a b) ?_ (λ _ h=>c9 (.inl ⟨rfl,h⟩)) (λ r h=>⟨r,rfl,h⟩)
 refine cU (λ z=>(0<=z/\z<=1000)/\∀ j:Nat,(j:Int)<z->a[j]? = b[j]?) (λ z=>(1000-z).toNat) _ _ ⟨⟨by omega,by omega⟩,λ j hj=>by omega⟩ (by omega) ?_
 rintro z ⟨⟨h0,h1⟩,h2⟩
 unfold Ai0
 refine cR (λ hc=>?_) (λ hc=>?_)
 ·have hc:z<a.length\/z<b.length:=by simp only [Aog,dA] at hc;omega
  rcases A52 (decide (z>=(a.length:Int)) || decide (z>=(b.length:Int))) with hin | hin
  ·rw [Afz hin,Afz hin]
   simp only [ac,Aof,hin,Bool.true_or,cond_true]
   simp only [aO,dA] at hin
   refine Ok.ret (.inr ⟨z.toNat,by omega,λ e=>?_,λ j hj=>h2 j (by omega)⟩)
   by_cases h3:z<a.length
   ·rw [ag (by omega),bl (by omega)] at e;cases e
   ·rw [bl (by omega),ag (by omega)] at e;cases e
  ·rw [Aa3 hin,Aa3 hin]
   have hin2:=hin
   simp only [bG,dC] at hin
   refine (cV h0 (by omega)).bind λ u hu=>(cV h0 (by omega)).bind λ v hv=>?_
   simp only [Aof,hin2,bh]
   refine cR (λ hd=>?_) (λ hd=>?_)
   ·simp only [bne_iff_ne,ne_eq] at hd
    refine Ok.ret (.inr ⟨z.toNat,by omega,λ e=>?_,λ j hj=>h2 j (by omega)⟩)
    rw [hu,hv] at e
    exact hd (bH e)
   ·simp only [dG] at hd
    subst hd
    rw [A9 (by omega)]
    refine cS ⟨⟨⟨by omega,by omega⟩,λ j hj=>?_⟩,by omega⟩
    by_cases hjz:(j:Int)<z
    ·exact h2 j hjz
    ·have:j=z.toNat:=by omega
     subst this
     rw [hu,hv]
 ·have hc:(a.length:Int)<=z/\(b.length:Int)<=z:=by simp only [Aog,dC] at hc;omega
  exact d8 (Az9 h0 hc.1 hc.2 h2)
theorem Arp {b:Aa} (h:Av b) {s:Ah} (hs:Bq s) {k:Int} (hk:0<=k/\k<=50):Ok (qW s b k) λ y=>((y.1.length:Int)<=k/\∀ l,l∈y.1->l.length<=10)/\Bq y.2:=by
 unfold qW
 rw [A9 (n:=k+1) (by omega)]
 refine (D_ hs (k+1) (by omega) (by omega)).bind λ y hy=>?_
 refine Ok.andThen (A:=λ s=>((s.2.2.2.length:Int)<=k/\∀ l,l∈s.2.2.2->l.length<=10)/\Bq ⟨s.2.1,s.2.2.1⟩) (B:=λ (_:Unit)=>False) ?_ (λ s hs=>c9 hs) (λ _ h=>h.elim)
 refine cU (λ s=>(0<=s.1/\s.1<=200/\s.1+(s.2.2.2.length:Int)<=k)/\(∀ l,l∈s.2.2.2->l.length<=10)/\Bq ⟨s.2.1,s.2.2.1⟩) (λ s=>s.1.toNat) _ _ ?_ ?_ ?_
 ·exact⟨⟨by dsimp only;omega,by dsimp only;omega,by simp;omega⟩,(λ l hl=>by cases hl),hy.1⟩
 ·dsimp only;omega
 ·rintro⟨i,L,a,l⟩ ⟨⟨g1,g2,g3⟩,g4,g5⟩
  dsimp only at g1 g2 g3 g4 g5
  unfold Yt
  dsimp only
  refine cR (λ hq=>?_) (λ _=>d8 ⟨⟨by dsimp only;omega,g4⟩,g5⟩)
  simp only [dA] at hq
  have e1:w64 (i-1)=i-1:=A9 (by omega)
  rw [e1]
  refine (A4p h g5 (k:=2) (by omega)).bind λ u hu=>(cW (by simp;omega)).bind λ w hw=>cS ⟨⟨⟨by dsimp only;omega,by dsimp only;omega,by rw [hw];simp;omega⟩,?_,hu.2⟩,by dsimp only;omega⟩
  intro m hm
  dsimp only at hm
  rw [hw] at hm
  rcases az.1 hm with hm | hm
  ·exact g4 m hm
  ·rw [bA] at hm
   subst hm
   have:=hu.1
   omega
theorem Aqb:F8=some true:=by kernel_rfl
theorem A4x {b:Aa} {y:A2} {p:As} (hp:(∀ t,Fz b t p)/\(5<=p.Time/\p.Time<=20)/\p.Bc=[]/\p.Power.Ao.length<=4):Ko b y 20 p:=⟨hp.1 y,hp.2.1.2,by rw [hp.2.2.1];simp⟩
theorem As3 {b:Aa} {y:A2} (h:Av b) (hy:E_ y) {p:As} (hp:Ko b y 20 p) {x z:List (List Am)} (hx:∀ l,l∈x->l.length<=10) (hl:x.length<=50) (hz:∀ l,l∈z->l.length<=10) (hzl:z.length<=50) :
  ∃ r,F18 b y p x z=some (r,0)/\Lv ((Fq b y p x).map N7) ((Fq b y p z).map N7) r:=by
 have e1:=Ark h hy hx (by omega) (n:=20) (by omega) hp
 have e2:=Ark h hy hz (by omega) (n:=20) (by omega) hp
 obtain⟨r,hr,hf⟩:=Aws (a:=(Fq b y p x).map N7) (b:=(Fq b y p z).map N7) (by simp [Jm];omega) (by simp [Jm];omega)
 refine⟨r,?_,hf⟩
 unfold F18
 rw [e1]
 simp only [ac,dH,cond_false]
 rw [e2]
 simp only [ac,dH,cond_false]
 rw [hr];rfl
theorem Avm {b:Aa} {y:A2} {p:As} {x z:List (List Am)} {k:Nat} (h:∀ j:Nat,j<k->x[j]? = z[j]?):∀ j:Nat,j<k->(Fq b y p x)[j]? = (Fq b y p z)[j]?:=by
 induction k generalizing x z p with
 | zero=>intro j hj;omega
 | succ k ih=>
  intro j hj
  have h0:=h 0 (by omega)
  cases x with
  | nil=>
   cases z with
   | nil=>rfl
   | cons m z=>simp at h0
  | cons l x=>
   cases z with
   | nil=>simp at h0
   | cons m z=>
    simp at h0
    subst h0
    cases j with
    | zero=>rfl
    | succ j=>
     show (Fq b y (Ie b y p l) x)[j]? = (Fq b y (Ie b y p l) z)[j]?
     exact ih (λ i hi=>by have:=h (i+1) (by omega);simpa using this) j (by omega)
theorem replayShorter_law (t:List Int):F5 t=some true:=by
 refine d7 ?_
 unfold F5
 refine cR (λ _=>by rw [Aqb];exact c9 rfl) λ _=>?_
 refine (A4n t).bind λ s hs=>(Axv hs).bind λ b hb=>(Axo hb.2).bind λ y hy=>(Axq hb.1.ok hy.2).bind λ p hp=>?_
 have h:=hb.1.ok
 refine (Arp h hp.2 (k:=4) (by omega)).bind λ x0 hx0=>?_
 have hp0:=A4x (y:=y.1) hp.1
 have hx0l:x0.1.length<=4:=by have:=hx0.1.1;omega
 refine (cW (by simp;omega)).bind λ x hx=>?_
 have hxm:∀ l,l∈x->l.length<=10:=λ l hl=>by
  rw [hx] at hl
  rcases az.1 hl with hl | hl
  ·exact hx0.1.2 l hl
  ·rw [bA] at hl;subst hl;simp
 have hxl:1<=x.length/\x.length<=5:=by rw [hx];simp;omega
 refine (D_ hx0.2 (x.length:Int) (by omega) (by omega)).bind λ k hk=>?_
 refine (Ok.cutI (by omega) (by omega) (by omega)).bind λ z hz=>?_
 have hz2:z=x.take k.1.toNat:=by rw [hz];rfl
 clear hz
 subst hz2
 obtain⟨r,er,hr⟩:=As3 h hy.1 hp0 hxm (by omega) (z:=x.take k.1.toNat) (λ l hl=>hxm l (be hl)) (by rw [aU];omega)
 rw [er]
 simp only [ac]
 have hrk:r=k.1:=hr.uniq (.inr ⟨k.1.toNat,by omega,λ e=>?_,λ j hj=>?_⟩)
 ·subst hrk
  simp only [beq_self_eq_true,cu,Aqb,A4,Cz,cond_true,ac]
  exact c9 rfl
 ·rw [ag (by simp [Jm];omega),bl (by simp [Jm];omega)] at e
  cases e
 ·rw [aw,aw,Avm (k:=k.1.toNat) (z:=x.take k.1.toNat) (λ i hi=>by rw [ar,if_pos hi]) j hj]
end Go.Proofs.YtpdbkiafikdgpaaGreatDoor
