import Derived.Test.YtkcebipolafapaaGreatPl1
namespace Go.Proofs.YtkcebipolafapaaGreat
open Go.SL
set_option linter.unusedVariables false
set_option linter.unusedSimpArgs false
variable{α:Type}{s:Ab}{T o:Int}{l x4:List a_}{y18:List a_×Ab}{ev:List dW}{m st:List dZ}{ros:List d_}{i j n:Nat}{b:c_}{q:dY}{P c p:dZ}{r:d_}{x x5:ef}{y:eo}
theorem yB(ho:-1<=o)(v:Bool)(T:Int):Ih v o T=Hg o v T:=by
 unfold Ih Hg;cases v with
 |false=>rfl
 |true=>
  by_cases e:o = -1
  .subst e;rfl
  .rw[dK (show o>=0 by omega),dJ.2 e];rfl
theorem Amu(h:Ad b)(hy:Dw y)(hp:Aa b p)(hn:n<b.Buses.toNat)(hT:0<=T/\T<=2147483648)(hr:Ds T r) :
  Aly b y p (n:Int) T r=L_ b y p (n:Int) T r:=by
 obtain⟨lo,a1,a2,a3⟩:=Ave h hp y hn;obtain⟨hi,b1,b2⟩:=Ary h hp y hn;obtain⟨nx,c1,c2,c3⟩:=Ard h hp hn;obtain⟨⟨r1,r2⟩,r3,r4⟩:=hr;have hbu:=h.buses;have hns:=hp.nso;have hv:=Hq hy;have s1:=yB r1 hi T;have s2:=yB r3 lo.2 T;have i1:=Qu ⟨r1,r2⟩ hT.1 hi;have i2:=Qu ⟨r3,r4⟩ hT.1 lo.2;have z1:Rt y T r=false:=by simp only[Rt,Qj,hv,aA,aL,dG,ac,dF,aC,true_and];omega
 have z2:Adi y T r=false:=by simp only[Adi,Ob,hv,aA,aL,dG,aC,true_and];omega
 have z3:Rs b (n:Int)=false:=by simp only[Rs,aA,dG];omega
 have z4:Aov b (n:Int)=false:=z3;have z5:Adh y T r hi nx=K3 y T r hi nx:=by unfold Adh K3;rw[s1,aU];simp only[ac,dF,dR,ne_eq];exact⟨λ⟨⟨a,c⟩,d⟩=>⟨⟨d,by omega⟩,c⟩,λ⟨⟨d,a⟩,c⟩=>⟨⟨by omega,c⟩,d⟩⟩
 have z6:Adg y T r lo=K2 y T r lo:=by unfold Adg K2;rw[s2,aU];simp only[ac,dF,dR,ne_eq];exact⟨λ⟨a,c⟩=>⟨by omega,c⟩,λ⟨a,c⟩=>⟨by omega,c⟩⟩
 unfold Aly L_;rw[A8 h hp,Bi h hp];simp only[aa];show (bif false then _ else _)=(bif false then _ else _);simp only[eQ,z1,z2,z3,z4,a1,a2,b1,b2,c1,c2,aa,z5,z6,s1,s2];cases hc:K3 y T r hi nx with
 | true=>
  simp only[eO];have hnx:nx.2=true:=by unfold K3 at hc;simp only[ac]at hc;exact hc.1.1
  obtain⟨k0,k1⟩:=c3 hnx;obtain⟨x,hx⟩:∃x,p.Sources[nx.1.toNat]?=some x:=⟨_,Nf (by omega)⟩;have hg:=Al hx;rw[ba k0]at hg;unfold U4;rw[hg];simp only[aa];cases e0:(x.State==0) with
  |true=>rfl
  | false=>
   simp only[eQ];cases e2:(x.State==2) with
   |false=>rfl
   |true=>simp only[eO];obtain⟨l1,l2⟩:=Mo h hp hn;obtain⟨l,f1,f2⟩:=Jq h k0 k1;unfold X_;rw[l1,l2,F0 h,f1];simp only[aa];rw[A8 h hp,Ib h hp,Gd h hp];simp only[aa];rw[f2];rfl
 | false=>
  simp only[eQ];cases hc3:K2 y T r lo with
  |false=>rfl
  | true=>
   simp only[eO];have hlo:lo.2=true:=by
    cases hl:lo.2 with
    |true=>rfl
    |false=>unfold K2 Hg at hc3;rw[hl]at hc3;simp at hc3
   obtain⟨k0,k1⟩:=a3 hlo;obtain⟨l,f1,f2⟩:=Jq h k0 k1;rw[F0 h,f1];simp only[aa];rw[f2];rfl
def J2(b:c_)(y:eo)(p:dZ)(n:Nat)(T:Int)(r:d_):d_×List a_×Int:=(L_ b y p (n:Int) T r).getD default
def Abb(b:c_)(y:eo)(T:Int)(P:dZ)(ros:List d_)(z:List d_×List a_)(x:Ae):List d_×List a_:=
 if x.Sources.length=0\/C_ b (A0 b T P z.2) (A6 x)=false then z else
  (z.1.set (A6 x) (J2 b y (A0 b T P z.2) (A6 x) T (ros.getD (A6 x) default)).1,z.2++(J2 b y (A0 b T P z.2) (A6 x) T (ros.getD (A6 x) default)).2.1)
def Cp(b:c_)(y:eo)(T:Int)(P:dZ)(ros:List d_)(l:List Ae):List d_×List a_:=l.foldl (Abb b y T P ros) (List.replicate b.Buses.toNat H3,[])
theorem Sv{l:List Ae}{x:Ae}(h:l[j]?=some x):Cp b y T P ros (l.take (j+1))=Abb b y T P ros (Cp b y T P ros (l.take j)) x:=by unfold Cp;rw[An h,aN];rfl
theorem qH(h:Ad b)(hy:Dw y)(hp:Aa b p)(hn:n<b.Buses.toNat)(hT:0<=T/\T<=2147483648)(hr:Ds T r) :
  L_ b y p (n:Int) T r=some (J2 b y p n T r)/\Ds T (J2 b y p n T r).1/\(J2 b y p n T r).2.1.length<=2:=by
 obtain⟨z,e,h1,h2,_⟩:=Amw h hy hp hn hT hr;have:J2 b y p n T r=z:=by unfold J2;rw[e];rfl
 rw[this];exact⟨e,h1,h2⟩
theorem Vo{b:c_}(h:Ad b){y:eo}(hy:Dw y){T:Int}(hT:0<=T/\T<=2147483648){P:dZ}(hp:Aa b P){ros:List d_}(hr:ros.length=b.Buses.toNat/\∀x,x∈ros->Ds T x) :
  ∀(j:Nat),j<=(Am b P).length->(Cp b y T P ros ((Am b P).take j)).2.length<=2*j/\(Cp b y T P ros ((Am b P).take j)).1.length=b.Buses.toNat
 |0,_=>⟨by simp[Cp],by simp[Cp]⟩
 | j+1,hj=>by
  obtain⟨x,hx⟩:∃x,(Am b P)[j]?=some x:=⟨_,af (by omega)⟩;obtain⟨h1,h2⟩:=Vo h hy hT hp hr j (by omega);have hin:=Lw h (ae hx);obtain⟨b0,b1⟩:=Jg hin;rw[Sv hx];unfold Abb;split
  .exact⟨by omega,h2⟩
  .have hro:Ds T (ros.getD (A6 x) default):=hr.2 _ (by
    have:ros[A6 x]?=some (ros.getD (A6 x) default):=by rw[af (by omega)];simp[List.getD,show A6 x<ros.length by omega]
    exact ae this)
   have:=(qH h hy (D7 h T (Cp b y T P ros ((Am b P).take j)).2 hp) b1 hT hro).2.2;exact⟨by rw[aw];omega,by rw[bA];exact h2⟩
theorem Ag7(hr:ros.length=b.Buses.toNat/\∀x,x∈ros->Ds T x)(hn:n<b.Buses.toNat):getI ros (n:Int)=some (ros.getD n default)/\Ds T (ros.getD n default):=by
 have:ros[n]?=some (ros.getD n default):=by rw[af (by omega)];simp[List.getD,show n<ros.length by omega]
 exact⟨Al this,hr.2 _ (ae this)⟩
theorem Aqu(h:Ad b)(hy:Dw y)(hT:0<=T/\T<=2147483648)(hp:Aa b P)(hr:ros.length=b.Buses.toNat/\∀x,x∈ros->Ds T x)
  (evs:List dW)(h1:ev.length<=500000)(h2:st.length<=500000) :
  jL ⟨⟨T,P,ros,evs⟩,b,ev,st⟩ y=some ⟨⟨T,A0 b T P (Cp b y T P ros (Am b P)).2,(Cp b y T P ros (Am b P)).1,evs⟩,b,ev++Cv b T P (Cp b y T P ros (Am b P)).2,st++Cc b T P (Cp b y T P ros (Am b P)).2⟩:=by
 have hbu:=h.buses;have hil:=Ez b P;refine de ?_;unfold jL;have e0:=Ahm hbu;have e1:F58 b P=some (Am b P):=Hd h hp;refine eJ (P:=λv=>v=List.replicate b.Buses.toNat H3) (d9 e0 rfl) λv hv=>?_;subst hv;refine eJ (P:=λv=>v=Am b P) (d9 e1 rfl) λv hv=>?_;subst hv;refine eI (A:=λs=>s=(T,b.Buses,b.Breakers,b.Sources,b.Consumers,b.Phase,b.Frequency,(Cp b y T P ros (Am b P)).1,(A0 b T P (Cp b y T P ros (Am b P)).2).Closed,(A0 b T P (Cp b y T P ros (Am b P)).2).Sources,(A0 b T P (Cp b y T P ros (Am b P)).2).Limits,(A0 b T P (Cp b y T P ros (Am b P)).2).Broken,ros,evs,ev++Cv b T P (Cp b y T P ros (Am b P)).2,st++Cc b T P (Cp b y T P ros (Am b P)).2)) (B:=λ(_:Unit)=>False) ?_ (λs hs=>by subst hs;exact eK rfl) eN;refine c8 (I:=λj s=>s=(T,b.Buses,b.Breakers,b.Sources,b.Consumers,b.Phase,b.Frequency,(Cp b y T P ros ((Am b P).take j)).1,(A0 b T P (Cp b y T P ros ((Am b P).take j)).2).Closed,(A0 b T P (Cp b y T P ros ((Am b P).take j)).2).Sources,(A0 b T P (Cp b y T P ros ((Am b P).take j)).2).Limits,(A0 b T P (Cp b y T P ros ((Am b P).take j)).2).Broken,ros,evs,ev++Cv b T P (Cp b y T P ros ((Am b P).take j)).2,st++Cc b T P (Cp b y T P ros ((Am b P).take j)).2)) ?_ (λj x s hx hI=>?_) λs hs=>by rwa [am]at hs
 .simp[Cp,A0,Cv,Cc]
 have hj:j<(Am b P).length:=(ab.1 hx).1;have hin:=Lw h (ae hx);obtain⟨b0,b1⟩:=Jg hin;obtain⟨g1,g2⟩:=Vo h hy hT hp hr j (by omega);rw[Sv hx];generalize Cp b y T P ros ((Am b P).take j)=z at hI g1 g2;have hq:=D7 h T z.2 hp;have l1:=Gh h T z.2 hp;have l2:=Gg h T z.2 hp;subst hI;unfold zV;rw[b0];simp only[aa];have hl:=Pr h hq b1;obtain⟨q1,q2⟩:=Ag7 hr b1;obtain⟨u1,_,u3⟩:=qH h hy hq b1 hT q2;refine eJ (P:=λv=>x.Sources.length≠0->v=C_ b (A0 b T P z.2) (A6 x)) (c9 (λ_=>d9 hl λ_=>rfl) λhg e=>(hg ⟨by simpa using e,trivial⟩).elim) λv hv=>?_;have hcc:X4 x v=true↔(x.Sources.length=0\/C_ b (A0 b T P z.2) (A6 x)=false):=by
  simp only[X4,aE,dH,aS];by_cases e:x.Sources.length=0
  .simp[e]
  .rw[hv e];simp[e]
 unfold Abb;refine c6 (λhc=>?_) (λhc=>?_)
 .rw[eT (hcc.1 hc)];exact c7 rfl
 .rw[eU (λe=>by rw[hcc.2 e]at hc;cases hc)];refine eJ (P:=λr=>r=ros.getD (A6 x) default) (d9 q1 rfl) λr hr'=>?_;subst hr';refine eJ (P:=λr=>r=J2 b y (A0 b T P z.2) (A6 x) T (ros.getD (A6 x) default)) (d9 u1 rfl) λr hr'=>?_;subst hr';refine(d7 (l:=z.1) (by omega) (by omega)).bind λ_ _=>(da (l:=z.1) (x:=(J2 b y (A0 b T P z.2) (A6 x) T (ros.getD (A6 x) default)).1) (by omega)).bind λw hw=>?_;subst hw;refine Ok.inner (Ag5 h hq ros evs (ev:=ev++Cv b T P z.2) (st:=st++Cc b T P z.2) (l:=(J2 b y (A0 b T P z.2) (A6 x) T (ros.getD (A6 x) default)).2.1) (by rw[aw];omega) (by rw[aw];omega)) (λs hs=>?_) eN;subst hs;refine c7 ?_;rw[Ko,Jd,Jc,aP,aP,aq]
abbrev Aiv(T:Int)(P:dZ)(ros:List d_)(st:List dZ)(ev:List dW):=(T,P.Closed,P.Sources,P.Limits,P.Broken,ros,st,ev)
theorem Amt(h:Ad b)(hp:Aa b P)(ros:List d_) 
  (h1:ev.length+10001*l.length<=1000000)(h2:st.length+10002*l.length<=1000000) :
  Ok (foldI (Zz b) l 0 (Aiv T P ros st ev)) (Bh (λs=>s=Aiv T (A0 b T P l) ros (st++Cc b T P l) (ev++Cv b T P l)) λ(_:Unit)=>False):=by
 refine c8 (I:=λj s=>s=Aiv T (A0 b T P (l.take j)) ros (st++Cc b T P (l.take j)) (ev++Cv b T P (l.take j))) ?_ (λj a s ha hs=>?_) λs hs=>?_
 .simp[A0,Cv,Cc]
 .have hj:j<l.length:=(ab.1 ha).1;have hq:=D7 h T (l.take j) hp;have e1:=Gh h T (l.take j) hp;have e2:=Gg h T (l.take j) hp;rw[aT]at e1 e2;subst hs;unfold Zz;have hd:=Ahu h (p:=⟨T,A0 b T P (l.take j),ros,ev++Cv b T P (l.take j)⟩) hq (by simp;omega) a;have hs2:=qZ h hq T a;refine eJ (P:=λy=>y=_) (d9 ((Asa _ _ _).trans hd) rfl) λy hy=>?_;subst hy;refine(d8 (by simp;omega)).bind λu hu=>c7 ?_;subst hu;have e3:A0 b T P (l.take (j+1))=doP b (A0 b T P (l.take j)) T a:=by rw[An ha,Ko];rfl
  have e4:Cv b T P (l.take (j+1))=Cv b T P (l.take j)++doE b (A0 b T P (l.take j)) T a:=by rw[An ha,Jd];simp[Cv]
  have e5:Cc b T P (l.take (j+1))=Cc b T P (l.take j)++doS b (A0 b T P (l.take j)) T a:=by rw[An ha,Jc];simp[Cc]
  rw[e3,e4,e5,←aP,←aP]
 .rw[am]at hs;exact hs
set_option linter.unusedVariables false
set_option linter.unusedSimpArgs false
def tkM(b:c_)(y:eo)(p:dY)(l:List a_):List d_×List a_:=Cp b y p.Time (A0 b p.Time p.Power l) p.Rosters (Am b (A0 b p.Time p.Power l))
def tkP(b:c_)(y:eo)(p:dY)(l:List a_):dZ:=wtS b (A0 b p.Time p.Power (l++(tkM b y p l).2)) p.Time
def tkE(b:c_)(y:eo)(p:dY)(l:List a_):List dW:=Cv b p.Time p.Power (l++(tkM b y p l).2)
def tkS(b:c_)(y:eo)(p:dY)(l:List a_):List dZ:=[p.Power]++Cc b p.Time p.Power (l++(tkM b y p l).2)++[tkP b y p l]
def tkQ(b:c_)(y:eo)(p:dY)(l:List a_):dY:=⟨p.Time+1,tkP b y p l,(tkM b y p l).1,T3 (p.Events++tkE b y p l)⟩
variable{p:dY}
theorem qC(h:Ad b)(hy:Dw y)(hp:Iu b y p)(l:List a_):(tkM b y p l).2.length<=2*b.Buses.toNat/\(tkM b y p l).1.length=b.Buses.toNat:=by have hq:=D7 h p.Time l hp.st;have:=Vo h hy hp.time hq ⟨hp.nro,hp.ros⟩ _ (ag _);rw[am]at this;have hil:=Ez b (A0 b p.Time p.Power l);exact⟨by unfold tkM;omega,this.2⟩
theorem Auu(h:Ad b)(hy:Dw y)(hp:Iu b y p)(hT:p.Time≠2147483648)(he:p.Events.length<=200)(hl:l.length<=10) :
  F61 b y p l=some (⟨tkQ b y p l,b,tkE b y p l,tkS b y p l⟩,0):=by
 have hbu:=h.buses;have hti:=hp.time;have hst:=hp.st;have hnr:=hp.nro;obtain⟨m1,m2⟩:=qC h hy hp l;refine de ?_;unfold F61;rw[Sd h hy hp];simp only[aa];refine c6 (λhc=>by simp at hc) (λ_=>c6 (λhc=>?_) (λ_=>c6 (λhc=>?_) (λ_=>?_)))
 .simp only[dF]at hc;omega
 .simp only[dH]at hc;omega
 rw[Adp h hst (by omega) (by omega)];simp only[aa];rw[Avh h hst (by simp)];simp only[aa];refine eI (Ag5 h hst p.Rosters p.Events (ev:=[]) (st:=[]++[p.Power]) (l:=l) (by simp;omega) (by simp;omega)) (λs hs=>?_) eN;subst hs;have hq:=D7 h p.Time l hst;have l1:=Gh h p.Time l hst;have l2:=Gg h p.Time l hst;refine eJ (P:=λv=>v=_) (d9 (Aqu h hy hti hq ⟨hnr,hp.ros⟩ p.Events (ev:=[]++Cv b p.Time p.Power l) (st:=[]++[p.Power]++Cc b p.Time p.Power l) (by simp;omega) (by simp;omega)) rfl) λr hr=>?_;subst hr;have eM:Cp b y p.Time (A0 b p.Time p.Power l) p.Rosters (Am b (A0 b p.Time p.Power l))=tkM b y p l:=rfl;rw[eM];have hq2:=D7 h p.Time (tkM b y p l).2 hq;have l3:=Gh h p.Time (tkM b y p l).2 hq;have l4:=Gg h p.Time (tkM b y p l).2 hq;have eE:[]++Cv b p.Time p.Power l++Cv b p.Time (A0 b p.Time p.Power l) (tkM b y p l).2=tkE b y p l:=by unfold tkE;rw[Jd];rfl
 have eS:[]++[p.Power]++Cc b p.Time p.Power l++Cc b p.Time (A0 b p.Time p.Power l) (tkM b y p l).2=[p.Power]++Cc b p.Time p.Power (l++(tkM b y p l).2):=by rw[Jc];simp
 have eP:A0 b p.Time (A0 b p.Time p.Power l) (tkM b y p l).2=A0 b p.Time p.Power (l++(tkM b y p l).2):=(Ko _ _ _ _ _).symm;rw[eE,eS,eP];rw[eP]at hq2;obtain⟨w1,w2,_⟩:=W_ h hq2 hti;have eW:wtP b (A0 b p.Time p.Power (l++(tkM b y p l).2)) p.Time=tkP b y p l:=Al6 h hq2 hti;rw[eW]at w1 w2;refine eJ (P:=λv=>v=(tkP b y p l,(0:Int))) (d9 w1 rfl) λv hv=>?_;subst hv;have lS:(Cc b p.Time p.Power (l++(tkM b y p l).2)).length<=1000000:=by have:=Gg h p.Time (l++(tkM b y p l).2) hst;rw[aw]at this;omega
 have k3:=Arr h (r:=⟨⟨p.Time,tkP b y p l,(tkM b y p l).1,p.Events⟩,b,tkE b y p l,[p.Power]++Cc b p.Time p.Power (l++(tkM b y p l).2)⟩) (p:=tkP b y p l) w2;refine eJ (P:=λv=>v=_) (d9 (k3 (by simp;omega)) rfl) λv hv=>?_;subst hv;have l5:(tkE b y p l).length<=10001*(l++(tkM b y p l).2).length:=Gh h p.Time (l++(tkM b y p l).2) hst;simp only[aw]at l5;refine(d8 (l:=p.Events) (m:=tkE b y p l) (by omega)).bind λu hu=>?_;subst hu;have hlen:((p.Events++tkE b y p l).length:Int)<=10000000:=by simp only[aw];omega
 have ew:w64 (((p.Events++tkE b y p l).length:Int)-200)=((p.Events++tkE b y p l).length:Int)-200:=Ah;rw[ew];have en:(max 0 (((p.Events++tkE b y p l).length:Int)-200)).toNat=(p.Events++tkE b y p l).length-200:=by omega
 refine eJ (P:=λv=>v=T3 (p.Events++tkE b y p l)) ((Ok.cutI (by omega) (by omega) (by omega)).mono λv hv=>?_) λv hv=>?_
 .rw[hv,aq,am,en];rfl
 rw[hv];unfold vN;have hcl:(T3 (p.Events++tkE b y p l)).length<=10000000:=by unfold T3;rw[bV];omega
 rw[Kf];simp only[aa];rw[Ah (n:=p.Time+1)];exact eK rfl
theorem Amf(h:Ad b)(hy:Dw y)(hp:Iu b y p)(hT:p.Time≠2147483648)(he:p.Events.length<=200)(hl:l.length<=10) :
  F62 b y p l=some (tkQ b y p l,tkE b y p l,tkS b y p l,0):=by
 have hbu:=h.buses;have hti:=hp.time;have hst:=hp.st;have hnr:=hp.nro;obtain⟨m1,m2⟩:=qC h hy hp l;refine de ?_;unfold F62;rw[Ahy h hy hp];simp only[aa];refine c6 (λhc=>by simp at hc) (λ_=>c6 (λhc=>?_) (λ_=>c6 (λhc=>?_) (λ_=>?_)))
 .simp only[dF]at hc;omega
 .simp only[dF]at hc;omega
 refine eI (Amt h hst p.Rosters (ev:=[]) (st:=[p.Power]) (l:=l) (by simp;omega) (by simp;omega)) (λs hs=>?_) eN;subst hs;have hq:=D7 h p.Time l hst;have l1:=Gh h p.Time l hst;have l2:=Gg h p.Time l hst;refine eJ (P:=λv=>v=List.replicate b.Buses.toNat (⟨0,0⟩:d_)) ?_ λv hv=>?_
 .exact(Ok.mkI (by omega) (by omega)).mono λv hv=>hv
 subst hv;refine eI (A:=λz=>z=List.replicate b.Buses.toNat H3) (B:=λ(_:Unit)=>False) ?_ (λz hz=>?_) eN
 .refine c8 (I:=λj z=>z=List.replicate j H3++List.replicate (b.Buses.toNat-j) (⟨0,0⟩:d_)) (by simp) (λj x z hx hz=>?_) λz hz=>?_
  .have hj:=(ab.1 hx).1;rw[List.length_replicate]at hj;subst hz;unfold Apn;rw[Bf];refine(d7 (by omega) (by simp;omega)).bind λ_ _=>(da (by omega) (by simp;omega)).bind λw hw=>c7 ?_;rw[hw,aq];have e1:b.Buses.toNat-j=(b.Buses.toNat-(j+1))+1:=by omega
   rw[e1,List.replicate_succ,List.set_append_right _ _ (by simp)];simp only[List.length_replicate,Nat.sub_self,List.set_cons_zero];rw[List.replicate_succ',aP];rfl
  .rw[hz];simp
 subst hz;have hi:Vi b (A0 b p.Time p.Power l)=some (Am b (A0 b p.Time p.Power l)):=Nl h hq;refine eJ (P:=λv=>v=Am b (A0 b p.Time p.Power l)) (d9 hi rfl) λv hv=>?_;subst hv;have hros:p.Rosters.length=b.Buses.toNat/\∀x,x∈p.Rosters->Ds p.Time x:=⟨hnr,hp.ros⟩;refine eI (A:=λs=>s=(p.Time,(A0 b p.Time p.Power (l++(tkM b y p l).2)).Closed,(A0 b p.Time p.Power (l++(tkM b y p l).2)).Sources,(A0 b p.Time p.Power (l++(tkM b y p l).2)).Limits,(A0 b p.Time p.Power (l++(tkM b y p l).2)).Broken,p.Rosters,[p.Power]++Cc b p.Time p.Power (l++(tkM b y p l).2),tkE b y p l,(tkM b y p l).1)) (B:=λ(_:Unit)=>False) ?_ (λs hs=>?_) eN
 .unfold tkE tkM;have hil:=Ez b (A0 b p.Time p.Power l);rw[Ko,Jc,Jd];generalize hP:A0 b p.Time p.Power l=P at hq hil;refine c8 (I:=λj s=>s=(p.Time,(A0 b p.Time P (Cp b y p.Time P p.Rosters ((Am b P).take j)).2).Closed,(A0 b p.Time P (Cp b y p.Time P p.Rosters ((Am b P).take j)).2).Sources,(A0 b p.Time P (Cp b y p.Time P p.Rosters ((Am b P).take j)).2).Limits,(A0 b p.Time P (Cp b y p.Time P p.Rosters ((Am b P).take j)).2).Broken,p.Rosters,[p.Power]++(Cc b p.Time p.Power l++Cc b p.Time P (Cp b y p.Time P p.Rosters ((Am b P).take j)).2),Cv b p.Time p.Power l++Cv b p.Time P (Cp b y p.Time P p.Rosters ((Am b P).take j)).2,(Cp b y p.Time P p.Rosters ((Am b P).take j)).1)) ?_ (λj x s hx hI=>?_) λs hs=>by rwa [am]at hs
  .simp[Cp,A0,Cv,Cc]
  have hj:j<(Am b P).length:=(ab.1 hx).1;have hin:=Lw h (ae hx);obtain⟨b0,b1⟩:=Jg hin;obtain⟨g1,g2⟩:=Vo h hy hti hq hros j (by omega);rw[Sv hx];generalize Cp b y p.Time P p.Rosters ((Am b P).take j)=z at hI g1 g2;have hq2:=D7 h p.Time z.2 hq;have k1:=Gh h p.Time z.2 hq;have k2:=Gg h p.Time z.2 hq;subst hI;unfold Apm;rw[b0];simp only[aa];have hlv:=Lv h hq2 b1;obtain⟨q1,q2⟩:=Ag7 hros b1;obtain⟨u1,_,u3⟩:=qH h hy hq2 b1 hti q2;have u2:=(Amu h hy hq2 b1 hti q2).trans u1;refine eJ (P:=λv=>x.Sources.length≠0->v=C_ b (A0 b p.Time P z.2) (A6 x)) (c9 (λ_=>d9 hlv λ_=>rfl) λhg e=>(hg ⟨by simpa using e,trivial⟩).elim) λv hv=>?_;have hcc:Akh x v=true↔(x.Sources.length=0\/C_ b (A0 b p.Time P z.2) (A6 x)=false):=by
   simp only[Akh,aE,dH,aS];by_cases e:x.Sources.length=0
   .simp[e]
   .rw[hv e];simp[e]
  unfold Abb;refine c6 (λhc=>?_) (λhc=>?_)
  .rw[eT (hcc.1 hc)];exact c7 rfl
  .rw[eU (λe=>by rw[hcc.2 e]at hc;cases hc)];refine eJ (P:=λr=>r=p.Rosters.getD (A6 x) default) (d9 q1 rfl) λr hr'=>?_;subst hr';refine eJ (P:=λr=>r=J2 b y (A0 b p.Time P z.2) (A6 x) p.Time (p.Rosters.getD (A6 x) default)) (d9 u2 rfl) λr hr'=>?_;subst hr';refine(d7 (l:=z.1) (by omega) (by omega)).bind λ_ _=>(da (l:=z.1) (x:=(J2 b y (A0 b p.Time P z.2) (A6 x) p.Time (p.Rosters.getD (A6 x) default)).1) (by omega)).bind λw hw=>?_;subst hw;have hr3:∀R s0 s1,Ok (foldI (Apl b) R 0 s0) s1=Ok (foldI (Zz b) R 0 s0) s1:=λ_ _ _=>rfl;refine Ok.inner (A:=λs=>s=Aiv p.Time (A0 b p.Time (A0 b p.Time P z.2) (J2 b y (A0 b p.Time P z.2) (A6 x) p.Time (p.Rosters.getD (A6 x) default)).2.1) p.Rosters _ _) (B:=λ(_:Unit)=>False) (Amt h hq2 p.Rosters (ev:=Cv b p.Time p.Power l++Cv b p.Time P z.2) (st:=[p.Power]++(Cc b p.Time p.Power l++Cc b p.Time P z.2)) (l:=(J2 b y (A0 b p.Time P z.2) (A6 x) p.Time (p.Rosters.getD (A6 x) default)).2.1) (by rw[aw];omega) (by rw[aw,aw,cz];omega)) (λs hs=>?_) eN;subst hs;refine c7 ?_;rw[Ko,Jd,Jc,aq,aP,aP,aP]
 subst hs;have hq2:=D7 h p.Time (l++(tkM b y p l).2) hst;have hw:F65 b (A0 b p.Time p.Power (l++(tkM b y p l).2)) p.Time ⟨7,0,0⟩=some (tkP b y p l,0):=Ah1 h hq2 hti 0 0;refine eJ (P:=λv=>v=(tkP b y p l,(0:Int))) (d9 hw rfl) λv hv=>?_;subst hv;have l5:(tkE b y p l).length<=10001*(l++(tkM b y p l).2).length:=Gh h p.Time (l++(tkM b y p l).2) hst;have l6:=Gg h p.Time (l++(tkM b y p l).2) hst;simp only[aw]at l5 l6;refine(d8 (by rw[aw,cz,cz];omega)).bind λu hu=>?_;rw[Kf];simp only[aa];refine(d8 (l:=p.Events) (m:=tkE b y p l) (by omega)).bind λu2 hu2=>?_;subst hu hu2;rw[Ah (n:=p.Time+1)];refine c6 (λhc=>?_) (λhc=>?_)
 .simp only[dF]at hc;have hlen:((p.Events++tkE b y p l).length:Int)<=10000000:=by simp only[aw];omega
  rw[Ah];have en:(((p.Events++tkE b y p l).length:Int)-200).toNat=(p.Events++tkE b y p l).length-200:=by omega
  refine eJ (P:=λv=>v=T3 (p.Events++tkE b y p l)) ((Ok.cutI (by omega) (by omega) (by omega)).mono λv hv=>?_) λv hv=>?_
  .rw[hv,aq,am,en];rfl
  .rw[hv];exact eK rfl
 .simp only[dG]at hc;refine eK ?_;have:T3 (p.Events++tkE b y p l)=p.Events++tkE b y p l:=by
   unfold T3;rw[show (p.Events++tkE b y p l).length-200=0 by omega,List.drop_zero]
  unfold tkQ;rw[this];rfl
set_option linter.unusedVariables false
set_option linter.unusedSimpArgs false
theorem Pq{l:List α}{x y:α}(hx:l[j]?=some x)(h:y∈l.take (j+1)):y∈l.take j\/y=x:=by rw[An hx,ao,aF]at h;exact h
theorem Ast{l:List b_}(h:l.length<=1000):Ok (Ql l) λv=>v=false↔∀a,a∈l->Hh a:=by
 unfold Ql Z4;refine eJ (P:=λy=>y<0↔∀a,a∈l->Hh a) ?_ (λy hy=>eK (by rw[dG,←hy];omega));refine eI (A:=λ_=>∀a,a∈l->Hh a) (B:=λy=>0<=y/\∃a,a∈l/\¬Hh a) ?_ (λs hs=>eK ⟨λ_=>hs,λ_=>by omega⟩) (λy hy=>eK ⟨λe=>by omega,λe=>by obtain⟨a,h1,h2⟩:=hy.2;exact(h2 (e a h1)).elim⟩);refine c8 (I:=λj _=>∀a,a∈l.take j->Hh a) (λa ha=>by simp at ha) (λj x s hx hI=>?_) λs hI=>by rwa [am]at hI
 have hj:=(ab.1 hx).1;unfold Uu Afm;refine c6 (λhc=>Ok.ret ⟨by rw[Bf];omega,x,ae hx,λe=>by rw[show N8 x=true from e]at hc;cases hc⟩) λhc=>c7 λa ha=>?_;rcases Pq hx ha with ha|rfl
 .exact hI a ha
 .show N8 a=true;simpa using hc
theorem Agz{x:eq}(h:x.Forbidden.length<=1000):∃v,Vg x=some v/\Sa x=some v/\(v=true↔Eo x):=by
 have hA:(((((B5 x.Kind 1 3)&&(B5 x.Station 0 1))&&(B5 x.Max 0 5000))&&(B5 x.Rate 0 5000))&&(B5 x.Cost 1 100)&&(decide ((x.Forbidden.length:Int)<=4))) = !Ke x:=by unfold B5 Ke;rw[aU];simp only[ac,dF,aS,aA,dG];omega
 obtain⟨v,e1,e2⟩:=Ast (l:=x.Forbidden) h;have hR:Sa x=some (!Ke x && !v):=by
  refine de ?_;unfold Sa;refine c6 (λhc=>eK (by rw[hc];rfl)) λhc=>?_;rw[hc];refine eI (A:=λ_=>∀a,a∈x.Forbidden->Hh a) (B:=λy=>y=false/\∃a,a∈x.Forbidden/\¬Hh a) ?_ (λ_ hs=>eK (by rw[e2.2 hs];rfl)) (λy hy=>eK ?_)
  .refine c8 (I:=λj _=>∀a,a∈x.Forbidden.take j->Hh a) (λa ha=>by simp at ha) (λj z s hx hI=>?_) λs hI=>by rwa [am]at hI
   unfold vH;rw[Ah0];refine c6 (λhc=>Ok.ret ⟨rfl,z,ae hx,λe=>by rw[show N8 z=true from e]at hc;cases hc⟩) λhc=>c7 λa ha=>?_;rcases Pq hx ha with ha|rfl
   .exact hI a ha
   .show N8 a=true;simpa using hc
  .obtain⟨rfl,a,h1,h2⟩:=hy;cases v with
   |true=>rfl
   |false=>exact(h2 (e2.1 rfl a h1)).elim
 have hP:Vg x=some (!Ke x && !v):=by unfold Vg;rw[hA,e1];cases Ke x <;> cases v <;> rfl
 refine⟨_,hP,hR,?_⟩;constructor
 .intro hv;simp only[ac,aS]at hv;obtain⟨k1,k2⟩:=hv;simp only[Ke,aA,dG]at k1;exact⟨by omega,by omega,by omega,by omega,by omega,by omega,e2.1 k2⟩
 .intro hx;have:=jV hx;rw[hR]at this;exact bI this
theorem Aqr(h:x.Thrusters.length<=1000)(hf:∀t,t∈x.Thrusters->t.Forbidden.length<=1000):∃e,F68 x=some e/\F73 x=some e/\(e=0->P9 x):=by
 unfold F68 F73;cases hl:decide ((x.Thrusters.length:Int)>8) with
 |true=>exact⟨2,rfl,rfl,λe=>by cases e⟩
 |false=>
 simp only[eQ];have hcc:Akg x=Ro x:=by
  unfold Akg Ro;rw[aU];simp only[aE,ac,dF,dH];by_cases e:(0<=x.Bow/\x.Bow<=200)/\0<=x.Stern/\x.Stern<=200
  .rw[Ah];omega
  .omega
 rw[hcc];cases hc:Ro x with
 |true=>exact⟨1,rfl,rfl,λe=>by cases e⟩
 |false=>
 simp only[eQ];simp only[dG]at hl;simp only[Ro,aA,bQ,dG,dJ,ne_eq]at hc;have hP:Ok (Qm x.Thrusters) λv=>v=false↔∀t,t∈x.Thrusters->Eo t:=by
  unfold Qm Z_;refine eJ (P:=λy=>y<0↔∀a,a∈x.Thrusters->Eo a) ?_ (λy hy=>eK (by rw[dG,←hy];omega));refine eI (A:=λ_=>∀a,a∈x.Thrusters->Eo a) (B:=λy=>0<=y/\∃a,a∈x.Thrusters/\¬Eo a) ?_ (λs hs=>eK ⟨λ_=>hs,λ_=>by omega⟩) (λy hy=>eK ⟨λe=>by omega,λe=>by obtain⟨a,h1,h2⟩:=hy.2;exact(h2 (e a h1)).elim⟩);refine c8 (I:=λj _=>∀a,a∈x.Thrusters.take j->Eo a) (λa ha=>by simp at ha) (λj z s hx hI=>?_) λs hI=>by rwa [am]at hI
  have hj:=(ab.1 hx).1;obtain⟨v,v1,_,v3⟩:=Agz (hf z (ae hx));unfold U7 Alo;rw[v1];simp only[aa];refine c6 (λhc=>Ok.ret ⟨by rw[Bf];omega,z,ae hx,λe=>by rw[v3.2 e]at hc;cases hc⟩) λhc=>c7 λa ha=>?_;rcases Pq hx ha with ha|rfl
  .exact hI a ha
  .exact v3.1 (by simpa using hc)
 have hR:Ok (foldI Aei x.Thrusters 0 ()) (Bh (λ_=>∀a,a∈x.Thrusters->Eo a) (λy=>y=14/\∃a,a∈x.Thrusters/\¬Eo a)):=by
  refine c8 (I:=λj _=>∀a,a∈x.Thrusters.take j->Eo a) (λa ha=>by simp at ha) (λj z s hx hI=>?_) λs hI=>by rwa [am]at hI
  obtain⟨v,_,v2,v3⟩:=Agz (hf z (ae hx));unfold Aei;rw[v2];simp only[aa];refine c6 (λhc=>Ok.ret ⟨rfl,z,ae hx,λe=>by rw[v3.2 e]at hc;cases hc⟩) λhc=>c7 λa ha=>?_;rcases Pq hx ha with ha|rfl
  .exact hI a ha
  .exact v3.1 (by simpa using hc)
 obtain⟨v,v1,v2⟩:=hP;obtain⟨w,w1,w2⟩:=hR;rw[v1,w1];have ok:(∀t,t∈x.Thrusters->Eo t)->P9 x:=λht=>⟨by omega,by omega,by omega,ht⟩;cases v with
 |false=>
  have ha:=v2.1 rfl
  match w,w2 with
  |.next _,_=>exact⟨0,rfl,rfl,λ_=>ok ha⟩
  |.brk _,_=>exact⟨0,rfl,rfl,λ_=>ok ha⟩
  |.ret y,⟨_,a,k1,k2⟩=>exact(k2 (ha a k1)).elim
 |true=>
  match w,w2 with
  |.next _,k=>exact(by cases v2.2 k)
  |.brk _,k=>exact(by cases v2.2 k)
  |.ret y,⟨k,_⟩=>subst k;exact⟨14,rfl,rfl,λe=>by cases e⟩
theorem Asy(hN:Ji b){p:dZ}(hb:p.Broken.length<=1000)(h:x.Thrusters.length<=1000)(hf:∀t,t∈x.Thrusters->t.Forbidden.length<=1000) :
  ∃v,F29 x b p=some v/\F30 x b p=some v/\v.1.length<=1000:=by
 obtain⟨e,e1,e2,e3⟩:=Aqr h hf;obtain⟨s,s1,s2,s3⟩:=Od hN hb;by_cases he:e=0
 .by_cases hs:s=0
  .obtain⟨hB,hS⟩:=s3 hs;have hx:=e3 he;obtain⟨u,u1,u2,u3⟩:=Apa hB hS hx;obtain⟨w,w1,w2,w3⟩:=Asz hB hS hx (by rw[e2,he]);have:u=w:=Prod.ext (u3.unique w3) (by rw[u2,w2]);subst this;exact⟨u,u1,w1,by have:=u3.1;omega⟩
  .refine⟨([],s),?_,?_,by simp⟩
   .unfold F29;rw[e1,s1,he];simp only[aa];rw[dR.2 hs];rfl
   .unfold F30;rw[e2,s2,he];simp only[aa];rw[dR.2 hs];rfl
 .refine⟨([],e),?_,?_,by simp⟩
  .unfold F29;rw[e1];simp only[aa];rw[dR.2 he];rfl
  .unfold F30;rw[e2];simp only[aa];rw[dR.2 he];rfl
set_option linter.unusedVariables false
set_option linter.unusedSimpArgs false
theorem Wy{l:List dW}(h:l.length<=10000000):F25 l l=some true:=by refine de ?_;unfold F25;refine c6 (λhc=>by simp at hc) λ_=>eI (A:=λ_=>True) (B:=λy=>y=true) ?_ (λ_ _=>eK rfl) (λy hy=>eK hy);refine c8 (I:=λ_ _=>True) trivial (λj x z hx _=>?_) λ_ _=>trivial;have hj:=(ab.1 hx).1;unfold Ap0;rw[Bf,Al hx,aa];exact c6 (λhc=>by simp[Aub]at hc) λ_=>c7 trivial
structure Sma(p:dY):Prop where
 pw:Mi p.Power
 ro:p.Rosters.length<=1000
 ev:p.Events.length<=10000000
theorem Oy(h:Sma p):F16 p p=some true:=by
 obtain⟨h1,h2,h3⟩:=h;refine de ?_;unfold F16;rw[J4 h1,Wy h3];refine eJ (P:=λy=>y=true) (c9 (λ_=>eK rfl) λhn=>(hn ⟨by simp,trivial⟩).elim) λy hy=>?_;subst hy;refine eJ (P:=λy=>y=true) (c9 (λ_=>eK rfl) λhn=>(hn ⟨by simp,trivial⟩).elim) λy hy=>?_;subst hy;refine c6 (λhc=>by simp[Auf]at hc) λ_=>eI (A:=λ_=>True) (B:=λy=>y=true) ?_ (λ_ _=>eK rfl) (λy hy=>eK hy);refine d6 (λs=>0<=s/\s<=(p.Rosters.length:Int)) (λs=>((p.Rosters.length:Int)-s).toNat) _ (0:Int) (by omega) (by omega) ?_;rintro i ⟨g1,g2⟩;unfold Ap4 Aue;refine c6 (λhq=>?_) (λ_=>db trivial);simp only[dF]at hq;refine(d7 g1 hq).bind λu hu=>(d7 g1 hq).bind λv hv=>?_;rw[hu]at hv;cases hv;refine c6 (λhc=>by simp[Aud]at hc) λ_=>c7 ⟨?_,?_⟩
 .rw[Ah];omega
 .rw[Ah];omega
def H0:dY:=⟨0,⟨[],[],[],[]⟩,[],[]⟩
theorem Ln:Sma H0:=⟨⟨by simp[H0],by simp[H0],by simp[H0],by simp[H0]⟩,by simp[H0],by simp[H0]⟩
theorem Are(h:Ad b)(hy:Dw y)(hc:F47 b=some 0):F15 b y=some (Aji b,0):=by
 have h1:=h.buses;have h2:=h.brl;have h3:=h.sol;have h4:=h.col;refine de ?_;unfold F15;rw[hc,aa];refine c6 (λhc=>by simp at hc) λ_=>c6 (λhc=>?_) λ_=>?_
 .rw[Ob,Hq hy]at hc;simp at hc
 refine(Ok.mkI (by omega) (by omega)).bind λc hc=>?_;subst hc;refine eI (A:=λz=>z.2=List.replicate b.Sources.length Fx) (B:=λ(_:Unit)=>False) ?_ (λz hz=>?_) eN
 .refine d6 (λz:Int×List ee=>∃j:Nat,j<=b.Sources.length/\z=((j:Int),List.replicate j Fx)) (λz=>((b.Sources.length:Int)-z.1).toNat) _ _ ⟨0,by omega,rfl⟩ (by dsimp only;omega) ?_;rintro z ⟨j,hj,rfl⟩;unfold Ap7 Aug;dsimp only;refine c6 (λhq=>?_) (λhq=>db ?_)
  .simp only[dF]at hq;refine(d8 (by simp;omega)).bind λw hw=>c7 ⟨⟨j+1,by omega,?_⟩,?_⟩
   .rw[hw,Ah,List.replicate_succ'];rfl
   .dsimp only;rw[Ah];omega
  .simp only[dG]at hq;rw[show j=b.Sources.length by omega]
 rw[hz];refine eI (A:=λz=>z=b.Consumers.map (·.Load)) (B:=λ(_:Unit)=>False) ?_ (λz2 hz2=>?_) eN
 .refine c8 (I:=λj z=>z=(b.Consumers.take j).map (·.Load)) rfl (λj x z hx hz=>?_) λz hz=>by rwa [am]at hz
  have hj:=(ab.1 hx).1;subst hz;unfold Ap6;refine(d8 (by simp;omega)).bind λw hw=>c7 ?_;rw[hw,An hx,bh];rfl
 subst hz2;refine eI (A:=λz=>z.2=List.replicate b.Buses.toNat H3) (B:=λ(_:Unit)=>False) ?_ (λz3 hz3=>eK (by rw[hz3];rfl)) eN;refine d6 (λz:Int×List d_=>∃j:Nat,j<=b.Buses.toNat/\z=((j:Int),List.replicate j H3)) (λz=>(b.Buses-z.1).toNat) _ _ ⟨0,by omega,rfl⟩ (by dsimp only;omega) ?_;rintro z ⟨j,hj,rfl⟩;unfold Ap5;dsimp only;refine c6 (λhq=>?_) (λhq=>db ?_)
 .simp only[dF]at hq;refine(d8 (by simp;omega)).bind λw hw=>c7 ⟨⟨j+1,by omega,?_⟩,?_⟩
  .rw[hw,Ah,List.replicate_succ'];rfl
  .dsimp only;rw[Ah];omega
 .simp only[dG]at hq;rw[show j=b.Buses.toNat by omega]
theorem Avb(hN:Ji b)(y:eo):∃v,F14 b y=some v/\F15 b y=some v/\Sma v.1:=by
 obtain⟨e,e1,e2,e3⟩:=zF hN;by_cases he:e=0
 .subst he;have h:=e3 rfl;by_cases hy:F44 y=true
  .have hty:=(vY y).1 hy;have hbu:=h.buses;exact⟨_,Awt h hty,Are h hty e2,(Af9 h).lens h,by simp[Aji];omega,by simp[Aji]⟩
  .have hy2:F44 y=false:=by simpa using hy
   refine⟨(H0,1),?_,?_,Ln⟩
   .unfold F14;rw[e1,hy2];rfl
   .unfold F15;rw[e2,Ob,hy2];rfl
 .refine⟨(H0,e),?_,?_,Ln⟩
  .unfold F14;rw[e1,aa,dR.2 he];rfl
  .unfold F15;rw[e2,aa,dR.2 he];rfl
theorem Ar2(h:Ad b)(hn:n<b.Buses.toNat):∃x,x∈Am b c/\Av b c (A6 x)=Av b c n:=by
 have hgg:=Axa (s:=groups b c) (i:=n) (by rw[Hn];exact hn);have hlo:=Oo h c n _ hgg;have hgn:(groups b c).getD n 0=((Av b c n:Nat):Int):=by unfold Av;omega
 have hmem:(n:Int)∈(isl b c (Av b c n)).Buses:=an.2 ⟨n,ar.2 ⟨aV.2 hn,by rw[dH];exact hgn⟩,rfl⟩;have hx:isl b c (Av b c n)∈Am b c:=by
  refine ar.2 ⟨an.2 ⟨Av b c n,aV.2 (by omega),rfl⟩,?_⟩;unfold Iw;cases hl:(isl b c (Av b c n)).Buses with
  |nil=>rw[hl]at hmem;cases hmem
  |cons y l=>simp only[bf,aS,dJ];omega
 exact⟨_,hx,Adm h hx⟩
theorem Ao4(hN:Ji b){p:dZ}(hb:p.Broken.length<=1000):∃v,F19 b p=some v/\F20 b p=some v:=by
 obtain⟨e,e1,e2,e3⟩:=Od hN hb;by_cases he:e=0
 .subst he;obtain⟨h,hp⟩:=e3 rfl;have hbu:=h.buses;have hil:=Ez b p;have hP:F19 b p=some (!(Am b p).any λx=>decide ((x.Sources.length:Int)>0)):=by
   unfold F19;rw[e1,Hd h hp];have e1:Ag [(((0:Int)==0),true)] (some (Am b p)) default=some (Am b p):=rfl;simp only[aa];rw[e1];simp only[aa];rw[Asp _ (by omega)];simp[Ag,C9]
  refine⟨_,hP,?_⟩;refine de ?_;unfold F20;refine eI (A:=λ_=>∀n:Nat,n<b.Buses.toNat->C_ b p n=false) (B:=λr=>r=false/\∃n:Nat,n<b.Buses.toNat/\C_ b p n=true) ?_ (λz hz=>?_) (λr hr=>eK ?_)
  .refine d6 (λz=>∃k:Nat,z=(k:Int)/\(k:Int)<=b.Buses/\∀n:Nat,n<k->C_ b p n=false) (λz=>(b.Buses-z).toNat) _ _ ⟨0,rfl,by omega,by omega⟩ (by omega) λz hz=>?_;obtain⟨k,rfl,h1,h2⟩:=hz;unfold Aff;refine c6 (λhc=>?_) (λhc=>db λn hn=>h2 n ?_)
   .simp only[Aar,ac,dF]at hc;rw[Lv h hp (by omega),Ah];simp only[aa];refine c6 (λhl=>Ok.ret ⟨rfl,k,by omega,hl⟩) (λhl=>c7 ⟨⟨k+1,rfl,by omega,λn hn=>?_⟩,by omega⟩);by_cases e:n=k
    .rw[e];exact hl
    .exact h2 n (by omega)
   .simp only[Aar,bQ,dG]at hc;omega
  .rw[e2];refine eK ?_;have:((Am b p).any λx=>decide ((x.Sources.length:Int)>0))=false:=by
    rw[bq];intro x hx;obtain⟨k1,k2⟩:=Y1 h hx;have:=hz _ k2;unfold C_ at this;change decide (((isl b p (Av b p (A6 x))).Sources.length:Int)>0)=false at this;rw[←k1]at this;rw[this];simp
   rw[this];rfl
  .obtain⟨rfl,n,hn,hl⟩:=hr;obtain⟨x,hx,hg⟩:=Ar2 h (c:=p) hn;obtain⟨k1,k2⟩:=Y1 h hx;have:((Am b p).any λx=>decide ((x.Sources.length:Int)>0))=true:=by
    rw[bv];refine⟨x,hx,?_⟩;change decide (((isl b p (Av b p n)).Sources.length:Int)>0)=true at hl;rw[←hg,←k1]at hl;exact hl
   rw[this];rfl
 .refine⟨false,?_,?_⟩
  .unfold F19;rw[e1,aa,dJ.2 he];rfl
  .refine de ?_;unfold F20;refine eI (A:=λ_=>True) (B:=λr=>r=false) ?_ (λz hz=>?_) (λr hr=>eK hr)
   .refine d6 (λz=>0<=z/\z<=6) (λz=>((6:Int)-z).toNat) _ _ (by omega) (by omega) λz hz=>?_;have hlv:F60 b p z=some false:=by
     unfold F60 Ii;rw[e2,aa];have:Zp b z e=true:=by simp[Zp,he]
     rw[this];rfl
    unfold Aff;refine c6 (λhc=>?_) (λhc=>db trivial);simp only[Aar,ac,dF]at hc;rw[hlv,Ah,aa];exact c6 (λhc=>by cases hc) λ_=>c7 (by omega)
   .rw[e2,aa,dJ.2 he];exact eK rfl
theorem Ab1{b:c_}:∀(l:List a_){p:dZ},Aa b p->(∀x,x∈l->Aa4 b x)->∀q,q∈Ea l p->Aa b q
 | [],p,_,_,q,hq=>by cases hq
 |x::l,p,hp,hl,q,hq=>by
  rcases ah.1 hq with rfl|hq
  .exact Aas hp (hl x ai)
  .exact Ab1 l (Aas hp (hl x ai)) (λy hy=>hl y (ak _ hy)) q hq
theorem An8(h:Ad b){p:dZ}(hp:Aa b p)(T:Int)(a:a_):∀q,q∈doS b p T a->Aa b q:=by
 intro q hq;unfold doS at hq;split at hq
 .rename_i he;obtain⟨hn,_,_⟩:=P0 h hp he;have htr:=Abk h hn;rcases ao.1 hq with hq|hq
  .rcases ao.1 hq with hq|hq
   .rw[aF]at hq;rw[hq];exact hn
   .exact Ab1 _ hn htr.2 q hq
  .split at hq
   .cases hq
   .rw[aF]at hq;rw[hq];exact P1 h hp T a
 .cases hq
theorem Ag6{b:c_}(h:Ad b)(T:Int):∀(l:List a_){p:dZ},Aa b p->∀q,q∈Cc b T p l->Aa b q
 | [],p,hp,q,hq=>by cases hq
 |a::l,p,hp,q,hq=>by
  rcases ao.1 hq with hq|hq
  .exact An8 h hp T a q hq
  .exact Ag6 h T l (P1 h hp T a) q hq
theorem Ax1(hN:Ji b)(hb:p.Power.Broken.length<=1000)(hr:p.Rosters.length<=1000)(he:p.Events.length<=200)(a:a_) :
  ∃v,F27 b p a=some v/\F28 b p a=some v/\Sma v.1/\v.2.1.length<=1000000/\∀q,q∈v.2.1->Mi q:=by
 obtain⟨e,e1,e2,e3⟩:=Od hN hb;by_cases h0:e=0
 .subst h0;obtain⟨h,hp⟩:=e3 rfl;have hl:=uB h hp p.Time a;exact⟨_,Azq h hp hr (by omega) a,Ahu h hp (by omega) a,⟨(P1 h hp _ a).lens h,hr,by rw[aw];omega⟩,by have:=qZ h hp p.Time a;dsimp only;omega,λq hq=>(An8 h hp _ a q hq).lens h⟩
 .refine⟨(H0,[],e),?_,?_,Ln,by simp,λq hq=>by cases hq⟩
  .unfold F27;rw[e1,aa,dR.2 h0];rfl
  .unfold F28;rw[e2,aa,dR.2 h0];rfl
theorem Aqk(hN:Ji b)(y:eo)(hb:p.Power.Broken.length<=1000)(hr:p.Rosters.length<=1000)(he:p.Events.length<=200)(hl:l.length<=10) :
  ∃(v:dY×List dW×Int)(w:List dZ),(F21 b y p l=some v/\F23 b y p l=some (w,v.2.2))/\(F22 b y p l=some v/\F24 b y p l=some (w,v.2.2))/\Sma v.1/\v.2.1.length<=1000000/\w.length<=1000000/\∀q,q∈w->Mi q:=by
 obtain⟨e,e1,e2,e3⟩:=yI hN (y:=y) hb hr;have hl2:decide ((l.length:Int)>200)=false:=dL (by omega);by_cases h0:e=0
 .subst h0;obtain⟨h,hy,hp⟩:=e3 rfl;have hti:=hp.time;by_cases hT:p.Time=2147483648
  .have t1:F61 b y p l=none:=by
    unfold F61;rw[e1,aa,hl2,dH.2 hT];rfl
   have t2:R6 b y p l=some 16:=by unfold R6;rw[e1,aa,hl2,dH.2 hT];rfl
   have t3:F62 b y p l=some (H0,[],[],16):=by unfold F62;rw[e2,aa,hl2,dK (show p.Time>=2147483648 by omega)];rfl
   refine⟨(H0,[],16),[],⟨?_,?_⟩,⟨?_,?_⟩,Ln,by simp,by simp,λq hq=>by cases hq⟩
   .unfold F21;rw[t1,t2];rfl
   .unfold F23;rw[t1,t2];rfl
   .unfold F22;rw[t3];rfl
   .unfold F24;rw[t3];rfl
  .have t1:=Auu h hy hp hT he hl;have t3:=Amf h hy hp hT he hl;obtain⟨m1,m2⟩:=qC h hy hp l;have hbu:=h.buses;have hq:=D7 h p.Time (l++(tkM b y p l).2) hp.st;have l5:(tkE b y p l).length<=10001*(l++(tkM b y p l).2).length:=Gh h p.Time (l++(tkM b y p l).2) hp.st;rw[aw]at l5;obtain⟨_,w2,_⟩:=W_ h hq hti;rw[Al6 h hq hti]at w2;have hP:Aa b (tkP b y p l):=w2;refine⟨(tkQ b y p l,tkE b y p l,0),tkS b y p l,⟨?_,?_⟩,⟨?_,?_⟩,⟨hP.lens h,?_,?_⟩,?_,?_,?_⟩
   .unfold F21;rw[t1];rfl
   .unfold F23;rw[t1];rfl
   .unfold F22;rw[t3];rfl
   .unfold F24;rw[t3];rfl
   .show (tkM b y p l).1.length<=1000;omega
   .unfold tkQ T3;simp only[bV,aw];omega
   .show (tkE b y p l).length<=1000000;omega
   .have l6:=Gg h p.Time (l++(tkM b y p l).2) hp.st;rw[aw]at l6;unfold tkS;simp only[aw,cz];omega
   .intro q hq;rcases ao.1 hq with hq|hq
    .rcases ao.1 hq with hq|hq
     .rw[aF]at hq;rw[hq];exact hp.st.lens h
     .exact(Ag6 h _ _ hp.st q hq).lens h
    .rw[aF]at hq;rw[hq];exact hP.lens h
 .have t1:F61 b y p l=none:=by
   unfold F61;rw[e1,aa,dR.2 h0];rfl
  have t2:R6 b y p l=some e:=by unfold R6;rw[e1,aa,dR.2 h0];rfl
  have t3:F62 b y p l=some (H0,[],[],e):=by unfold F62;rw[e2,aa,dR.2 h0];rfl
  refine⟨(H0,[],e),[],⟨?_,?_⟩,⟨?_,?_⟩,Ln,by simp,by simp,λq hq=>by cases hq⟩
  .unfold F21;rw[t1,t2,aa,dR.2 h0];rfl
  .unfold F23;rw[t1,t2,aa,dR.2 h0];rfl
  .unfold F22;rw[t3];rfl
  .unfold F24;rw[t3];rfl
set_option linter.unusedVariables false
set_option linter.unusedSimpArgs false
theorem Aqp(b:c_)(p:dZ):Ok (F4 b p) λv=>v=true->Ji b/\p.Broken.length<=1000:=by
 unfold F4;refine eI (A:=λ_=>Ji b) (B:=λy=>y=false) ?_ (λ_ hs=>eK λe=>⟨hs,?_⟩) (λy hy=>eK λe=>by rw[hy]at e;cases e)
 .refine c8 (I:=λj _=>∀a,a∈b.Consumers.take j->a.Needs.length<=1000) (λa ha=>by simp at ha) (λj x s hx hI=>?_) λs hI=>by rwa [am]at hI
  unfold Aul;refine c6 (λ_=>Ok.ret rfl) λhc=>c7 λa ha=>?_;simp only[dG]at hc;rcases Pq hx ha with ha|rfl
  .exact hI a ha
  .omega
 .simp only[ac,dF]at e;omega
theorem Auv(x:ef):Ok (F6 x) λv=>v=true->x.Thrusters.length<=1000/\∀t,t∈x.Thrusters->t.Forbidden.length<=1000:=by
 unfold F6;refine eI (A:=λ_=>∀t,t∈x.Thrusters->t.Forbidden.length<=1000) (B:=λy=>y=false) ?_ (λ_ hs=>eK λe=>⟨?_,hs⟩) (λy hy=>eK λe=>by rw[hy]at e;cases e)
 .refine c8 (I:=λj _=>∀a,a∈x.Thrusters.take j->a.Forbidden.length<=1000) (λa ha=>by simp at ha) (λj z s hx hI=>?_) λs hI=>by rwa [am]at hI
  unfold Auk;refine c6 (λ_=>Ok.ret rfl) λhc=>c7 λa ha=>?_;simp only[Ax4,aA,dG]at hc;rcases Pq hx ha with ha|rfl
  .exact hI a ha
  .omega
 .simp only[dF]at e;omega
theorem Am1(hs:A4 s):Ok (F40 s) λy=>A4 y.2:=by unfold F40;exact(B8 hs _ (by simp) (by simp)).bind λy hy=>eK hy.1
theorem Ass(h:Ad b)(hs:A4 s){p:dZ}(hp:Aa b p):Ok (Aa3 s p) λy=>A4 y.2/\y.1.Broken.length<=p.Broken.length+1:=by
 have g2:=h.brl;have g3:=h.sol;have g4:=h.col;have n1:=hp.ncl;have n2:=hp.nso;have n3:=hp.nli;have n4:=hp.brk.len;unfold Aa3;rw[Dv h hp];simp only[aa];refine(D2 hs 6 (by omega) (by omega)).bind λy hy=>?_;refine c6 (λ_=>?_) (λ_=>c6 (λ_=>c6 (λhc=>?_) (λ_=>eK ⟨hy.1,by dsimp only;omega⟩)) (λ_=>c6 (λ_=>c6 (λhc=>?_) (λ_=>eK ⟨hy.1,by dsimp only;omega⟩)) (λ_=>c6 (λ_=>c6 (λhc=>?_) (λ_=>eK ⟨hy.1,by dsimp only;omega⟩)) (λ_=>c6 (λ_=>?_) (λ_=>?_)))))
 .exact(d8 (by simp;omega)).bind λc hc=>eK ⟨hy.1,by dsimp only;omega⟩
 .simp only[dF]at hc;exact(D2 hy.1 (p.Sources.length:Int) (by omega) (by omega)).bind λk hk=>(Fl hk.1 (-1) 5 (by omega) (by omega)).bind λv hv=>(d7 hk.2.1 hk.2.2).bind λx hx=>(da hk.2.1 hk.2.2).bind λl hl=>eK ⟨hv.1,by dsimp only;omega⟩
 .simp only[dF]at hc;exact(D2 hy.1 (p.Sources.length:Int) (by omega) (by omega)).bind λk hk=>(Am1 hk.1).bind λv hv=>(d7 hk.2.1 hk.2.2).bind λx hx=>(da hk.2.1 hk.2.2).bind λl hl=>eK ⟨hv,by dsimp only;omega⟩
 .simp only[dF]at hc;exact(D2 hy.1 (p.Limits.length:Int) (by omega) (by omega)).bind λk hk=>(Am1 hk.1).bind λv hv=>(d7 hk.2.1 hk.2.2).bind λx hx=>(da hk.2.1 hk.2.2).bind λl hl=>eK ⟨hv,by dsimp only;omega⟩
 .refine(Fl hy.1 0 5 (by omega) (by omega)).bind λk hk=>(Fl hk.1 (-1) 5 (by omega) (by omega)).bind λv hv=>(d8 (by simp;omega)).bind λl hl=>eK ⟨hv.1,?_⟩;rw[hl];simp
 .refine eI (A:=λ_=>True) (B:=λ(_:Unit)=>False) ?_ (λz hz=>eK ⟨hy.1,by dsimp only;omega⟩) eN;refine d6 (λz=>0<=z.1/\z.1<=(p.Closed.length:Int)/\z.2.length=p.Closed.length) (λz=>((p.Closed.length:Int)-z.1).toNat) _ _ ⟨by dsimp only;omega,by dsimp only;omega,rfl⟩ (by dsimp only;omega) ?_;rintro⟨i,l⟩ ⟨h0,h1,h2⟩;dsimp only at h0 h1 h2;unfold Afw;dsimp only;refine c6 (λhc=>?_) (λ_=>db trivial);simp only[Ahz,dF]at hc;refine(d7 (l:=l) h0 (by omega)).bind λ_ _=>(da h0).bind λl2 hl2=>?_;rw[Ah];refine c7 ⟨⟨by dsimp only;omega,by dsimp only;omega,by rw[hl2];simpa using h2⟩,by dsimp only;omega⟩
theorem Rj{L:List α}{f:Int->Option (Ctl Int Bool)}(hL:L.length<=100)(hn:L.length<n)(g:α->Int->Option (Ctl Int Bool))(hg:∀z:Int,f z=bif decide (z<L.length)then (getI L z).bind λx=>g x z else some (.brk z))
  (hf:∀x,x∈L->∀j:Int,Ok (g x j) λc=>c=.next (w64 (j+1))):Ok (whileN f n 0) (Bh (λ_=>True) λ(_:Bool)=>False):=by
 refine d6 (λz:Int=>0<=z/\z<=L.length) (λz=>((L.length:Int)-z).toNat) _ (0:Int) (by omega) (by omega) λz hz=>?_;rw[hg];refine c6 (λhc=>?_) (λ_=>db trivial);simp only[dF]at hc;refine(d7 hz.1 hc).bind λx hx=>(hf x (ae hx) z).mono λc hc2=>?_;subst hc2;show (0<=w64 (z+1)/\w64 (z+1)<=L.length)/\_;rw[Ah];omega
theorem Abd{l:List dZ}(e:l=m)(h:∀q,q∈l->Mi q)(hl:l.length<=9223372036854775807){f:Nat->dZ->Unit->Option (Ctl Unit Bool)}(hf:∀j x z,f j x z=(getI m (cnt 0 j)).bind λy=>(F26 x y).bind λv=>bif !v then some (.ret false) else some (.next ())) :
  Ok (foldI f l 0 ()) (Bh (λ_=>True) λ(_:Bool)=>False):=by
 subst e;refine c8 (I:=λ_ _=>True) trivial (λj x z hx _=>?_) λ_ _=>trivial;have hj:=(ab.1 hx).1;rw[hf,Bf,Al hx,aa,J4 (h x (ae hx)),aa];exact c7 trivial
structure PlR(q:dY):Prop where
 br:q.Power.Broken.length<=1000
 ro:q.Rosters.length<=1000
 ev:q.Events.length<=200
theorem Aky(hN:Ji b)(y:eo)(hq:PlR q)(hl:l.length<=10)(hi:[y18.1,x4][i]?=some l) :
  Ok (Wi x4 y18 b y q (i:Int)) λc=>c=.next (w64 ((i:Int)+1)):=by
 obtain⟨v,w,⟨s1,s2⟩,⟨s3,s4⟩,s5,s6,s7,s8⟩:=Aqk hN y hq.br hq.ro hq.ev hl;have hi2:i<2:=by have:=(ab.1 hi).1;simpa using this
 unfold Wi;rw[dK (show (i:Int)<2 by omega),eO,Al hi];simp only[aa];rw[s1,s2,s3,s4];simp only[aa];rw[Oy s5,aa];have e1:Ag [(!true,false)] (F25 v.2.1 v.2.1) default=some true:=by rw[Wy (by omega)];rfl
 rw[e1,aa];have e2:Ac5 v v (w,v.2.2) (w,v.2.2) true true=false:=by simp[Ac5]
 rw[e2,eQ];refine Ok.inner (Abd rfl s8 (by omega) λ_ _ _=>rfl) (λ_ _=>?_) λ_ h=>h.elim;refine Ok.inner (A:=λ_=>True) (B:=λ(_:Bool)=>False) ?_ (λ_ _=>eK rfl) λ_ h=>h.elim;refine c8 (I:=λ_ _=>True) trivial (λk a z ha _=>?_) λ_ _=>trivial;obtain⟨u,d1,d2,d3,d4,d5⟩:=Ax1 hN hq.br hq.ro hq.ev a;unfold Aum;rw[d1,d2];simp only[aa];rw[Oy d3,aa];have e3:Ac4 u u true=false:=by simp[Ac4]
 rw[e3,eQ];exact Ok.inner (Abd rfl d5 (by omega) λ_ _ _=>rfl) (λ_ _=>c7 trivial) λ_ h=>h.elim
theorem Af4(hN:Ji b)(hq:PlR q){y16:ef×Ab}(h:∀x,x∈[y16.1,x5]->x.Thrusters.length<=1000/\∀t,t∈x.Thrusters->t.Forbidden.length<=1000) :
  Ok (whileN (Ak6 x5 y16 b q) 5 0) (Bh (λ_=>True) λ(_:Bool)=>False):=by
 refine Rj (L:=[y16.1,x5]) (by simp) (by simp) (λx z=>(F29 x b q.Power).bind λy81=>(F30 x b q.Power).bind λy83=>(F31 y81.1 y83.1).bind λy85=>bif ((!y85) || (y81.2 != y83.2))then some (.ret false) else some (.next (w64 (z+1)))) (λ_=>rfl) λx hx j=>?_;obtain⟨h1,h2⟩:=h x hx;obtain⟨v,e1,e2,e3⟩:=Asy hN hq.br h1 h2;rw[e1,e2];simp only[aa];rw[yL _ (by omega),aa];refine c6 (λhc=>by simp at hc) λ_=>eK rfl
theorem Ao8(hN:Ji b)(y:eo)(hq:PlR q)(h:∀l,l∈[y18.1,x4]->l.length<=10) :
  Ok (whileN (Wi x4 y18 b y q) 5 0) (Bh (λ_=>True) λ(_:Bool)=>False):=by
 refine d6 (λz:Int=>0<=z/\z<=2) (λz=>((2:Int)-z).toNat) _ (0:Int) (by omega) (by omega) λz hz=>?_;by_cases e:z<2
 .obtain⟨l,hl⟩:∃l,[y18.1,x4][z.toNat]?=some l:=⟨_,af (by simp;omega)⟩;have:=Aky hN y hq (h l (ae hl)) hl;rw[ba hz.1]at this;refine this.mono λc hc=>?_;subst hc;show (0<=w64 (z+1)/\w64 (z+1)<=2)/\_;rw[Ah];omega
 .unfold Wi;rw[dL e];exact db trivial
theorem plantExact_law(x0:fb)(x1:c_)(x2:eo)(x3:dY)(x4:List a_)(x5:ef):F3 x0 x1 x2 x3 x4 x5=some true:=by
 have sane:F7=some true:=by kernel_rfl
 refine de ?_;unfold F3;refine(Aqp x1 x3.Power).bind λy1 h1=>eJ (P:=λv=>v=true->x5.Thrusters.length<=1000/\∀t,t∈x5.Thrusters->t.Forbidden.length<=1000) (c9 (λ_=>Auv x5) λ_ e=>by cases e) λy3 h3=>c6 (λ_=>by rw[sane];exact eK rfl) λhc=>?_;simp only[Ax5,F5,aA,aL,ac,dF,dG]at hc;obtain⟨⟨⟨c1,c2,c3⟩,c4⟩,c5⟩:=hc;obtain⟨n1,n2⟩:=h1 c1;have n3:=h3 c5;refine(Ayo x0).bind λs hs=>(Aqf hs).bind λw hw=>?_;have hB:=hw.1.ok;have hbu:=hB.buses;obtain⟨_,hty,⟨hpl,htm,hev,hbl⟩,hsr⟩:=hw;have hp:=hpl ⟨0,0,0⟩;have hnr:=hp.nro;have hNb:Ji w.1:=λx hx=>by obtain⟨i,hi⟩:=bB hx;have:=(hB.co i x hi).2.2.2.2;omega
 refine(Ass hB hsr hp.st).bind λy12 h12=>(B8 h12.1 _ (by simp) (by simp)).bind λy14 h14=>(As2 h14.1 (n:=3) (by omega)).bind λy16 h16=>(Ay0 hB h16.2 (k:=4) (by omega)).bind λy18 h18=>?_;have hA:∀l,l∈[y18.1,x4]->l.length<=10:=λl hl=>by
  simp only[ah,List.not_mem_nil,or_false]at hl;rcases hl with rfl|rfl
  .have:=h18.1;omega
  .omega
 have hS:∀x,x∈[y16.1,x5]->x.Thrusters.length<=1000/\∀t,t∈x.Thrusters->t.Forbidden.length<=1000:=λx hx=>by
  simp only[ah,List.not_mem_nil,or_false]at hx;rcases hx with rfl|rfl
  .have:=h16.1.1;exact⟨by have:=this.len;omega,λt ht=>by have:=(this.thr t ht).arcs;omega⟩
  .exact n3
 have hQ:∀q,q∈[w.2.2.1,(⟨w.2.2.1.Time,y12.1,w.2.2.1.Rosters,w.2.2.1.Events⟩:dY),(⟨y14.1,w.2.2.1.Power,w.2.2.1.Rosters,w.2.2.1.Events⟩:dY),x3]->PlR q:=λq hq=>by
  simp only[ah,List.not_mem_nil,or_false]at hq;have he:w.2.2.1.Events.length<=200:=by rw[hev];simp
  have h12b:=h12.2;rcases hq with rfl|rfl|rfl|rfl
  .exact⟨by omega,by omega,he⟩
  .exact⟨by dsimp only;omega,by dsimp only;omega,he⟩
  .exact⟨by dsimp only;omega,by dsimp only;omega,he⟩
  .exact⟨n2,by omega,by omega⟩
 refine eI (A:=λ_=>True) (B:=λ(_:Bool)=>False) ?_ (λ_ _=>by rw[sane];exact eK rfl) eN;refine Rj (L:=[w.1,x1]) (by simp) (by simp) (λb z=>Go.SL.andThen (whileN (Auo x2 x3 x4 x5 w y12 y14 y16 y18 b) 5 0) (λv=>some (.ret v)) λz1=>some (.next (w64 (z+1)))) (λ_=>rfl) λb hb j=>?_;have hN:Ji b:=by
  simp only[ah,List.not_mem_nil,or_false]at hb;rcases hb with rfl|rfl
  .exact hNb
  .exact n1
 refine Ok.inner (A:=λ_=>True) (B:=λ(_:Bool)=>False) ?_ (λ_ _=>eK rfl) λ_ h=>h.elim;refine Rj (L:=[w.2.1,x2]) (by simp) (by simp) (λy z=>(F14 b y).bind λy26=>(F15 b y).bind λy28=>(F16 y26.1 y28.1).bind λy30=>bif ((!y30) || (y26.2 != y28.2))then some (.ret false) else Go.SL.andThen (whileN (Aun x3 x4 x5 w y12 y14 y16 y18 b y) 7 0) (λv=>some (.ret v)) λz2=>some (.next (w64 (z+1)))) (λ_=>rfl) λy hy j=>?_;obtain⟨v,v1,v2,v3⟩:=Avb hN y;rw[v1,v2];simp only[aa];rw[Oy v3,aa];refine c6 (λhc=>by simp at hc) λ_=>Ok.inner (A:=λ_=>True) (B:=λ(_:Bool)=>False) ?_ (λ_ _=>eK rfl) λ_ h=>h.elim;refine Rj (L:=[w.2.2.1,(⟨w.2.2.1.Time,y12.1,w.2.2.1.Rosters,w.2.2.1.Events⟩:dY),(⟨y14.1,w.2.2.1.Power,w.2.2.1.Rosters,w.2.2.1.Events⟩:dY),x3]) (by simp) (by simp) (λq z=>(F17 b y q).bind λy36=>(F18 b y q).bind λy38=>(Ag [((y36 != y38),false)] (F19 b q.Power) default).bind λy40=>(Ag [((y36 != y38),false)] (F20 b q.Power) default).bind λy42=>bif ((y36 != y38) || (!(y40==y42)))then some (.ret false) else Go.SL.andThen (whileN (Wi x4 y18 b y q) 5 0) (λv=>some (.ret v)) λz3=>Go.SL.andThen (whileN (Ak6 x5 y16 b q) 5 0) (λv=>some (.ret v)) λz7=>some (.next (w64 (z+1)))) (λ_=>rfl) λq hq j=>?_;have hR:=hQ q hq;obtain⟨e,e1,e2,_⟩:=yI hN (y:=y) hR.br hR.ro;obtain⟨k,k1,k2⟩:=Ao4 hN hR.br;rw[e1,e2,k1,k2];simp only[aa];have g1:Ag [((e != e),false)] (some k) default=some k:=by simp[Ag,C9]
 rw[g1];simp only[aa];refine c6 (λhc=>by simp at hc) λ_=>?_;exact Ok.inner (Ao8 hN y hR hA) (λ_ _=>Ok.inner (Af4 hN hR hS) (λ_ _=>eK rfl) λ_ h=>h.elim) λ_ h=>h.elim
end Go.Proofs.YtkcebipolafapaaGreat
