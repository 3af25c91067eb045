import Derived.Test.YtkcebipolafapaaGreatPl0
namespace Go.Proofs.YtkcebipolafapaaGreat
open Go.SL
variable{α:Type}{x:Ae}{T a k m t w:Int}{v:Int×Bool}{D E:List Ae}{C:fe}{L idx l s s':fb}{acts:List a_}{ev evs:List dW}{st sts:List dZ}{i j n:Nat}{b:c_}{P c p q r:dZ}{z:dZ×List a_}{y:eo}
def Bw(x:Ae)(c:Int):Bool:=x.Consumers.any (c == ·)
theorem Att(hx:x.Consumers.length<=1000)(c:Int):Uy c x=some (!Bw x c):=by unfold Uy;rw[Cx _ _];rfl
theorem yU{x:Ae}(hx:x.Consumers.length<=1000):∀(l:fb)(k:Nat),foldI (U6 x) l k ()=match l.findIdx? λc=>!Bw x c with
  |some j=>some (.ret (cnt 0 (k+j),x))
  |none=>some (.next ())
 | [],_=>rfl
 | c::l,k=>by
  simp only[foldI,U6,Att hx,aa,List.findIdx?_cons];cases hq:(!Bw x c) with
  |true=>rfl
  | false=>
   simp only[eQ,cO,if_false];rw[yU hx l (k+1)];cases l.findIdx? λc=>!Bw x c with
   |none=>rfl
   |some j=>
    have e:k+1+j=k+(j+1):=by omega
    simp only[bF,e]
theorem Avv(hx:x.Consumers.length<=1000)(l:fb)(hl:l.length<=1000):U0 l x=some (l.filter (Bw x),x):=by
 refine de ?_;unfold U0 Afl;rw[yU hx];cases hf:l.findIdx? λc=>!Bw x c with
 | none=>
  rw[cH]at hf;refine eK ?_;have:l.filter (Bw x)=l:=by rw[bW];intro c hc;have:=hf c hc;simpa using this
  rw[this]
 | some i=>
  rw[cf]at hf;obtain⟨hi,hp,hn⟩:=hf;have e0:cnt 0 (0+i)=(i:Int):=by rw[aH];exact Bf
  simp only[e0,andThen,aa];refine c6 (λhc=>?_) (λ_=>?_)
  .simp only[dH]at hc;omega
  have e1:w64 ((i:Int)+1)=(i:Int)+1:=Ah;rw[e1];refine eI (A:=λs=>0<=s.1/\s.1<=(l.length:Int)/\s.2.2.length=l.length/\s.2.2.take s.1.toNat=l.filter (Bw x)) (B:=λ(_:Unit)=>False) ?_ ?_ eN
  .refine d6 (λs=>(0<=s.1/\s.1<s.2.1/\s.2.1<=(l.length:Int))/\s.2.2.length=l.length/\s.2.2.take s.1.toNat=(l.take s.2.1.toNat).filter (Bw x)/\s.2.2.drop s.2.1.toNat=l.drop s.2.1.toNat) (λs=>((l.length:Int)-s.2.1).toNat) _ _ ?_ ?_ ?_
   .refine⟨by dsimp only;omega,rfl,?_,rfl⟩;dsimp only;have e2:((i:Int)+1).toNat=i+1:=by omega
    rw[e2,aq,An (af hi),aX];have h1:(l.take i).filter (Bw x)=l.take i:=by rw[bW];intro c hc;obtain⟨j,hj,rfl⟩:=cu hc;simp only[aT]at hj;rw[List.getElem_take];have:=hn j (by omega);simpa using this
    have h2:Bw x l[i]=false:=by simpa using hp
    rw[h1];simp[h2]
   .dsimp only;omega
   .rintro⟨a,j,m⟩ ⟨⟨h1,h2,h3⟩,h4,h5,h6⟩;dsimp only at h1 h2 h3 h4 h5 h6;unfold Uz Ac8;dsimp only;refine c6 (λhq=>?_) (λhq=>?_)
    .simp only[dF]at hq;have e1:w64 (j+1)=j+1:=Ah;have e2:w64 (a+1)=a+1:=Ah;have e3:(j+1).toNat=j.toNat+1:=by omega
     have e4:(a+1).toNat=a.toNat+1:=by omega
     refine(d7 (by omega) (by omega)).bind λy hy=>?_;have hyl:l[j.toNat]?=some y:=by have:=congrArg (·[0]?) h6;simp only[ay,bJ]at this;rw[←this];exact hy
     have hdrop:∀(q:fb),q.drop j.toNat=l.drop j.toNat->q.drop (j.toNat+1)=l.drop (j.toNat+1):=λq hq=>by rw[←bL,hq,bL]
     rw[Att hx];simp only[aa,Bool.not_not];refine c6 (λhf=>?_) (λhf=>?_)
     .refine(d7 (by omega) (by omega)).bind λ_ _=>(da (by omega)).bind λz hz=>?_;rw[e1,e2];subst hz;refine c7 ⟨⟨by dsimp only;omega,by simpa using h4,?_,?_⟩,by dsimp only;omega⟩
      .dsimp only;rw[e3,e4,An hyl,aX,←h5];rw[An (x:=y) (by rw[bH (by omega)])];simp[hf,List.take_set_of_le]
      .dsimp only;rw[e3,List.drop_set_of_lt (by omega)];exact hdrop m h6
     .rw[e1];refine c7 ⟨⟨by dsimp only;omega,h4,?_,?_⟩,by dsimp only;omega⟩
      .dsimp only;rw[e3,An hyl,aX,←h5];simp[hf]
      .dsimp only;rw[e3];exact hdrop m h6
    .simp only[dG]at hq;have e:j.toNat=l.length:=by omega
     refine db ⟨h1,by dsimp only;omega,h4,?_⟩;dsimp only;rw[h5,e,am]
  .rintro⟨a,j,m⟩ ⟨h1,h2,h3,h4⟩;dsimp only at h1 h2 h3 h4 ⊢;have hc:(He m a.toNat ((Int.toNat (m.length:Int))-a.toNat) (0:Int)).length=l.length:=by
    simp[He];omega
   refine(Ok.bndI h1 (by omega) (by omega)).bind λ_ _=>(Ok.bndI (by omega) h1 (by rw[hc];omega)).bind λ_ _=>eK ?_;rw[←h4];unfold He;rw[Nat.sub_zero,cP (by simp;omega),List.take_take,Nat.min_self]
def Eb(b:c_)(x:Ae):fb:=(D3 b).filter (Bw x)
theorem M2(h:Ad b){c:Int}(hc:c∈Eb b x):0<=c/\c<b.Consumers.length:=S5 h (ar.1 hc).1
theorem Abn(h:Ad b)(x:Ae):(Eb b x).length<=16:=by have h1:=bk (Bw x) (D3 b);have h2:=Vq h;have h3:=h.col;unfold Eb;omega
def A6(x:Ae):Nat:=(x.Buses.headD 0).toNat
def E_(b:c_)(x:Ae)(z:dZ×List a_):fb×List a_:=Ei b z.1 (A6 x) (Eb b x) (z.1.Limits,z.2)
def Hv(b:c_)(x:Ae)(z:dZ×List a_):fe×List a_:=C6 b (As z.1 (E_ b x z).1) (A6 x) (Eb b x) (z.1.Closed,(E_ b x z).2)
def Fw(b:c_)(z:dZ×List a_)(x:Ae):dZ×List a_:=
 if 0<x.Sources.length then (A1 (As z.1 (E_ b x z).1) (Hv b x z).1,(Hv b x z).2) else z
def Fa(b:c_)(l:List Ae)(z:dZ×List a_):dZ×List a_:=l.foldl (Fw b) z
structure Aau(b:c_)(x:Ae):Prop where
 cons:x.Consumers.length<=16
 ne:x.Buses≠[]
 bus:∀n,n∈x.Buses->0<=n/\n<b.Buses
theorem Lw(h:Ad b)(hx:x∈Am b p):Aau b x:=by
 have hcl:=h.col;unfold Am at hx;obtain⟨h1,h2⟩:=ar.1 hx;obtain⟨f,hf,rfl⟩:=an.1 h1;have hc:(isl b p f).Consumers.length<=b.Consumers.length:=Dd _ _;refine⟨by omega,λe=>?_,λn hn=>?_⟩
 .unfold Iw at h2;rw[e]at h2;simp at h2
 .obtain⟨k,hk,rfl⟩:=an.1 hn;have:=aV.1 (ar.1 hk).1;omega
theorem Jg(hx:Aau b x):getI x.Buses 0=some ((A6 x:Nat):Int)/\A6 x<b.Buses.toNat:=by
 unfold A6;cases hb:x.Buses with
 |nil=>exact absurd hb hx.ne
 |cons n l=>
  have:=hx.bus n (by rw[hb];exact ai);simp only[List.headD_cons];refine⟨?_,by omega⟩;have e:(n.toNat:Int)=n:=by omega
  rw[e];rfl
theorem Au1(h:Ad b)(hp:Aa b p)(ha:acts.length<=1000) :
  U8 ⟨b,p,acts⟩=some ⟨b,(Fa b (Am b p) (p,acts)).1,(Fa b (Am b p) (p,acts)).2⟩/\Aa b (Fa b (Am b p) (p,acts)).1/\(Fa b (Am b p) (p,acts)).2.length<=10000:=by
 have hil:=Ez b p;have hbu:=h.buses;have hcl:=h.col;have hol:=Vq h;have key:Ok (U8 ⟨b,p,acts⟩) λy=>y=⟨b,(Fa b (Am b p) (p,acts)).1,(Fa b (Am b p) (p,acts)).2⟩/\Aa b (Fa b (Am b p) (p,acts)).1/\(Fa b (Am b p) (p,acts)).2.length<=10000:=by
  unfold U8;simp only[(Kt h).1,aa];have hi:F58 b p=some (Am b p):=Hd h hp;refine eJ (P:=λy=>y=Am b p) (d9 hi rfl) λy hy=>?_;subst hy;refine eI (A:=λs=>∃z:dZ×List a_,s=(b.Buses,b.Breakers,b.Sources,b.Consumers,b.Phase,b.Frequency,z.1.Closed,z.1.Sources,z.1.Limits,z.1.Broken,z.2)/\z=Fa b (Am b p) (p,acts)/\Aa b z.1/\z.2.length<=10000) (B:=λ(_:Unit)=>False) ?_ (λs hs=>?_) eN
  .refine c8 (I:=λj s=>∃z:dZ×List a_,s=(b.Buses,b.Breakers,b.Sources,b.Consumers,b.Phase,b.Frequency,z.1.Closed,z.1.Sources,z.1.Limits,z.1.Broken,z.2)/\z=Fa b ((Am b p).take j) (p,acts)/\Aa b z.1/\z.2.length<=1000+400*j) ⟨(p,acts),rfl,rfl,hp,by simpa using ha⟩ (λj x s hx hI=>?_) λs hI=>?_
   .obtain⟨z,h0,h1,h2,h3⟩:=hI;subst h0;have hj:j<(Am b p).length:=(ab.1 hx).1;have hin:=Lw h (ae hx);have hsucc:Fa b ((Am b p).take (j+1)) (p,acts)=Fw b z x:=by
     rw[An hx,h1];unfold Fa;rw[aN];rfl
    have hc:=hin.cons;have hol2:=Abn h x;obtain⟨e0,hb0⟩:=Jg hin;unfold zT;have ecl:Yi (D3 b)=some (D3 b):=by unfold Yi;rw[Kf]
    rw[ecl];simp only[aa];rw[Avv (by omega) _ (by omega)];simp only[aa];refine c6 (λhq=>?_) (λhq=>?_)
    .simp only[dF]at hq;rw[e0];simp only[aa];obtain⟨l1,l2,l3⟩:=Abx h h2 (acts:=z.2) (l:=Eb b x) (λc hc=>M2 h hc) (by omega) hb0;refine eJ (P:=λy=>y=_) (d9 l1 rfl) λy hy=>?_;subst hy;obtain⟨t1,t2,t3⟩:=Agv h l2 (acts:=(E_ b x z).2) (l:=Eb b x) (λc hc=>M2 h hc) (by unfold E_;omega) hb0;refine eJ (P:=λy=>y=_) (d9 t1 rfl) λy hy=>c7 ?_;subst hy;have eS:Fw b z x=(A1 (As z.1 (E_ b x z).1) (Hv b x z).1,(Hv b x z).2):=by unfold Fw;rw[eT (by omega)]
     refine⟨(A1 (As z.1 (E_ b x z).1) (Hv b x z).1,(Hv b x z).2),rfl,by rw[hsucc,eS],t2,?_⟩;have t4:(Hv b x z).2.length<=(E_ b x z).2.length+24*(Eb b x).length:=t3;have l4:(E_ b x z).2.length<=z.2.length+(Eb b x).length:=l3;show (Hv b x z).2.length<=_;omega
    .simp only[dG]at hq;have eS:Fw b z x=z:=by unfold Fw;rw[eU (by omega)]
     exact c7 ⟨z,rfl,by rw[hsucc,eS],h2,by omega⟩
   .rw[am]at hI;obtain⟨z,h0,h1,h2,h3⟩:=hI;exact⟨z,h0,h1,h2,by omega⟩
  .obtain⟨z,h0,h1,h2,h3⟩:=hs;subst h0;subst h1;exact eK ⟨rfl,h2,h3⟩
 obtain⟨r,e,h1,h2⟩:=key;rw[h1]at e;exact⟨e,h2⟩
def Aq0(b:c_)(p:dZ):dZ×List a_:=Fa b (Am b (Iy b p)) (Iy b p,Mg b p)
def J5(b:c_)(p:dZ):dZ:=(Aq0 b p).1
def B3(b:c_)(p:dZ):List a_:=(Aq0 b p).2
theorem Hc(h:Ad b)(hp:Aa b p):Alw b p=some (J5 b p,B3 b p,0)/\Aa b (J5 b p)/\(B3 b p).length<=10000:=by have hbl:=h.brl;have hcl:=Xy b p;obtain⟨s1,s2,s3⟩:=Au1 h (uI hp) (acts:=Mg b p) (by omega);refine⟨?_,s2,s3⟩;unfold Alw Afp Afo;rw[A8 h hp,Bj h hp];simp only[aa,dN,eQ];rw[Ash h hp];simp only[aa];rw[s1];rfl
theorem Ot{f:Nat->α->Unit->Option (Ctl Unit Bool)}{l m:List α}{e:α->α->Bool}(he:∀x y,e x y=true->x=y)
  (hf:∀(j:Nat) x y,l[j]?=some x->m[j]?=some y->f j x ()=bif !e x y then some (.ret false) else some (.next ()))(hl:l.length=m.length) :
  Ok (andThen (foldI f l 0 ()) some λ_=>some true) λv=>v=true->l=m:=by
 refine eI (A:=λ_=>l=m) (B:=λv=>v=false) ?_ (λ_ hs=>eK λ_=>hs) (λv hv=>eK λhh=>by rw[hv]at hh;cases hh);refine c8 (I:=λj _=>l.take j=m.take j) rfl (λj x _ hx hI=>?_) λ_ hI=>?_
 .have hj:=(ab.1 hx).1;have hy:m[j]?=some (m[j]'(by omega)):=af (by omega);rw[hf j x _ hx hy];refine c6 (λ_=>Ok.ret rfl) (λhq=>c7 ?_);have:=he _ _ (by simpa using hq);rw[An hx,An hy,hI,←this]
 .rw[am]at hI;rw[hI,hl,am]
theorem Axi{l m:fe}(h:l.length<=1000):Ok (F90 l m) λv=>v=true->l=m:=by
 unfold F90;refine c6 (λ_=>eK λhh=>by cases hh) (λhq=>?_);have hl:l.length=m.length:=by simp only[dM]at hq;omega
 refine Ot (e:=λx y=>x==y) (λx y hh=>by simpa using hh) (λj x y hx hy=>?_) hl;have hj:=(ab.1 hx).1;unfold Ad6;rw[Bf,Al hy];rfl
theorem Axh{m:fb}(h:l.length<=1000):Ok (F92 l m) λv=>v=true->l=m:=by
 unfold F92;refine c6 (λ_=>eK λhh=>by cases hh) (λhq=>?_);have hl:l.length=m.length:=by simp only[dM]at hq;omega
 refine Ot (e:=λx y=>x==y) (λx y hh=>by simpa using hh) (λj x y hx hy=>?_) hl;have hj:=(ab.1 hx).1;unfold Ad4;rw[Bf,Al hy];rfl
theorem Axf{l m:List ee}(h:l.length<=1000):Ok (F91 l m) λv=>v=true->l=m:=by
 unfold F91;refine c6 (λ_=>eK λhh=>by cases hh) (λhq=>?_);have hl:l.length=m.length:=by simp only[dM]at hq;omega
 refine Ot (e:=λx y=>(x.State==y.State)&&((x.Since==y.Since)&&((x.Frequency==y.Frequency)&&((x.Phase==y.Phase)&&true)))) (λx y hh=>?_) (λj x y hx hy=>?_) hl
 .simp only[ac,dH]at hh;obtain⟨h1,h2,h3,h4,_⟩:=hh;cases x;cases y;simp_all
 .have hj:=(ab.1 hx).1;unfold Ad5;rw[Bf,Al hy];rfl
theorem Axg{l m:List dX}(h:l.length<=1000):Ok (F93 l m) λv=>v=true->l=m:=by
 unfold F93;refine c6 (λ_=>eK λhh=>by cases hh) (λhq=>?_);have hl:l.length=m.length:=by simp only[dM]at hq;omega
 refine Ot (e:=λx y=>(x.Kind==y.Kind)&&((x.Number==y.Number)&&true)) (λx y hh=>?_) (λj x y hx hy=>?_) hl
 .simp only[ac,dH]at hh;obtain⟨h1,h2,_⟩:=hh;cases x;cases y;simp_all
 .have hj:=(ab.1 hx).1;unfold Ad3;rw[Bf,Al hy];rfl
def G2(p q:dZ):Bool:=(F51 p q).getD false
theorem qG(hp:Mi p)(q:dZ):F51 p q=some (G2 p q)/\(G2 p q=true->p=q):=by
 have h1:=hp.c;have h2:=hp.s;have h3:=hp.l;have h4:=hp.k;have key:Ok (F51 p q) λv=>v=true->p=q:=by
  unfold F51;refine(Axi (l:=p.Closed) (m:=q.Closed) (by omega)).bind λv1 e1=>?_;cases v1 with
  |false=>exact eK λhh=>by simp at hh
  | true=>
   refine eJ (P:=λv=>v=true->p.Sources=q.Sources) (Axf (by omega)) λv2 e2=>?_;cases v2 with
   |false=>exact eK λhh=>by simp at hh
   | true=>
    refine eJ (P:=λv=>v=true->p.Limits=q.Limits) (Axh (by omega)) λv3 e3=>?_;cases v3 with
    |false=>exact eK λhh=>by simp at hh
    |true=>refine eJ (P:=λv=>v=true->p.Broken=q.Broken) (Axg (by omega)) λv4 e4=>eK λhh=>?_;have w1:=e1 rfl;have w2:=e2 rfl;have w3:=e3 rfl;have w4:=e4 (by simpa using hh);cases p;cases q;simp_all
 obtain⟨r,e,hr⟩:=key;have:G2 p q=r:=by unfold G2;rw[e];rfl
 rw[this];exact⟨e,hr⟩
def ap(p:dZ)(x:a_):dZ:=if x.Kind=2 then A1 p (p.Closed.set x.Unit.toNat false) else As p (p.Limits.set x.Unit.toNat x.Value)
def Aa4(b:c_)(x:a_):Prop:=(x.Kind=2/\0<=x.Unit/\x.Unit<b.Breakers.length)\/(x.Kind=5/\(0<=x.Unit/\x.Unit<b.Consumers.length)/\0<=x.Value/\x.Value<=(b.Consumers.getD x.Unit.toNat default).Load)
theorem Aas(hp:Aa b p){x:a_}(hx:Aa4 b x):Aa b (ap p x):=by
 unfold ap;rcases hx with⟨hk,_⟩|⟨hk,h1,h2⟩
 .rw[eT hk];exact Ajc hp _
 .rw[eU (by omega)];exact yC hp h2
def Fq(b:c_)(p:dZ)(z:dZ×List a_):Prop:=z.2.foldl ap p=⟨z.1.Closed,p.Sources,z.1.Limits,p.Broken⟩/\∀x,x∈z.2->Aa4 b x
theorem Ads{p q:dZ}:∀(l:fb)(C:fe),q=A1 p C->(D_ l).foldl ap q=A1 p (B6 C l)
 | [],C,hq=>hq
 |i::l,C,hq=>by subst hq;exact Ads l (C.set i.toNat false) rfl
theorem qB(hz:Fq b p z)(q:dU->Bool)(S:List ee):Fq b p (⟨acC b z.1.Closed q,S,z.1.Limits,z.1.Broken⟩,z.2++acA b z.1.Closed q):=by
 refine⟨?_,λx hx=>?_⟩
 .dsimp only;rw[aN,hz.1];exact Ads (p:=⟨z.1.Closed,p.Sources,z.1.Limits,p.Broken⟩) (Be b z.1.Closed q b.Breakers.length) z.1.Closed rfl
 .rcases ao.1 hx with hx|hx
  .exact hz.2 x hx
  .obtain⟨i,hi,rfl⟩:=an.1 hx;obtain⟨k,rfl,hk,_⟩:=Fy.1 hi;exact .inl ⟨rfl,by dsimp only;omega,by dsimp only;omega⟩
theorem Azt{l:List a_}(hz:Fq b p (q,l))(h1:r.Closed=q.Closed)(h2:r.Limits=q.Limits):Fq b p (r,l):=by refine⟨?_,hz.2⟩;have:=hz.1;dsimp only at this ⊢;rw[this,h1,h2]
theorem Amb{b:c_}(h:Ad b){p q:dZ}(n:Nat):∀(l:fb)(z:fb×List a_),(∀c,c∈l->0<=c/\c<b.Consumers.length)->Aa b (As q z.1)->Fq b p (As q z.1,z.2)->Fq b p (As q (Ei b q n l z).1,(Ei b q n l z).2)
 | [],_,_,_,hz=>hz
 | c :: l, z, hl, hs, hz => by
  have hin:=hl c ai;have hok:=Vu (n:=n) h hs hin.1 hin.2;refine Amb h n l (Fi b q n z c) (λd hd=>hl d (ak _ hd)) hok ?_;unfold Fi at hok ⊢;split
  .rename_i hq;rw[eT hq]at hok;obtain⟨_,w2,w3,_⟩:=O2 h hok hin.1 hin.2;have hlen:z.1.length=b.Consumers.length:=hs.nli;have ev:∀v:Int,(z.1.set c.toNat v).getD c.toNat 0=v:=λv=>by rw[Ly,eT ⟨rfl,by omega⟩]
   have w2':0<=(z.1.set c.toNat (z.1.getD c.toNat 0-Cq b (As q z.1) n c)).getD c.toNat 0:=w2;have w3':(z.1.set c.toNat (z.1.getD c.toNat 0-Cq b (As q z.1) n c)).getD c.toNat 0<=(b.Consumers.getD c.toNat default).Load:=w3;rw[ev]at w2' w3';refine⟨?_,λx hx=>?_⟩
   .dsimp only;rw[aN,hz.1];rfl
   .rcases ao.1 hx with hx|hx
    .exact hz.2 x hx
    .simp only[aF]at hx;subst hx;exact .inr ⟨rfl,hin,w2',w3'⟩
  .exact hz
theorem Agw{b:c_}{p q:dZ}(n:Nat):∀(l:fb)(z:fe×List a_),Fq b p (A1 q z.1,z.2)->Fq b p (A1 q (C6 b q n l z).1,(C6 b q n l z).2)
 | [],_,hz=>hz
 |c::l,z,hz=>by
  refine Agw n l (Eg b q n z c) ?_;unfold Eg;split
  .exact qB (z:=(A1 q z.1,z.2)) hz (isC c) q.Sources
  .exact hz
theorem Au4(h:Ad b)(hx:Aau b x)(hs:Aa b z.1)(ha:z.2.length<=10000)(hz:Fq b p z):Aa b (Fw b z x).1/\Fq b p (Fw b z x)/\(Fw b z x).2.length<=z.2.length+400:=by
 have hol2:=Abn h x;obtain⟨e0,hb0⟩:=Jg hx;unfold Fw;split
 .obtain⟨_,l2,l3⟩:=Abx h hs (acts:=z.2) (l:=Eb b x) (λc hc=>M2 h hc) (by omega) hb0;obtain⟨_,t2,t3⟩:=Agv h l2 (acts:=(E_ b x z).2) (l:=Eb b x) (λc hc=>M2 h hc) (by unfold E_;omega) hb0;have t4:(Hv b x z).2.length<=(E_ b x z).2.length+24*(Eb b x).length:=t3;have l4:(E_ b x z).2.length<=z.2.length+(Eb b x).length:=l3;refine⟨t2,?_,by dsimp only;omega⟩;have hl:Fq b p (As z.1 (E_ b x z).1,(E_ b x z).2):=Amb h (A6 x) (Eb b x) (z.1.Limits,z.2) (λc hc=>M2 h hc) hs hz;exact Agw (A6 x) (Eb b x) (z.1.Closed,(E_ b x z).2) hl
 .exact⟨hs,hz,by omega⟩
theorem Ag8{b:c_}(h:Ad b){p:dZ}:∀(l:List Ae)(z:dZ×List a_),(∀x,x∈l->Aau b x)->Aa b z.1->z.2.length+400*l.length<=10000->Fq b p z->Fq b p (Fa b l z)
 | [],_,_,_,_,hz=>hz
 |x::l,z,hl,hs,ha,hz=>by rw[bf]at ha;obtain⟨h1,h2,h3⟩:=Au4 h (hl x ai) hs (by omega) hz;exact Ag8 h l (Fw b z x) (λy hy=>hl y (ak _ hy)) h1 (by omega) h2
theorem Ax2(p:dZ):Fq b p (Iy b p,Mg b p):=by have h0:Fq b p (p,[]):=⟨rfl,λx hx=>by cases hx⟩;have h1:=qB h0 (Bm p) p.Sources;have h2:=qB h1 (Cf b (Bu b p)) p.Sources;exact Azt h2 rfl rfl
theorem Abk(h:Ad b)(hp:Aa b p):Fq b p (J5 b p,B3 b p):=by have hil:=Ez b (Iy b p);have hbu:=h.buses;have hbl:=h.brl;have hcl:=Xy b p;exact Ag8 h (Am b (Iy b p)) (Iy b p,Mg b p) (λx hx=>Lw h hx) (uI hp) (by dsimp only;omega) (Ax2 p)
def Ea:List a_->dZ->List dZ
 | [],_=>[]
 |x::l,p=>ap p x::Ea l (ap p x)
theorem H_:∀(l:List a_)(p:dZ),(Ea l p).length=l.length
 | [],_=>rfl
 |x::l,p=>by simp[Ea,H_ l]
theorem Q9:∀(l:List a_)(x:a_)(p:dZ),Ea (l++[x]) p=Ea l p++[ap (l.foldl ap p) x]
 | [],_,_=>rfl
 |y::l,x,p=>by show ap p y::Ea (l++[x]) (ap p y)=_;rw[Q9 l x];rfl
def Bd(b:c_)(p:dZ)(t:Int)(a:a_):dZ×Int:=(Er b p t a).getD default
theorem uO(h:Ad b)(hp:Aa b p)(t:Int)(a:a_):Er b p t a=some (Bd b p t a)/\((Bd b p t a).2≠0\/Aa b (Bd b p t a).1):=by
 obtain⟨r,e,hr⟩:=Ayj h hp t a;have:Bd b p t a=r:=by unfold Bd;rw[e];rfl
 rw[this];exact⟨e,hr.imp (·.1) (·.2)⟩
def K0(b:c_)(p:dZ)(t:Int)(a:a_):Int:=if a.Kind=7 then 1 else (Bd b p t a).2
def Md(b:c_)(p:dZ)(t:Int)(a:a_):dZ:=(Bd b p t a).1
def doP(b:c_)(p:dZ)(t:Int)(a:a_):dZ:=if K0 b p t a=0 then J5 b (Md b p t a) else p
def doE(b:c_)(p:dZ)(t:Int)(a:a_):List dW:=⟨t,a,K0 b p t a⟩::if K0 b p t a=0 then (B3 b (Md b p t a)).map (λx=>⟨t,x,0⟩) else []
def On(b:c_)(p:dZ)(t:Int)(a:a_):dZ:=(B3 b (Md b p t a)).foldl ap (Md b p t a)
def doS(b:c_)(p:dZ)(t:Int)(a:a_):List dZ:=
 if K0 b p t a=0 then [Md b p t a]++Ea (B3 b (Md b p t a)) (Md b p t a)++(if G2 (On b p t a) (doP b p t a)=true then [] else [doP b p t a]) else []
theorem P0(h:Ad b)(hp:Aa b p){a:a_}(he:K0 b p t a=0):Aa b (Md b p t a)/\(Bd b p t a).2=0/\a.Kind≠7:=by
 unfold K0 at he;by_cases hk:a.Kind=7
 .rw[eT hk]at he;omega
 .rw[eU hk]at he;rcases(uO h hp t a).2 with h1|h1
  .exact absurd he h1
  .exact⟨h1,he,hk⟩
theorem P1(h:Ad b)(hp:Aa b p)(t:Int)(a:a_):Aa b (doP b p t a):=by
 unfold doP;split
 .rename_i he;exact(Hc h (P0 h hp he).1).2.1
 .exact hp
theorem Q6(h:Ad b){r:Ax}(hp:Aa b p)(h1:r.states.length<=10000000):N_ r p=some ⟨r.Aj,r.Af,r.events,r.states++[p]⟩:=by refine de ?_;unfold N_;rw[Bj h hp];simp only[aa];exact(d8 (by simp;omega)).bind λs hs=>eK (by rw[hs])
theorem Ahd{r:Ax}(h1:r.events.length<=10000000)(a:a_)(e:Int):Vh r a e=some ⟨r.Aj,r.Af,r.events++[⟨r.Aj.Time,a,e⟩],r.states⟩:=by refine de ?_;unfold Vh;exact(d8 (by simp;omega)).bind λs hs=>eK (by rw[hs])
theorem Pg{b:c_}:∀(l:List a_){p:dZ},Aa b p->(∀x,x∈l->Aa4 b x)->Aa b (l.foldl ap p)
 | [],_,hp,_=>hp
 |x::l,p,hp,hl=>Pg l (Aas hp (hl x ai)) λy hy=>hl y (ak _ hy)
theorem Atz(h:Ad b){ros:List d_}(hp:Aa b P)(h1:ev.length<=1000000)(h2:sts.length<=1000000)(a:a_) :
  R5 ⟨⟨T,P,ros,evs⟩,b,ev,sts⟩ a=some ⟨⟨T,doP b P T a,ros,evs⟩,b,ev++doE b P T a,sts++doS b P T a⟩:=by
 obtain⟨ha,_⟩:=uO h hp T a;refine de ?_;unfold R5;simp only[ha,aa];refine eI (A:=λs=>s=K0 b P T a) (B:=λ(_:Unit)=>False) ?_ (λs hs=>?_) eN
 .unfold Aem K0;refine c6 (λhq=>dj ?_) (λhq=>dj ?_)
  .rw[eT (by simpa using hq)]
  .rw[eU (by simpa using hq)]
 subst hs;rw[Ahd (by dsimp only;omega)];simp only[aa];refine c6 (λhq=>eK ?_) (λhq=>?_)
 .have he:¬K0 b P T a=0:=by simpa using hq
  unfold doP doE doS;rw[eU he,eU he,eU he];simp
 have he:K0 b P T a=0:=by simpa using hq
 obtain⟨hn,_,_⟩:=P0 h hp he;have hn':Aa b (Bd b P T a).1:=hn;rw[Q6 h hn' (by dsimp only;omega)];simp only[aa];obtain⟨p1,p2,p3⟩:=Hc h hn';rw[p1];simp only[aa];have htr:=Abk h hn';have eP:doP b P T a=J5 b (Bd b P T a).1:=by unfold doP Md;rw[eT he]
 have eE:doE b P T a=⟨T,a,0⟩::(B3 b (Bd b P T a).1).map (λx=>⟨T,x,0⟩):=by unfold doE Md;rw[eT he,he]
 have eL:On b P T a=(B3 b (Bd b P T a).1).foldl ap (Bd b P T a).1:=rfl;refine eI (A:=λs=>∃q:dZ,q=On b P T a/\s=(T,b.Buses,b.Breakers,b.Sources,b.Consumers,b.Phase,b.Frequency,P.Closed,P.Sources,P.Limits,P.Broken,ros,evs,q.Closed,ev++doE b P T a,sts++([(Bd b P T a).1]++Ea (B3 b (Bd b P T a).1) (Bd b P T a).1),q.Limits)) (B:=λ(_:Unit)=>False) ?_ (λs hs=>?_) eN
 .refine c8 (I:=λj s=>∃q:dZ,q=((B3 b (Bd b P T a).1).take j).foldl ap (Bd b P T a).1/\(q.Sources=(Bd b P T a).1.Sources/\q.Broken=(Bd b P T a).1.Broken)/\s=(T,b.Buses,b.Breakers,b.Sources,b.Consumers,b.Phase,b.Frequency,P.Closed,P.Sources,P.Limits,P.Broken,ros,evs,q.Closed,ev++(⟨T,a,0⟩::((B3 b (Bd b P T a).1).take j).map (λx=>(⟨T,x,0⟩:dW))),sts++([(Bd b P T a).1]++Ea ((B3 b (Bd b P T a).1).take j) (Bd b P T a).1),q.Limits)) ⟨(Bd b P T a).1,rfl,⟨rfl,rfl⟩,?_⟩ (λj x s hx hI=>?_) λs hI=>?_
  .simp[Ea,he]
  .obtain⟨q,hq1,⟨hq2,hq3⟩,rfl⟩:=hI;have hj:j<(B3 b (Bd b P T a).1).length:=(ab.1 hx).1;have hin:=htr.2 x (ae hx);have hqok:Aa b q:=by
    rw[hq1];exact Pg _ hn' λy hy=>htr.2 y (be hy)
   have hapok:=Aas hqok hin;have hcl:=hqok.ncl;have hli:=hqok.nli;unfold Aen;refine eJ (P:=λy=>y=_) (d9 (Ahd (r:=⟨⟨T,P,ros,evs⟩,b,ev++(⟨T,a,0⟩::((B3 b (Bd b P T a).1).take j).map (λx=>(⟨T,x,0⟩:dW))),sts++([(Bd b P T a).1]++Ea ((B3 b (Bd b P T a).1).take j) (Bd b P T a).1)⟩) (by simp;omega) x 0) rfl) λy hy=>?_;subst hy;have hfold:((B3 b (Bd b P T a).1).take (j+1)).foldl ap (Bd b P T a).1=ap q x:=by rw[An hx,aN,←hq1];rfl
   have hint:Ea ((B3 b (Bd b P T a).1).take (j+1)) (Bd b P T a).1=Ea ((B3 b (Bd b P T a).1).take j) (Bd b P T a).1++[ap q x]:=by rw[An hx,Q9,←hq1]
   refine c6 (λhk=>?_) (λhk=>?_)
   .have hk2:x.Kind=2:=by simpa using hk
    have hx1:0<=x.Unit/\x.Unit<b.Breakers.length:=by
     rcases hin with⟨_,h3⟩|⟨h3,_⟩
     .exact h3
     .omega
    have eA:ap q x=⟨q.Closed.set x.Unit.toNat false,(Bd b P T a).1.Sources,q.Limits,(Bd b P T a).1.Broken⟩:=by unfold ap;rw[eT hk2,←hq2,←hq3];rfl
    refine(d7 (l:=q.Closed) hx1.1 (by omega)).bind λ_ _=>(da (l:=q.Closed) hx1.1).bind λC hC=>?_;subst hC;refine eJ (P:=λy=>y=_) (d9 (Q6 h (r:=⟨⟨T,P,ros,evs⟩,b,(ev++(⟨T,a,0⟩::((B3 b (Bd b P T a).1).take j).map (λx=>(⟨T,x,0⟩:dW))))++[⟨T,x,0⟩],sts++([(Bd b P T a).1]++Ea ((B3 b (Bd b P T a).1).take j) (Bd b P T a).1)⟩) (p:=⟨q.Closed.set x.Unit.toNat false,(Bd b P T a).1.Sources,q.Limits,(Bd b P T a).1.Broken⟩) (by rw[←eA];exact hapok) (by simp[H_];omega)) rfl) λy hy=>c7 ?_;subst hy;refine⟨ap q x,hfold.symm,by rw[eA];exact⟨rfl,rfl⟩,?_⟩;rw[hint,eA,An hx];simp
   .have hk2:¬x.Kind=2:=by simpa using hk
    have hx1:0<=x.Unit/\x.Unit<b.Consumers.length:=by
     rcases hin with⟨h3,_⟩|⟨_,h3,_⟩
     .omega
     .exact h3
    have eA:ap q x=⟨q.Closed,(Bd b P T a).1.Sources,q.Limits.set x.Unit.toNat x.Value,(Bd b P T a).1.Broken⟩:=by unfold ap;rw[eU hk2,←hq2,←hq3];rfl
    refine(d7 (l:=q.Limits) hx1.1 (by omega)).bind λ_ _=>(da (l:=q.Limits) hx1.1).bind λC hC=>?_;subst hC;refine eJ (P:=λy=>y=_) (d9 (Q6 h (r:=⟨⟨T,P,ros,evs⟩,b,(ev++(⟨T,a,0⟩::((B3 b (Bd b P T a).1).take j).map (λx=>(⟨T,x,0⟩:dW))))++[⟨T,x,0⟩],sts++([(Bd b P T a).1]++Ea ((B3 b (Bd b P T a).1).take j) (Bd b P T a).1)⟩) (p:=⟨q.Closed,(Bd b P T a).1.Sources,q.Limits.set x.Unit.toNat x.Value,(Bd b P T a).1.Broken⟩) (by rw[←eA];exact hapok) (by simp[H_];omega)) rfl) λy hy=>c7 ?_;subst hy;refine⟨ap q x,hfold.symm,by rw[eA];exact⟨rfl,rfl⟩,?_⟩;rw[hint,eA,An hx];simp
  .obtain⟨q,hq1,_,rfl⟩:=hI;rw[am]at hq1 ⊢;exact⟨q,hq1,by rw[eE]⟩
 .obtain⟨q,hq,rfl⟩:=hs;have hqok:Aa b q:=by rw[hq,eL];exact Pg _ hn' htr.2
  have hqS:q=⟨q.Closed,(Bd b P T a).1.Sources,q.Limits,(Bd b P T a).1.Broken⟩:=by have h3:=htr.1;rw[←eL,←hq]at h3;rw[h3]
  have hsm:=qG (hqok.lens h) (J5 b (Bd b P T a).1);have hsm1:=hsm.1;rw[hqS]at hsm1;have e6:G2 ⟨q.Closed,(Bd b P T a).1.Sources,q.Limits,(Bd b P T a).1.Broken⟩ (J5 b (Bd b P T a).1)=G2 (On b P T a) (doP b P T a):=by rw[←hqS,hq,eP]
  refine eJ (P:=λy=>y=G2 (On b P T a) (doP b P T a)) (d9 hsm1 e6) λy hy=>?_;subst hy;have eD:doS b P T a=[(Bd b P T a).1]++Ea (B3 b (Bd b P T a).1) (Bd b P T a).1++(if G2 (On b P T a) (doP b P T a)=true then [] else [doP b P T a]):=by unfold doS Md;rw[eT he]
  cases hsb:G2 (On b P T a) (doP b P T a) with
  |false=>rw[hsb]at eD;refine eJ (P:=λy=>y=_) (d9 (Q6 h (r:=⟨⟨T,P,ros,evs⟩,b,ev++doE b P T a,sts++([(Bd b P T a).1]++Ea (B3 b (Bd b P T a).1) (Bd b P T a).1)⟩) p2 (by simp[H_];omega)) rfl) λy hy=>eK ?_;subst hy;rw[eD,eP];simp
  |true=>rw[hsb]at eD;refine eK ?_;rw[eD,eP];simp
theorem F0(h:Ad b)(i:Int):Yc b i=some (Et b i):=by
 have hb:=h.brl;unfold Yc Afb;refine de ?_;refine eJ (P:=λy=>y=(Et b i,i)) ?_ (λy hy=>eK (by rw[hy]));have key:=K_ (f:=λn(a:dU)(z:Unit)=>(bif (a.Kind==2&&a.B==i)then some (.ret (cnt 0 n)) else some (.next ()):Option (Ctl Unit Int))) (p:=λx:dU=>x.Kind==2&&x.B==i) (λ_ _=>rfl) b.Breakers 0 (by omega);have:∀(xs:List dU)(k:Nat),foldI (Ur i) xs k ()=match foldI (λn(a:dU)(z:Unit)=>(bif (a.Kind==2&&a.B==i)then some (.ret (cnt 0 n)) else some (.next ()):Option (Ctl Unit Int))) xs k () with
   |some (.ret r)=>some (.ret (r,i))
   |some (.next _)=>some (.next ())
   |some (.brk _)=>some (.brk ())
   |none=>none:=by
  intro xs;induction xs with
  |nil=>intro k;rfl
  |cons x xs ih=>
   intro k;simp only[foldI,Ur,Afa];cases hq:(x.Kind==2&&x.B==i) with
   |true=>rfl
   |false=>simp only[eQ];exact ih (k+1)
 rw[this,key];unfold Et G8;cases b.Breakers.findIdx? (λx:dU=>x.Kind==2&&x.B==i) with
 |none=>exact eK rfl
 |some j=>exact eK rfl
theorem Aah(h:Ad b)(hp:Aa b p)(hn:n<b.Buses.toNat):Hz b p (n:Int)=some (isl b p (Av b p n),true):=of_eq h hp hn
theorem Ayb{x:Int×Int}(h:x∈bw l):x.2∈l:=by unfold bw Fo at h;obtain⟨j,hj,rfl⟩:=an.1 h;have:=aV.1 hj;dsimp only;rw[af (by omega)];exact List.getElem_mem _
theorem Aww(h:Ad b)(hp:Aa b p)(y:eo)(hn:n<b.Buses.toNat):Ok (Ye b y p (n:Int)) λ_=>True:=by have hbr:=hp.brk.len;obtain⟨l1,_⟩:=Io h hp hn;obtain⟨r1,_⟩:=Gv h hp hn;unfold Ye;rw[Aah h hp hn];simp only[aa];refine c6 (λ_=>eK trivial) (λ_=>?_);refine eI (A:=λ_=>True) (B:=λ_=>True) ?_ (λ_ _=>eK trivial) (λ_ _=>eK trivial);refine Ok.foldE (λ_ _=>True) _ 0 _ trivial (λj x s hx _=>?_) (λ_ _=>trivial);have hin:=Kx (Ayb (ae hx));unfold M6;rw[F0 h];simp only[aa];rw[C3 (by omega)];simp only[aa];refine c6 (λ_=>c7 trivial) (λ_=>?_);rw[l1,r1];simp only[aa];refine(d7 hin.1 hin.2).bind λv _=>c6 (λ_=>Ok.ret trivial) (λ_=>c7 trivial)
theorem Ahn(h:Ad b)(hp:Aa b p)(y:eo)(hn:n<b.Buses.toNat):Ok (Yd b y p (n:Int)) λ_=>True:=by obtain⟨l1,_⟩:=Io h hp hn;obtain⟨r1,_⟩:=Gv h hp hn;have hl:=Pr h hp hn;unfold Yd;rw[l1,r1,hl];refine(di (λ_=>dk rfl) λ_=>trivial).bind (P:=λ_=>True) λ_ _=>?_;refine(di (λ_=>dk rfl) λ_=>trivial).bind (P:=λ_=>True) λ_ _=>?_;refine(di (λ_=>dk rfl) λ_=>trivial).bind (P:=λ_=>True) λ_ _=>eK trivial
theorem Nm(h:Ad b)(p:dZ)(f:Nat):(isl b p f).Buses.length<=1000/\(isl b p f).Sources.length<=1000:=by have h1:=h.buses;have h2:=h.sol;have h3:(isl b p f).Buses.length<=b.Buses.toNat:=Dd _ _;have h4:(isl b p f).Sources.length<=b.Sources.length:=Dd _ _;omega
theorem Arz(h:Ad b)(hp:Aa b p)(f:Nat){i:Int}(h0:0<=i)(h1:i<b.Sources.length):Ok (Ut b p (isl b p f) i) λ_=>True:=by have hbr:=hp.brk.len;have hns:=hp.nso;obtain⟨w1,w2⟩:=Nm h p f;obtain⟨j,x,e,hx,_,_,hj⟩:=Hf h h0 h1;unfold Ut;rw[F0 h,e];simp only[aa];rw[Al hx];simp only[aa];simp only[C3 (show p.Broken.length<=1000 by omega),aa];refine(di (λ_=>dk rfl) λ_=>trivial).bind (P:=λ_=>True) λ_ _=>?_;refine(di (λ_=>dk rfl) λ_=>trivial).bind (P:=λ_=>True) λ_ _=>?_;refine(di (λ_=>dk (Cx _ _)) λ_=>trivial).bind (P:=λ_=>True) λ_ _=>?_;refine(di (λ_=>dk (Cx _ _)) λ_=>trivial).bind (P:=λ_=>True) λ_ _=>?_;refine(di (λ_=>dm h0) λ_=>trivial).bind (P:=λ_=>True) λ_ _=>eK trivial
theorem Ava(h:Ad b)(hp:Aa b p)(hn:n<b.Buses.toNat):Ok (uX b p (n:Int)) λv=>v.2=true->0<=v.1/\v.1<b.Sources.length:=by have hns:=hp.nso;have hsl:=h.sol;unfold uX;rw[Aah h hp hn];simp only[aa];refine c6 (λ_=>eK λhh=>by cases hh) (λ_=>?_);refine eI (A:=λ_=>True) (B:=λv:Int×Bool=>v.2=true->0<=v.1/\v.1<b.Sources.length) ?_ (λ_ _=>eK λhh=>by cases hh) (λv hv=>eK hv);refine c8 (I:=λ_ _=>True) trivial (λj x s hx _=>?_) (λ_ _=>trivial);unfold uW;refine Ok.inner (A:=λ_=>True) (B:=λv:Int×Bool=>v.2=true->0<=v.1/\v.1<b.Sources.length) ?_ (λ_ _=>c7 trivial) (λv hv=>Ok.ret hv);refine c8 (I:=λ_ _=>True) trivial (λk a s ha _=>?_) (λ_ _=>trivial);have hk:k<p.Sources.length:=(ab.1 ha).1;unfold Qi;rw[Bf];refine(di (λ_=>Arz h hp _ (by omega) (by omega)) λ_=>trivial).bind (P:=λ_=>True) λ_ _=>?_;refine c6 (λ_=>Ok.ret λ_=>?_) (λ_=>c7 trivial);dsimp only;omega
theorem Amh(h:Ad b)(hp:Aa b p)(n:Int){i:Int}(h0:0<=i)(h1:i<b.Sources.length):Ok (U4 b p n i) λv=>v.1.length<=2:=by have hns:=hp.nso;unfold U4;refine(d7 h0 (by omega)).bind λx _=>?_;refine c6 (λ_=>eK (by simp)) (λ_=>c6 (λ_=>?_) (λ_=>eK (by simp)));refine(Om h hp n).bind λv _=>?_;unfold X_;rw[A8 h hp,Ib h hp,F0 h];exact eK (by simp)
theorem Qu{o:Int}(ho:-1<=o/\o<=T)(hT:0<=T)(v:Bool):-1<=Hg o v T/\Hg o v T<=T:=by
 unfold Hg;cases v with
 |false=>simp only[Bool.not_false,eO];omega
 |true=>
  simp only[aC,eQ];cases hq:(o == -1) with
  |true=>simp only[eO];omega
  |false=>simp only[eQ];exact ho
theorem Amw(h:Ad b)(hy:Dw y)(hp:Aa b p)(hn:n<b.Buses.toNat)(hT:0<=T/\T<=2147483648){r:d_}(hr:Ds T r) :
  Ok (L_ b y p (n:Int) T r) λz=>Ds T z.1/\z.2.1.length<=2/\(y.Delay=600->T<=500->z.2.1=[]):=by
 obtain⟨hr1,hr2⟩:=hr;have hbu:=h.buses;unfold L_;rw[A8 h hp];simp only[aa];refine c6 (λhc=>by simp at hc) (λ_=>c6 (λhc=>?_) (λ_=>c6 (λhc=>?_) (λ_=>?_)))
 .exfalso;simp only[Rt,Hq hy,Qj,aC,aO,aE,dF,aS,bQ,dG]at hc;omega
 .exfalso;simp only[Rs,aE,dF]at hc;omega
 refine(Aww h hp y hn).bind λv6 _=>(Ahn h hp y hn).bind λv8 _=>(Ava h hp hn).bind λv10 h10=>?_;have s1:=Qu hr1 hT.1 v8;have s2:=Qu hr2 hT.1 v6.2;refine c6 (λhc=>?_) (λhc=>?_)
 .simp only[K3,ac,dF]at hc;obtain⟨⟨c1,c2⟩,c3⟩:=hc;have hin:=h10 c1;refine(Amh h hp _ hin.1 hin.2).bind λv13 h13=>?_;refine eI (A:=λs=>-1<=s/\s<=T) (B:=λ(_:Unit)=>False) ?_ (λs hs=>eK ⟨⟨hs,s2⟩,h13,λhd ht=>?_⟩) eN
  .unfold zU;refine c6 (λ_=>dj (by omega)) (λ_=>dj s1)
  .exfalso;rw[Ah]at c3;omega
 .refine c6 (λhc=>?_) (λ_=>eK ⟨⟨s1,s2⟩,by simp,λ_ _=>rfl⟩);rw[F0 h];simp only[aa];refine eK ⟨⟨s1,by dsimp only;omega⟩,by simp,λhd ht=>?_⟩;exfalso;simp only[K2,ac,dF]at hc;have c3:=hc.2;rw[Ah]at c3;omega
def A0(b:c_)(T:Int)(p:dZ)(l:List a_):dZ:=l.foldl (λq a=>doP b q T a) p
def Cv(b:c_)(T:Int):dZ->List a_->List dW
 |_,[]=>[]
 |p,a::l=>doE b p T a++Cv b T (doP b p T a) l
def Cc(b:c_)(T:Int):dZ->List a_->List dZ
 |_,[]=>[]
 |p,a::l=>doS b p T a++Cc b T (doP b p T a) l
theorem D7{b:c_}(h:Ad b)(T:Int):∀(l:List a_){p:dZ},Aa b p->Aa b (A0 b T p l)
 | [],_,hp=>hp
 |a::l,_,hp=>D7 h T l (P1 h hp T a)
theorem Ko(b:c_)(T:Int)(p:dZ)(l m:List a_):A0 b T p (l++m)=A0 b T (A0 b T p l) m:=by unfold A0;rw[aN]
theorem Jd(b:c_)(T:Int):∀(l m:List a_)(p:dZ),Cv b T p (l++m)=Cv b T p l++Cv b T (A0 b T p l) m
 | [],_,_=>rfl
 |a::l,m,p=>by show doE b p T a++Cv b T (doP b p T a) (l++m)=doE b p T a++Cv b T (doP b p T a) l++Cv b T (A0 b T (doP b p T a) l) m;rw[Jd b T l m,aP]
theorem Jc(b:c_)(T:Int):∀(l m:List a_)(p:dZ),Cc b T p (l++m)=Cc b T p l++Cc b T (A0 b T p l) m
 | [],_,_=>rfl
 |a::l,m,p=>by show doS b p T a++Cc b T (doP b p T a) (l++m)=doS b p T a++Cc b T (doP b p T a) l++Cc b T (A0 b T (doP b p T a) l) m;rw[Jc b T l m,aP]
theorem uB(h:Ad b)(hp:Aa b p)(T:Int)(a:a_):(doE b p T a).length<=10001:=by
 unfold doE;split
 .rename_i he;have:=(Hc h (P0 h hp he).1).2.2;simp;omega
 .simp
theorem qZ(h:Ad b)(hp:Aa b p)(T:Int)(a:a_):(doS b p T a).length<=10002:=by
 unfold doS;split
 .rename_i he;have:=(Hc h (P0 h hp he).1).2.2;split <;> simp[H_] <;> omega
 .simp
theorem Gh{b:c_}(h:Ad b)(T:Int):∀(l:List a_){p:dZ},Aa b p->(Cv b T p l).length<=10001*l.length
 | [],_,_=>by simp[Cv]
 |a::l,p,hp=>by have h1:=uB h hp T a;have h2:=Gh h T l (P1 h hp T a);simp only[Cv,aw,bf];omega
theorem Gg{b:c_}(h:Ad b)(T:Int):∀(l:List a_){p:dZ},Aa b p->(Cc b T p l).length<=10002*l.length
 | [],_,_=>by simp[Cc]
 |a::l,p,hp=>by have h1:=qZ h hp T a;have h2:=Gg h T l (P1 h hp T a);simp only[Cc,aw,bf];omega
abbrev Aqg(b:c_)(T:Int)(P:dZ)(ros:List d_)(evs ev:List dW)(st:List dZ):=
 (T,b.Buses,b.Breakers,b.Sources,b.Consumers,b.Phase,b.Frequency,P.Closed,P.Sources,P.Limits,P.Broken,ros,evs,ev,st)
theorem Ag5(h:Ad b)(hp:Aa b P)(ros:List d_)(evs:List dW){l:List a_}
  (h1:ev.length+10001*l.length<=1000000)(h2:st.length+10002*l.length<=1000000) :
  Ok (foldI Vj l 0 (Aqg b T P ros evs ev st)) (Bh (λs=>s=Aqg b T (A0 b T P l) ros evs (ev++Cv b T P l) (st++Cc b T P l)) λ(_:Unit)=>False):=by
 refine c8 (I:=λj s=>s=Aqg b T (A0 b T P (l.take j)) ros evs (ev++Cv b T P (l.take j)) (st++Cc b T P (l.take j))) ?_ (λj a s ha hs=>?_) λs hs=>?_
 .simp[A0,Cv,Cc]
 .have hj:j<l.length:=(ab.1 ha).1;have hq:=D7 h T (l.take j) hp;have e1:=Gh h T (l.take j) hp;have e2:=Gg h T (l.take j) hp;rw[aT]at e1 e2;subst hs;unfold Vj;have hd:=Atz h (T:=T) (ros:=ros) (evs:=evs) (ev:=ev++Cv b T P (l.take j)) (sts:=st++Cc b T P (l.take j)) hq (by simp;omega) (by simp;omega) a;refine eJ (P:=λy=>y=_) (d9 hd rfl) λy hy=>c7 ?_;subst hy;have e3:A0 b T P (l.take (j+1))=doP b (A0 b T P (l.take j)) T a:=by rw[An ha,Ko];rfl
  have e4:Cv b T P (l.take (j+1))=Cv b T P (l.take j)++doE b (A0 b T P (l.take j)) T a:=by rw[An ha,Jd];simp[Cv]
  have e5:Cc b T P (l.take (j+1))=Cc b T P (l.take j)++doS b (A0 b T P (l.take j)) T a:=by rw[An ha,Jc];simp[Cc]
  rw[e3,e4,e5,←aP,←aP]
 .rw[am]at hs;exact hs
def wtP(b:c_)(P:dZ)(T:Int):dZ:=(Bd b P T ⟨7,0,0⟩).1
theorem W_(h:Ad b)(hp:Aa b P)(hT:0<=T/\T<=2147483648):Er b P T ⟨7,0,0⟩=some (wtP b P T,0)/\Aa b (wtP b P T)/\∃w,L9 ⟨b,P,T⟩=some w/\w.Ai=wtP b P T:=by
 obtain⟨w,hw,hwo⟩:=Ags h hp T;have key:Er b P T ⟨7,0,0⟩=some (w.Ai,0):=by
  refine de ?_;unfold Er;rw[A8 h hp,Aw1,Bj h hp];simp only[aa];refine c6 (λhc=>by simp at hc) (λ_=>c6 (λhc=>?_) (λ_=>c6 (λhc=>by simp at hc) (λ_=>?_)))
  .simp[C8]at hc;omega
  .have:Gm ⟨b,P,T⟩ ⟨7,0,0⟩=some (0,w):=by
    unfold Gm;rw[hw];rfl
   rw[this];exact eK rfl
 have e:wtP b P T=w.Ai:=by unfold wtP Bd;rw[key];rfl
 rw[e];exact⟨key,hwo,w,hw,rfl⟩
def T3(l:List dW):List dW:=l.drop (l.length-200)
def Par{α:Type}(o:Option α)(P:α->Prop):Prop:=∀r,o=some r->P r
variable{x:α}{P:α->Prop}
theorem Par.pure(h:P x):Par (some x) P:=λr e=>by cases e;exact h
theorem Par.none:Par (none:Option α) P:=λ_ e=>by cases e
theorem Par.bind{β:Type}{o:Option α}{f:α->Option β}{P:β->Prop}(h:∀x,o=some x->Par (f x) P):Par (o.bind f) P:=by
 cases o with
 |none=>exact Par.none
 |some x=>exact h x rfl
theorem Par.cond{c:Bool}{x y:Option α}(h:Par x P)(k:Par y P):Par (bif c then x else y) P:=by
 cases c with
 |true=>exact h
 |false=>exact k
theorem Par.andThen{σ τ:Type}{c:Option (Ctl σ τ)}{g:τ->Option α}{f:σ->Option α}(h:∀s,Par (f s) P)(k:∀v,Par (g v) P):Par (andThen c g f) P:=by
 cases c with
 |none=>exact Par.none
 |some r=>
  cases r with
  |next s=>exact h s
  |brk s=>exact h s
  |ret v=>exact k v
def cl(C:fe):Nat:=C.count true
theorem Aaa(h:Ad b)(p:dZ):(Am b p).Pairwise λx y=>∀c,¬(Bw x c=true/\Bw y c=true):=by
 rw[Hk h,cK];refine((cQ.1 List.nodup_range).sublist ck).imp ?_;rintro f g hfg c ⟨hx,hy⟩;obtain⟨i,hi,e1⟩:=bv.1 hx;obtain⟨j,hj,e2⟩:=bv.1 hy;obtain⟨k,hk,rfl⟩:=an.1 hi;obtain⟨m,hm,rfl⟩:=an.1 hj;have g1:=(ar.1 hk).2;have g2:=(ar.1 hm).2;simp only[dH]at e1 e2 g1 g2;have:k=m:=by omega
 subst this;rw[g1]at g2;simp only[al]at g2;omega
theorem Ay0(h:Ad b){s:Ab}(hs:A4 s)(hk:0<=k/\k<=100):Ok (Aa2 s b k) λy=>(y.1.length:Int)<=k/\A4 y.2:=by
 unfold Aa2;have e:w64 (k+1)=k+1:=Ah;rw[e];refine(D2 hs (k+1) (by omega) (by omega)).bind λy hy=>?_;refine eI (A:=λs=>(s.2.2.2.length:Int)<=k/\A4 ⟨s.2.1,s.2.2.1⟩) (B:=λ(_:Unit)=>False) ?_ (λs hs=>eK hs) eN;refine d6 (λs=>(0<=s.1/\s.1<=200/\s.1+(s.2.2.2.length:Int)<=k)/\A4 ⟨s.2.1,s.2.2.1⟩) (λs=>s.1.toNat) _ _ ?_ ?_ ?_
 .exact⟨⟨by dsimp only;omega,by dsimp only;omega,by simp;omega⟩,hy.1⟩
 .dsimp only;omega
 .rintro⟨i,L,a,l⟩ ⟨⟨g1,g2,g3⟩,g4⟩;dsimp only at g1 g2 g3 g4;unfold Afu;dsimp only;refine c6 (λhq=>?_) (λ_=>db ⟨by dsimp only;omega,g4⟩);simp only[dF]at hq;have e1:w64 (i-1)=i-1:=Ah;rw[e1];refine(Ay1 h g4).bind λu hu=>(d8 (by simp;omega)).bind λw hw=>c7 ⟨⟨⟨by dsimp only;omega,by dsimp only;omega,by rw[hw];simp;omega⟩,hu⟩,by dsimp only;omega⟩
theorem Ahf(x:Int):Gl x=D1 x:=by
 have hr:=Jz (x:=x) (n:=3600);unfold Gl D1;rw[Ah];by_cases h:Int.tmod x 3600<0
 .rw[dK h,eO,cx (by omega)];omega
 .rw[dL h,eQ,cx (by omega)];omega
theorem Qv{l:List α}(h:l[j]?=some x):l.set j x=l:=by obtain⟨hj,e⟩:=ab.1 h;rw[←e];exact List.set_getElem_self hj
def Ef(x:ee):ee:=if x.State=2 then ⟨x.State,x.Since,x.Frequency,D1 (w64 (x.Phase+w64 (36*w64 (x.Frequency-5000))))⟩ else x
theorem Ag3{l m:List α}{v:α}(h:m[j]?=some x)(hl:l.length=m.length):(l.take j++m.drop j).set j v=l.take j++v::m.drop (j+1):=by
 have hj:=(ab.1 h).1;rw[List.set_append_right _ _ (by simp;omega),cJ hj];have:j-(l.take j).length=0:=by simp;omega
 rw[this];rfl
theorem Am8(f:α->α){l:List α}(h:l[j]?=some x):(((l.map f).take j++l.drop j)[j]?=some x)/\(l.map f).take (j+1)++l.drop (j+1)=((l.map f).take j++l.drop j).set j (f x):=by
 have hj:=(ab.1 h).1;constructor
 .rw[aW (by simp;omega)];have:j-((l.map f).take j).length=0:=by simp;omega
  rw[this,ay];exact h
 .rw[Ag3 h (by simp),An (x:=f x) (by simp[h]),aP];rfl
theorem Aus(h:Ad b)(hp:Aa b p):uT b p=some (⟨p.Closed,p.Sources.map Ef,p.Limits,p.Broken⟩,0):=by
 have hs:=h.sol;have hn:=hp.nso;refine de ?_;unfold uT;rw[A8 h hp,Bj h hp];simp only[aa];refine c6 (λhc=>by simp at hc) (λ_=>?_);refine eI (A:=λs=>s=p.Sources.map Ef) (B:=λ(_:Unit)=>False) ?_ (λs hs=>eK (by rw[hs])) eN;refine c8 (I:=λj s=>s=(p.Sources.map Ef).take j++p.Sources.drop j) rfl (λj x s hx hs=>?_) λs hs=>?_
 .obtain⟨m1,m2⟩:=Am8 Ef hx;have hj:=(ab.1 hx).1;subst hs;unfold uS;rw[Bf,m2];refine c6 (λhc=>?_) (λhc=>c7 ?_)
  .rw[Al m1];simp only[aa];rw[Ev (by simp;omega)];refine c7 ?_;unfold Ef;rw[eT (by simpa using hc)]
  .unfold Ef;rw[eU (by simpa using hc)];exact(Qv m1).symm
 .rw[hs,List.drop_length,aB,cr (by simp)]
theorem Al8(h:Ad b)(hp:Aa b p):Als b p=some (⟨p.Closed,p.Sources.map Ef,p.Limits,p.Broken⟩,0):=by
 have hs:=h.sol;have hn:=hp.nso;refine de ?_;unfold Als;rw[Bi h hp,Dv h hp];simp only[aa];refine c6 (λhc=>by simp at hc) (λ_=>?_);refine eI (A:=λs=>s=p.Sources.map Ef) (B:=λ(_:Unit)=>False) ?_ (λs hs=>eK (by rw[hs])) eN;refine c8 (I:=λj s=>s=(p.Sources.map Ef).take j++p.Sources.drop j) rfl (λj x s hx hs=>?_) λs hs=>?_
 .obtain⟨m1,m2⟩:=Am8 Ef hx;have hj:=(ab.1 hx).1;subst hs;unfold Aim;rw[Bf,m2,Al m1];simp only[aa];refine c6 (λhc=>?_) (λhc=>c7 ?_)
  .rw[Ev (by simp;omega)];refine c7 ?_;unfold Ef;rw[eT (by simpa using hc),Ahf]
  .unfold Ef;rw[eU (by simpa using hc)];exact(Qv m1).symm
 .rw[hs,List.drop_length,aB,cr (by simp)]
def Q7(b:c_)(C:fe)(i:Nat):Bool:=!C.getD (Et b (i:Int)).toNat false
def Gs(b:c_)(C:fe)(t:Int)(x:ee)(i:Nat):ee:=
 if(x.State=1/\Q7 b C i=true)/\w64 (x.Since+(b.Sources.getD i default).Start)<=w64 (t+1)then ⟨2,x.Since,x.Frequency,x.Phase⟩ else x
def J3(b:c_)(C:fe)(t:Int)(l:List ee)(j:Nat):List ee:=((l.zipIdx.map λz=>Gs b C t z.1 z.2).take j)++l.drop j
theorem Yu{l:List ee}{x:ee}(h:l[j]?=some x):(J3 b C t l j)[j]?=some x/\J3 b C t l (j+1)=(J3 b C t l j).set j (Gs b C t x j)/\(J3 b C t l j).length=l.length:=by
 have hj:=(ab.1 h).1;unfold J3;refine⟨?_,?_,by simp;omega⟩
 .rw[aW (by simp;omega)];have:j-((l.zipIdx.map λz=>Gs b C t z.1 z.2).take j).length=0:=by simp;omega
  rw[this,ay];exact h
 .rw[Ag3 h (by simp),An (x:=Gs b C t x j) (by simp[h]),aP];rfl
def wtS(b:c_)(p:dZ)(t:Int):dZ:=⟨p.Closed,J3 b p.Closed t (p.Sources.map Ef) (p.Sources.map Ef).length,p.Limits,p.Broken⟩
theorem Aqn(h:i<b.Sources.length):b.Sources[i]?=some (b.Sources.getD i default):=by rw[af h];simp[List.getD,List.getElem?_eq_getElem h]
theorem Au8(h:Ad b)(hc:p.Closed.length=b.Breakers.length)(t:Int)(hi:i<b.Sources.length):I5 ⟨b,p,t⟩ (i:Int)=some (Q7 b p.Closed i):=by
 obtain⟨j,x,e,hx,_⟩:=Hf h (i:=(i:Int)) (by omega);have hj:=(ab.1 hx).1;unfold I5 Q7;rw[Mv h,e,aq];simp only[aa];have hg:p.Closed[j]?=some (p.Closed.getD j false):=by rw[af (by omega)];simp[List.getD,List.getElem?_eq_getElem (show j<p.Closed.length by omega)]
 rw[Al hg];rfl
theorem Agt(h:Ad b)(hp:Aa b p)(t:Int):L9 ⟨b,p,t⟩=some ⟨b,wtS b p t,t⟩:=by
 have hs:=h.sol;have hn:=hp.nso;refine de ?_;unfold L9;rw[Aus h hp];simp only[aa];refine eI (A:=λs=>s.2=J3 b p.Closed t (p.Sources.map Ef) (p.Sources.map Ef).length) (B:=λ(_:Unit)=>False) ?_ (λs hs=>eK (by rw[hs];rfl)) eN;refine d6 (λs=>∃j:Nat,s.1=(j:Int)/\j<=p.Sources.length/\s.2=J3 b p.Closed t (p.Sources.map Ef) j) (λs=>(100-s.1).toNat) _ _ ⟨0,rfl,by omega,rfl⟩ (by dsimp only;omega) ?_;rintro⟨z,s⟩ ⟨j,hz,hj,hsr⟩;dsimp only at hz hsr;subst hz;unfold U3 X2;dsimp only;refine c6 (λhq=>?_) (λhq=>db ?_)
 .simp only[dF,au]at hq;have hlt:j<p.Sources.length:=by omega
  obtain⟨x,hx⟩:∃x,(p.Sources.map Ef)[j]?=some x:=⟨_,af (by simp;omega)⟩;obtain⟨r1,r2,r3⟩:=Yu (b:=b) (C:=p.Closed) (t:=t) hx;rw[←hsr]at r1 r2 r3;simp only[au]at r3;rw[Al r1];simp only[aa];have ho:=Au8 h (p:=⟨p.Closed,s,p.Limits,p.Broken⟩) hp.ncl t (i:=j) (by omega);have e1:w64 ((j:Int)+1)=((j+1:Nat):Int):=by rw[Ah];omega
  rw[e1];have nxt:∀v,v=Gs b p.Closed t x j->(∃k:Nat,((j+1:Nat):Int)=(k:Int)/\k<=p.Sources.length/\s.set j v=J3 b p.Closed t (p.Sources.map Ef) k):=λv hv=>⟨j+1,rfl,by omega,by rw[hv,r2]⟩;have stay:x=Gs b p.Closed t x j->s=s.set j (Gs b p.Closed t x j):=λhv=>by rw[←hv];exact(Qv r1).symm
  cases hs1:(x.State==1) with
  | false=>
   have hno:x=Gs b p.Closed t x j:=by unfold Gs;rw[eU (λhh=>by simp[hh.1.1]at hs1)]
   refine eJ (P:=λ_=>True) (di (λhg=>absurd hg.1 (by simp)) λ_=>trivial) λ_ _=>?_;refine eJ (P:=λ_=>True) (di (λhg=>absurd hg.1 (by simp)) λ_=>trivial) λ_ _=>?_;refine c6 (λhc=>by simp[Nx,hs1]at hc) (λ_=>c7 ⟨?_,by dsimp only;omega⟩);dsimp only;rw[stay hno];exact nxt _ rfl
  | true=>
   refine eJ (P:=λv=>v=Q7 b p.Closed j) (d9 ho rfl) λv hv=>?_;subst hv;cases ho1:Q7 b p.Closed j with
   | false=>
    have hno:x=Gs b p.Closed t x j:=by unfold Gs;rw[eU (λhh=>by simp[hh.1.2]at ho1)]
    refine eJ (P:=λ_=>True) (di (λhg=>absurd hg.1 (by simp)) λ_=>trivial) λ_ _=>?_;refine c6 (λhc=>by simp[Nx]at hc) (λ_=>c7 ⟨?_,by dsimp only;omega⟩);dsimp only;rw[stay hno];exact nxt _ rfl
   | true=>
    refine eJ (P:=λv=>v=b.Sources.getD j default) (d9 (Al (Aqn (by omega))) rfl) λv hv=>?_;subst hv;refine c6 (λhc=>?_) (λhc=>c7 ⟨?_,by dsimp only;omega⟩)
    .simp only[Nx,hs1,bl,aZ,dF]at hc;rw[Ev];refine c7 ⟨?_,by dsimp only;omega⟩;exact nxt _ (by unfold Gs;rw[eT ⟨⟨by simpa using hs1,ho1⟩,hc⟩])
    .simp only[Nx,hs1,bl,aZ,dG]at hc;have hno:x=Gs b p.Closed t x j:=by
      unfold Gs;rw[eU (λhh=>hc hh.2)]
     dsimp only;rw[stay hno];exact nxt _ rfl
 .simp only[dG,au]at hq;have:j=(p.Sources.map Ef).length:=by simp;omega
  dsimp only;rw[hsr,this]
theorem Aho(h:Ad b)(hi:i<b.Sources.length):Ok (I1 b 2 (i:Int)) λl=>l[0]?=some (Et b (i:Int)):=by
 obtain⟨j,x,e,hx,hk,hB,hj⟩:=Hf h (i:=(i:Int)) (by omega);unfold I1;rw[Je h,S7 h];refine eK ?_;have hlen:(ofL b λx=>Gr 2 (i:Int) x).length=1:=by rw[M3 (by omega),h.one i hi]
 have hm:(j:Int)∈ofL b λx=>Gr 2 (i:Int) x:=by
  unfold ofL;refine an.2 ⟨(x,j),ar.2 ⟨?_,?_⟩,rfl⟩
  .rw[cm];exact hx
  .show Gr 2 (i:Int) x=true;rw[Xf 2 (by omega),hk,hB];simp
 rw[e]
 match hq:(ofL b λx=>Gr 2 (i:Int) x),hlen,hm with
 | [v],_,hm=>rw[aF]at hm;rw[hm];rfl
theorem Asx(h:Ad b)(hp:Aa b p)(ht:0<=t/\t<=2147483648):F65 b p t ⟨7,0,0⟩=some (wtS b p t,0):=by
 have hs:=h.sol;have hn:=hp.nso;refine de ?_;unfold F65;rw[Bi h hp,Dv h hp];simp only[aa];refine c6 (λhc=>by simp at hc) (λ_=>c6 (λhc=>?_) (λ_=>c6 (λhc=>by simp at hc) (λ_=>c6 (λhc=>by simp at hc) (λ_=>c6 (λhc=>by simp at hc) (λ_=>?_)))))
 .simp[I9]at hc;omega
 refine eI (A:=λs=>s=false) (B:=λ(_:Unit)=>False) ⟨_,rfl,rfl⟩ (λs hs=>?_) eN;subst hs;refine c6 (λhc=>by simp at hc) (λ_=>c6 (λhc=>by simp at hc) (λ_=>c6 (λ_=>?_) (λhc=>by simp at hc)));rw[Al8 h hp];simp only[aa];refine eI (A:=λs=>s=J3 b p.Closed t (p.Sources.map Ef) (p.Sources.map Ef).length) (B:=λ(_:Unit)=>False) ?_ (λs hs=>eK (by rw[hs];rfl)) eN;refine c8 (I:=λj s=>s=J3 b p.Closed t (p.Sources.map Ef) j) rfl (λj x s hx hsr=>?_) λs hs=>hs;have hlt:j<p.Sources.length:=by have:=(ab.1 hx).1;simpa using this
 obtain⟨r1,r2,r3⟩:=Yu (b:=b) (C:=p.Closed) (t:=t) hx;rw[←hsr]at r1 r2 r3;simp only[au]at r3;have hf:=Aho h (i:=j) (by omega);have hop:Ok (getI p.Closed (Et b (j:Int))) λv=>v = !Q7 b p.Closed j:=by obtain⟨k,y,e,hy,_⟩:=Hf h (i:=(j:Int)) (by omega);have hk:=(ab.1 hy).1;have hnc:=hp.ncl;unfold Q7;rw[e,aq,Bool.not_not];exact⟨_,Al (by rw[af (by omega)]),by simp[List.getD,List.getElem?_eq_getElem (show k<p.Closed.length by omega)]⟩
 have stay:x=Gs b p.Closed t x j->s=s.set j (Gs b p.Closed t x j):=λhv=>by rw[←hv];exact(Qv r1).symm
 first|unfold Apk|unfold F65_l1
 rw[Bf,Al r1,r2];simp only[aa];cases hs1:(x.State==1) with
 | false=>
  have hno:x=Gs b p.Closed t x j:=by unfold Gs;rw[eU (λhh=>by simp[hh.1.1]at hs1)]
  refine eJ (P:=λ_=>True) (di (λhg=>absurd hg.1 (by simp)) λ_=>trivial) λ_ _=>?_;refine eJ (P:=λ_=>True) (di (λhg=>absurd hg.1 (by simp)) λ_=>trivial) λ_ _=>?_;refine eJ (P:=λ_=>True) (di (λhg=>absurd hg.1 (by simp)) λ_=>trivial) λ_ _=>?_;refine eJ (P:=λ_=>True) (di (λhg=>absurd hg.1 (by simp)) λ_=>trivial) λ_ _=>?_;exact c6 (λhc=>by simp[Zk,hs1]at hc) (λ_=>c7 (stay hno))
 | true=>
  refine eJ (P:=λl=>l[0]?=some (Et b (j:Int))) hf λl hl=>?_;refine eJ (P:=λv=>v=Et b (j:Int)) (d9 (Al hl) rfl) λv hv=>?_;subst hv;refine eJ (P:=λv=>v = !Q7 b p.Closed j) hop λv hv=>?_;subst hv;cases ho1:Q7 b p.Closed j with
  | false=>
   have hno:x=Gs b p.Closed t x j:=by unfold Gs;rw[eU (λhh=>by simp[hh.1.2]at ho1)]
   refine eJ (P:=λ_=>True) (di (λhg=>absurd hg.1 (by simp)) λ_=>trivial) λ_ _=>?_;exact c6 (λhc=>by simp[Zk]at hc) (λ_=>c7 (stay hno))
  | true=>
   refine eJ (P:=λv=>v=b.Sources.getD j default) (d9 (Al (Aqn (by omega))) rfl) λv hv=>?_;subst hv;refine c6 (λhc=>?_) (λhc=>c7 (stay ?_))
   .simp only[Zk,hs1,aC,Bool.not_false,bl,aZ,dF]at hc;rw[Ev];exact c7 (by unfold Gs;rw[eT ⟨⟨by simpa using hs1,ho1⟩,hc⟩])
   .simp only[Zk,hs1,aC,Bool.not_false,bl,aZ,dG]at hc;unfold Gs;rw[eU (λhh=>hc hh.2)]
theorem Azq(h:Ad b){p:dY}(hp:Aa b p.Power)(h1:p.Rosters.length<=1000)(h2:p.Events.length<=1000000)(a:a_) :
  F27 b p a=some (⟨p.Time,doP b p.Power p.Time a,p.Rosters,p.Events++doE b p.Power p.Time a⟩,doS b p.Power p.Time a,0):=by
 have hl:=uB h hp p.Time a;refine de ?_;unfold F27;rw[A8 h hp];simp only[aa];refine c6 (λhc=>by simp at hc) (λ_=>?_);refine eJ (P:=λv=>v=⟨p,b,[],[]⟩) (d9 (Adp h hp h1 (by omega)) rfl) λv hv=>?_;subst hv;have hd:=Atz h (T:=p.Time) (P:=p.Power) (ros:=p.Rosters) (evs:=p.Events) (ev:=[]) (sts:=[]) hp (by simp) (by simp) a;refine eJ (P:=λv=>v=_) (d9 hd rfl) λv hv=>?_;subst hv;refine(d8 (l:=p.Events) (m:=[]++doE b p.Power p.Time a) (by simp;omega)).bind λu hu=>eK ?_;rw[hu];rfl
theorem Al6(h:Ad b){P:dZ}(hp:Aa b P)(hT:0<=T/\T<=2147483648):wtP b P T=wtS b P T:=by obtain⟨_,_,w,hw,e⟩:=W_ h hp hT;rw[Agt h hp]at hw;cases hw;exact e.symm
def brN(b:c_)(i:Nat):Nat:=(Et b (i:Int)).toNat
theorem N0(h:Ad b)(hi:i<b.Sources.length):Et b (i:Int)=(brN b i:Int)/\brN b i<b.Breakers.length/\(b.Breakers.getD (brN b i) default).Kind=2/\(b.Breakers.getD (brN b i) default).B=(i:Int)/\b.Breakers[brN b i]?=some (b.Breakers.getD (brN b i) default):=by
 obtain⟨j,x,e,hx,hk,hB,_⟩:=Hf h (i:=(i:Int)) (by omega);have hj:=(ab.1 hx).1;have:brN b i=j:=by unfold brN;omega
 rw[this,P4 hx];exact⟨e,hj,hk,hB,hx⟩
theorem Asl(h:Ad b)(hi:i<b.Sources.length){x:dU}(hx:b.Breakers[j]?=some x)(hk:x.Kind=2)(hB:x.B=(i:Int)):j=brN b i:=by
 obtain⟨e,hlt,k2,kB,hg⟩:=N0 h hi;have hm:∀{m:Nat}{y:dU},b.Breakers[m]?=some y->y.Kind=2->y.B=(i:Int)->(y,m)∈ofZ b 2 (i:Int):=fun {m y} hy h1 h2=>ar.2 ⟨by rw[cm];exact hy,by simp[h1,h2]⟩;have hlen:(ofZ b 2 (i:Int)).length=1:=by have:=Aa6 (λx:dU=>x.Kind==2&&x.B==(i:Int)) b.Breakers 0;rw[←h.one i hi];exact this
 have m1:=hm hx hk hB;have m2:=hm hg k2 kB
 match hz:ofZ b 2 (i:Int),hlen,m1,m2 with
 | [v],_,m1,m2=>rw[aF]at m1 m2;rw[←m2]at m1;exact(Prod.mk.inj m1).2
theorem T4(h:Ad b)(hp:Aa b p)(hi:i<b.Sources.length):Cy b p (i:Int)=if(p.Sources.getD i default).State=2/\p.Closed.getD (brN b i) false=true then some (b.Breakers.getD (brN b i) default).A else none:=by
 obtain⟨e,hlt,k2,kB,hg⟩:=N0 h hi;have hn:=hp.nso;have hz:∀z,z∈ofZ b 2 (i:Int)->z.2=brN b i/\z.1=b.Breakers.getD (brN b i) default:=λz hz=>by have h1:=Pp hz;have h2:=(ar.1 hz).2;simp only[ac,dH]at h2;have:=Asl h hi h1 h2.1 h2.2;rw[this]at h1;rw[hg]at h1;exact⟨this,(bI h1).symm⟩
 have hin:(b.Breakers.getD (brN b i) default,brN b i)∈ofZ b 2 (i:Int):=ar.2 ⟨by rw[cm];exact hg,by rw[ac,dH,dH];exact⟨k2,kB⟩⟩
 have hled:Dz b p 2 (i:Int)=if p.Closed.getD (brN b i) false=true then some (b.Breakers.getD (brN b i) default).A else none:=by
  rw[Td hp.ncl];by_cases hc:p.Closed.getD (brN b i) false=true
  .rw[eT hc];cases hf:(ofZ b 2 (i:Int)).find? λz=>p.Closed.getD z.2 false with
   |none=>rw[List.find?_eq_none]at hf;exact absurd hc (hf _ hin)
   |some z=>rw[(hz z (List.mem_of_find?_eq_some hf)).2.symm];rfl
  .rw[eU hc];cases hf:(ofZ b 2 (i:Int)).find? λz=>p.Closed.getD z.2 false with
   |none=>rfl
   |some z=>have h1:=List.find?_some hf;rw[(hz z (List.mem_of_find?_eq_some hf)).1]at h1;exact absurd h1 hc
 unfold Cy;rw[aq,hled];by_cases hs:(p.Sources.getD i default).State=2
 .rw[eT ⟨by omega,by omega,hs⟩];simp only[hs,true_and]
 .rw[eU (λhh=>hs hh.2.2),eU (λhh=>hs hh.1)]
def tog(b:c_)(p:dZ)(i j:Nat):Prop:=∃a c:Int,Cy b p (i:Int)=some a/\Cy b p (j:Int)=some c/\(groups b p).getD a.toNat 0=(groups b p).getD c.toNat 0
theorem tog.symm(t:tog b p i j):tog b p j i:=by obtain⟨a,c,h1,h2,h3⟩:=t;exact⟨c,a,h2,h1,h3.symm⟩
def By(x y:ee):Prop:=x.Frequency=y.Frequency/\x.Phase=y.Phase
structure Sub(b:c_)(q p:dZ):Prop where
 con:∀i,i<b.Sources.length->(q.Sources.getD i default).State=2->q.Closed.getD (brN b i) false=true->(p.Sources.getD i default).State=2/\p.Closed.getD (brN b i) false=true
 tie:∀(k:Nat) x,b.Breakers[k]?=some x->x.Kind=1->q.Closed.getD k false=true->p.Closed.getD k false=true
theorem Aoe{L M:Dq}(h:∀i j,Tie L i j->Tie M i j)(c:Gn L i j):Gn M i j:=by
 obtain⟨r,c⟩:=c;induction c with
 |refl=>exact .refl M i
 |stay _ ih=>exact ih
 |step _ t ih=>exact ih.tie (h _ _ t)
theorem Al5{α:Type}:∀{l:List α}{c:fe}{z:α×Bool},z∈l.zip c->∃k:Nat,l[k]?=some z.1/\c[k]?=some z.2
 | [],_,_,h=>by simp at h
 |_::_,[],_,h=>by simp at h
 | x::l,v::c,z,h=>by
  rw[bN,ah]at h;rcases h with rfl|h
  .exact⟨0,rfl,rfl⟩
  .obtain⟨k,h1,h2⟩:=Al5 h;exact⟨k+1,h1,h2⟩
theorem Ao5{α:Type}:∀{l:List α}{c:fe}{k:Nat}{x:α}{v:Bool},l[k]?=some x->c[k]?=some v->(x,v)∈l.zip c
 | [],_,_,_,_,h,_=>by simp at h
 |_::_,[],_,_,_,_,h=>by simp at h
 |y::l,w::c,0,x,v,h1,h2=>by simp at h1 h2;rw[bN,←h1,←h2];exact ai
 |y::l,w::c,k+1,x,v,h1,h2=>by rw[bN];exact ak _ (Ao5 (k:=k) (by simpa using h1) (by simpa using h2))
theorem Agy(hp:p.Closed.length=b.Breakers.length):Tie (Cn b p) i j↔∃(k:Nat)(x:dU),b.Breakers[k]?=some x/\x.Kind=1/\p.Closed.getD k false=true/\((x.A.toNat=i/\x.B.toNat=j)\/(x.A.toNat=j/\x.B.toNat=i)):=by
 constructor
 .rintro⟨z,hz,h1,h2,h3⟩;obtain⟨k,g1,g2⟩:=Al5 hz;exact⟨k,z.1,g1,h1,by rw[List.getD,g2,h2];rfl,h3⟩
 .rintro⟨k,x,h1,h2,h3,h4⟩;have hk:=(ab.1 h1).1;refine⟨(x,true),Ao5 h1 ?_,h2,rfl,h4⟩;rw[af (by omega)];simp only[List.getD,af (show k<p.Closed.length by omega),ch]at h3;rw[h3]
theorem Sub.conn(hq:q.Closed.length=b.Breakers.length)(hp:p.Closed.length=b.Breakers.length)(s:Sub b q p)(c:Gn (Cn b q) i j):Gn (Cn b p) i j:=by refine Aoe (λi j t=>?_) c;obtain⟨k,x,h1,h2,h3,h4⟩:=(Agy hq).1 t;exact(Agy hp).2 ⟨k,x,h1,h2,s.tie k x h1 h2 h3,h4⟩
theorem Sub.tog(h:Ad b)(hq:Aa b q)(hp:Aa b p)(s:Sub b q p)(hi:i<b.Sources.length)(hj:j<b.Sources.length)(t:tog b q i j):tog b p i j:=by
 obtain⟨a,c,h1,h2,h3⟩:=t;have ha:=Nv h h1;have hc:=Nv h h2;have cc:=s.conn hq.ncl hp.ncl ((Mp h q (by omega) (by omega)).1 h3);have lift:∀{m:Nat}{v:Int},m<b.Sources.length->Cy b q (m:Int)=some v->Cy b p (m:Int)=some v:=fun {m v} hm e=>by
  rw[T4 h hq hm]at e;rw[T4 h hp hm];by_cases hh:(q.Sources.getD m default).State=2/\q.Closed.getD (brN b m) false=true
  .rw[eT hh]at e;rw[eT (s.con m hm hh.1 hh.2)];exact e
  .rw[eU hh]at e;cases e
 exact⟨a,c,lift hi h1,lift hj h2,(Mp h p (by omega) (by omega)).2 cc⟩
theorem Sub.refl(b:c_)(p:dZ):Sub b p p:=⟨λ_ _ h1 h2=>⟨h1,h2⟩,λ_ _ _ _ h=>h⟩
theorem Sub.trans(s:Sub b p q)(t:Sub b q r):Sub b p r:=⟨λi hi h1 h2=>by obtain⟨g1,g2⟩:=s.con i hi h1 h2;exact t.con i hi g1 g2,λk x h1 h2 h3=>t.tie k x h1 h2 (s.tie k x h1 h2 h3)⟩
structure E1(b:c_)(c q:dZ):Prop where
 src:q.Sources=c.Sources
 cl:∀(k:Nat) x,b.Breakers[k]?=some x->x.Kind≠3->q.Closed.getD k false=c.Closed.getD k false
theorem E1.refl(b:c_)(c:dZ):E1 b c c:=⟨rfl,λ_ _ _ _=>rfl⟩
theorem E1.trans(s:E1 b c q)(t:E1 b q r):E1 b c r:=⟨t.src.trans s.src,λk x h1 h2=>(t.cl k x h1 h2).trans (s.cl k x h1 h2)⟩
theorem Tk:∀(l:List dU)(c d:fe)(s:fb),c.length=l.length->d.length=l.length->(∀(k:Nat) x,l[k]?=some x->x.Kind=1->c.getD k false=d.getD k false)->Ch (l.zip c) s=Ch (l.zip d) s
 | [],_,_,_,_,_,_=>rfl
 |_::_,[],_,_,h,_,_=>by simp at h
 |_::_,_::_,[],_,_,h,_=>by simp at h
 | x::l,v::c,w::d,s,h1,h2,h3=>by
  show Ch (l.zip c) (Ek s (x,v))=Ch (l.zip d) (Ek s (x,w));have e:Ek s (x,v)=Ek s (x,w):=by
   by_cases hk:x.Kind=1
   .have:v=w:=h3 0 x rfl hk;rw[this]
   .unfold Ek;rw[eU (λhh=>hk hh.1),eU (λhh=>hk hh.1)]
  rw[e];exact Tk l c d _ (by simpa using h1) (by simpa using h2) λk y hy hk=>h3 (k+1) y hy hk
theorem E1.groups(hc:c.Closed.length=b.Breakers.length)(hq:q.Closed.length=b.Breakers.length)(s:E1 b c q):groups b q=groups b c:=by
 unfold Go.Proofs.YtkcebipolafapaaGreat.groups;have key:∀(xs:fc)(t:fb),xs.foldl (λs _=>Ch (b.Breakers.zip q.Closed) s) t=xs.foldl (λs _=>Ch (b.Breakers.zip c.Closed) s) t:=by
  intro xs;induction xs with
  |nil=>intro t;rfl
  |cons x xs ih=>intro t;simp only[bx];rw[Tk b.Breakers q.Closed c.Closed t hq hc λk x hx hk=>s.cl k x hx (by omega)];exact ih _
 exact key _ _
theorem E1.con(h:Ad b)(hc:Aa b c)(hq:Aa b q)(s:E1 b c q)(hi:i<b.Sources.length):Cy b q (i:Int)=Cy b c (i:Int):=by obtain⟨_,_,k2,_,hg⟩:=N0 h hi;rw[T4 h hq hi,T4 h hc hi,s.src,s.cl _ _ hg (by omega)]
theorem E1.sources(h:Ad b)(hc:Aa b c)(hq:Aa b q)(s:E1 b c q)(f:Nat):(isl b q f).Sources=(isl b c f).Sources:=by show E8 b q b.Sources.length f=E8 b c b.Sources.length f;unfold E8;congr 1;refine bX λi hi=>?_;rw[s.con h hc hq (aV.1 hi)];unfold Ff;rw[s.groups hc.ncl hq.ncl]
def fg(b:c_)(q:dZ)(m:Nat):Option Int:=Ff b q (Dz b q 3 (m:Int))
variable{f:Nat}
theorem Dn:m∈(isl b q f).Consumers↔∃k:Nat,m=(k:Int)/\k<b.Consumers.length/\fg b q k=some (f:Int):=by
 constructor
 .intro h;obtain⟨k,hk,e⟩:=an.1 h;obtain⟨h1,h2⟩:=ar.1 hk;exact⟨k,e.symm,aV.1 h1,by rwa [dH]at h2⟩
 .rintro⟨k,e,h1,h2⟩;exact an.2 ⟨k,ar.2 ⟨aV.2 h1,by rw[dH];exact h2⟩,e.symm⟩
theorem Rn(b:c_)(q:dZ)(f:Nat):(isl b q f).Consumers.Nodup:=by show (D8 b q b.Consumers.length f).Nodup;unfold D8;rw[cQ,cK];exact((cQ.1 List.nodup_range).sublist ck).imp λh e=>h (by omega)
variable{x:Ae}
theorem Nk:Bw x m=true↔m∈x.Consumers:=by
 unfold Bw;rw[bv];constructor
 .rintro⟨y,hy,e⟩;rw[dH]at e;rw[e];exact hy
 .intro h;exact⟨m,h,by simp⟩
theorem Awy(hq:Aa b q)(m:Nat)(n:Nat):Dz b (A1 q (acC b q.Closed (isC (m:Int)))) 3 (n:Int)=if n=m then none else Dz b q 3 (n:Int):=by
 have hq2:=L8 hq (isC (m:Int));rw[Td (p:=A1 q (acC b q.Closed (isC (m:Int)))) hq2.ncl,Td hq.ncl];have hz:∀z,z∈ofZ b 3 (n:Int)->(acC b q.Closed (isC (m:Int))).getD z.2 false=(q.Closed.getD z.2 false && !decide (n=m)):=λz hz=>by have h1:=Pp hz;have h2:=(ar.1 hz).2;simp only[ac,dH]at h2;have hk:=(ab.1 h1).1;rw[uP b q.Closed _ hk,P4 h1];congr 2;unfold isC;rw[h2.1,h2.2,aU];simp only[ac,dH,dF,true_and,beq_self_eq_true];omega
 by_cases e:n=m
 .rw[eT e];have:(ofZ b 3 (n:Int)).find? (λz=>(A1 q (acC b q.Closed (isC (m:Int)))).Closed.getD z.2 false)=none:=by
   rw[List.find?_eq_none];intro z hz2;have:=hz z hz2;show ¬(acC b q.Closed (isC (m:Int))).getD z.2 false=true;rw[this,dK e];simp
  rw[this];rfl
 .rw [eU e];congr 1;have:∀l:List (dU×Nat),(∀z,z∈l->z∈ofZ b 3 (n:Int))->l.find? (λz=>(A1 q (acC b q.Closed (isC (m:Int)))).Closed.getD z.2 false)=l.find? λz=>q.Closed.getD z.2 false:=by
   intro l;induction l with
   |nil=>intro _;rfl
   | cons z l ih=>
    intro hl;have h1:(A1 q (acC b q.Closed (isC (m:Int)))).Closed.getD z.2 false=q.Closed.getD z.2 false:=by show (acC b q.Closed (isC (m:Int))).getD z.2 false=_;rw[hz z (hl z ai),dL e];simp
    simp only[cR,h1];rw[ih λy hy=>hl y (ak _ hy)]
  exact this _ λz hz=>hz
theorem Rv(m:Nat):E1 b q (A1 q (acC b q.Closed (isC (m:Int)))):=⟨rfl,λk x hx hk=>by
 have hlt:=(ab.1 hx).1;show (acC b q.Closed (isC (m:Int))).getD k false=_;rw[uP b q.Closed _ hlt,P4 hx];have:isC (m:Int) x=false:=by unfold isC;rw[dJ.2 hk];rfl
 rw[this];simp⟩
theorem Ajw(hq:Aa b q)(m n:Nat):fg b (A1 q (acC b q.Closed (isC (m:Int)))) n=if n=m then none else fg b q n:=by
 unfold fg;rw[Awy hq];by_cases e:n=m
 .rw[eT e,eT e];rfl
 .rw[eU e,eU e];unfold Ff;have:Go.Proofs.YtkcebipolafapaaGreat.groups b (A1 q (acC b q.Closed (isC (m:Int))))=Go.Proofs.YtkcebipolafapaaGreat.groups b q:=(Rv (b:=b) (q:=q) m).groups hq.ncl (L8 hq (isC (m:Int))).ncl;show Option.map (λ(a:Int)=>(Go.Proofs.YtkcebipolafapaaGreat.groups b (A1 q (acC b q.Closed (isC (m:Int))))).getD a.toNat 0) _=_;rw[this]
def sm(g:Int->Int)(l:fb):Int:=l.foldr (λm s=>g m+s) 0
theorem Auz(g:Int->Int){m:fb}(p:l.Perm m):sm g l=sm g m:=by
 induction p with
 |nil=>rfl
 |cons x _ ih=>show g x+sm g _=g x+sm g _;rw[ih]
 |swap x y l=>show g y+(g x+sm g l)=g x+(g y+sm g l);omega
 |trans _ _ i1 i2=>exact i1.trans i2
theorem Ag0(L:fb)(l:fb):J0 L l=sm (λm=>L.getD m.toNat 0) l:=by
 have key:∀(l:fb)(s:Int),l.foldl (λs c=>s+L.getD c.toNat 0) s=s+sm (λm=>L.getD m.toNat 0) l:=by
  intro l;induction l with
  |nil=>intro s;simp[sm]
  |cons x l ih=>intro s;rw[bx,ih];show _=s+(L.getD x.toNat 0+sm _ l);omega
 have:=key l 0;unfold J0;rw[this];omega
theorem Xb{g g':Int->Int}:∀{l:fb},(∀m,m∈l->g m=g' m)->sm g l=sm g' l
 | [],_=>rfl
 |x::l,h=>by show g x+sm g l=g' x+sm g' l;rw[h x ai,Xb λm hm=>h m (ak _ hm)]
theorem Aiy{g:Int->Int}:∀{l:fb},(∀m,m∈l->0<=g m)->0<=sm g l
 | [],_=>by simp[sm]
 |x::l,h=>by have h1:=h x ai;have h2:=Aiy (l:=l) λm hm=>h m (ak _ hm);show 0<=g x+sm g l;omega
theorem Ag2{g:Int->Int}:∀{l:fb},(∀m,m∈l->g m=0)->sm g l=0
 | [],_=>rfl
 |x::l,h=>by show g x+sm g l=0;rw[h x ai,Ag2 λm hm=>h m (ak _ hm)];omega
theorem Awo{g g':Int->Int}{x:Int}(hn:l.Nodup)(hx:x∈l)(h:∀m,m∈l->m≠x->g m=g' m):sm g l=sm g' l+(g x-g' x):=by
 induction l with
 |nil=>cases hx
 | cons y l ih=>
  obtain⟨n1,n2⟩:=List.nodup_cons.1 hn;show g y+sm g l=g' y+sm g' l+(g x-g' x);by_cases e:y=x
  .subst e;rw[Xb λm hm=>h m (ak _ hm) λe=>n1 (by rw[←e];exact hm)];omega
  .have hxl:x∈l:=by
    rcases ah.1 hx with e2|e2
    .exact absurd e2.symm e
    .exact e2
   rw[h y ai e,ih n2 hxl λm hm=>h m (ak _ hm)];omega
theorem Ahb(h:Ad b):m∈D3 b↔0<=m/\m<b.Consumers.length:=by
 constructor
 .exact S5 h
 .intro hm;have hs:=(Kt h).2;obtain⟨k,hk,e⟩:=hs.mem m.toNat (by omega);have hl:=hs.len;have:(D3 b)[k]?=some m:=by
   rw[af (by omega)];simp only[List.getD,af (show k<(D3 b).length by omega),ch]at e;rw[e];congr 1;omega
  exact ae this
def Q4(b:c_)(m:Int):Int:=(b.Consumers.getD m.toNat default).Least
abbrev Dp(b:c_)(q:dZ)(n:Nat):fb:=(isl b q (Av b q n)).Consumers
theorem Im(b:c_)(q:dZ)(n:Nat)(hs:0<(isl b q (Av b q n)).Sources.length):Bg b q n=sm (λm=>q.Limits.getD m.toNat 0) (Dp b q n):=by unfold Bg;rw[eT hs,Ag0]
theorem qU(he:0<Cm b q n):0<(isl b q (Av b q n)).Sources.length:=by
 by_cases hs:0<(isl b q (Av b q n)).Sources.length
 .exact hs
 .exfalso;have e1:(isl b q (Av b q n)).Sources=[]:=cW.1 (by omega);unfold Cm Bg Db at he;rw[eU hs,e1]at he;simp[J0]at he
theorem Ahr{v:Int}(ha:a∈Dp b q n)(hl:a.toNat<L.length)(hs:0<(isl b q (Av b q n)).Sources.length) :
  Bg b (As q (L.set a.toNat v)) n=Bg b (As q L) n-(L.getD a.toNat 0-v):=by
 have h0:=G6 ha;rw[Im b (As q (L.set a.toNat v)) n hs,Im b (As q L) n hs];show sm (λm=>(L.set a.toNat v).getD m.toNat 0) (Dp b q n)=sm (λm=>L.getD m.toNat 0) (Dp b q n)-_;have e:(L.set a.toNat v).getD a.toNat 0=v:=by rw[Ly,eT ⟨rfl,hl⟩]
 rw[Awo (l:=Dp b q n) (g:=λm=>(L.set a.toNat v).getD m.toNat 0) (g':=λm=>L.getD m.toNat 0) (Rn b q _) ha λm hm hne=>?_]
 .rw[e];omega
 .have h1:=G6 hm;simp only[Ly];rw[eU λe=>hne (by omega)]
theorem Ay6(b:c_)(q:dZ)(L:fb)(n:Nat):Db b (As q L) n=Db b q n:=rfl
structure Ad0(b:c_)(q:dZ)(n:Nat)(l:fb)(j:Nat)(L:fb):Prop where
 ok:Aa b (As q L)
 le:∀m:Nat,L.getD m 0<=q.Limits.getD m 0
 out:∀m:Nat,(m:Int)∉l.take j->L.getD m 0=q.Limits.getD m 0
 low:0<Cm b (As q L) n->∀m,m∈l.take j->L.getD m.toNat 0<=Q4 b m
 ord:∀(i:Nat) k,i<j->l[i]?=some k->L.getD k.toNat 0≠q.Limits.getD k.toNat 0->∀(i':Nat) m,i'<i->l[i']?=some m->L.getD m.toNat 0<=Q4 b m
theorem Jb:m∈l.take j↔∃i,i<j/\l[i]?=some m:=by
 rw[cX];constructor
 .rintro⟨i,hi⟩;rw[ax]at hi;split at hi
  .exact⟨i,by omega,hi⟩
  .cases hi
 .rintro⟨i,hi,h⟩;exact⟨i,by rw[ax,eT hi];exact h⟩
theorem Ad0.step(h:Ad b)(hn:l.Nodup)(hl:∀c,c∈l->c∈Dp b q n){c:Int}(hc:l[j]?=some c){z:fb×List a_}(hI:Ad0 b q n l j z.1):Ad0 b q n l (j+1) (Fi b q n z c).1:=by
 have hcm:=hl c (ae hc);have hin:=G6 hcm;obtain⟨g1,g2,g3,g4⟩:=O2 h hI.ok hin.1 hin.2;have hlen:c.toNat<z.1.length:=by have:z.1.length=b.Consumers.length:=hI.ok.nli;omega
 have hnot:∀m,m∈l.take j->m≠c:=λm hm e=>by subst e;obtain⟨i,hi,hm⟩:=Jb.1 hm;have:=(List.getElem?_inj (ab.1 hm).1 hn).1 (hm.trans hc.symm);omega
 have htk:∀m,m∈l.take (j+1)↔m∈l.take j\/m=c:=λm=>by rw[An hc,ao,aF]
 have hok:=Vu (n:=n) h hI.ok hin.1 hin.2;have hpos:∀m,m∈l.take j->0<=m:=λm hm=>(G6 (hl m (be hm))).1;by_cases hp:0<Cq b (As q z.1) n c
 .have e:(Fi b q n z c).1=z.1.set c.toNat (z.1.getD c.toNat 0-Cq b (As q z.1) n c):=by unfold Fi;rw[eT hp]
  rw[e]at hok ⊢;have hm1:Cq b (As q z.1) n c<=Cm b (As q z.1) n:=Int.min_le_left _ _;have hm2:Cq b (As q z.1) n c<=z.1.getD c.toNat 0-Q4 b c:=Int.min_le_right _ _;have hm3:Cq b (As q z.1) n c=Cm b (As q z.1) n\/Cq b (As q z.1) n c=z.1.getD c.toNat 0-Q4 b c:=by have:Cq b (As q z.1) n c=min (Cm b (As q z.1) n) (z.1.getD c.toNat 0-Q4 b c):=rfl;omega
  have hs:=qU (b:=b) (q:=As q z.1) (n:=n) (by omega);have hload:=Ahr (v:=z.1.getD c.toNat 0-Cq b (As q z.1) n c) hcm hlen hs;have hexc:Cm b (As q (z.1.set c.toNat (z.1.getD c.toNat 0-Cq b (As q z.1) n c))) n=Cm b (As q z.1) n-Cq b (As q z.1) n c:=by have e1:Cm b (As q z.1) n=max 0 (Bg b (As q z.1) n-Db b q n):=rfl;have e2:∀L,Cm b (As q L) n=max 0 (Bg b (As q L) n-Db b q n):=λ_=>rfl;rw[e2,hload];omega
  have hget:∀m:Nat,m≠c.toNat->(z.1.set c.toNat (z.1.getD c.toNat 0-Cq b (As q z.1) n c)).getD m 0=z.1.getD m 0:=λm hm=>by rw[Ly,eU λe=>hm e.1.symm]
  have hgc:(z.1.set c.toNat (z.1.getD c.toNat 0-Cq b (As q z.1) n c)).getD c.toNat 0=z.1.getD c.toNat 0-Cq b (As q z.1) n c:=by rw[Ly,eT ⟨rfl,hlen⟩]
  have hne:∀m,m∈l.take j->m.toNat≠c.toNat:=λm hm e=>hnot m hm (by have:=hpos m hm;omega);refine⟨hok,λm=>?_,λm hm=>?_,λhe m hm=>?_,λi k hi hk hch i' m hi' hm=>?_⟩
  .have:=hI.le m;by_cases em:m=c.toNat
   .subst em;rw[hgc];omega
   .rw[hget m em];exact this
  .have hmc:m≠c.toNat:=λe=>hm ((htk _).2 (.inr (by omega)));rw[hget m hmc];exact hI.out m λhh=>hm ((htk _).2 (.inl hh))
  .rcases(htk m).1 hm with h1|rfl
   .rw[hget _ (hne m h1)];exact hI.low (by omega) m h1
   .rw[hgc];omega
  .have hm':m∈l.take j:=Jb.2 ⟨i',by omega,hm⟩;rw[hget _ (hne m hm')];by_cases ei:i=j
   .exact hI.low (by omega) m hm'
   .have hk':k∈l.take j:=Jb.2 ⟨i,by omega,hk⟩;rw[hget _ (hne k hk')]at hch;exact hI.ord i k (by omega) hk hch i' m hi' hm
 .have e:Fi b q n z c=z:=by unfold Fi;rw[eU hp]
  rw[e];refine⟨hI.ok,hI.le,λm hm=>hI.out m λhh=>hm ((htk _).2 (.inl hh)),λhe m hm=>?_,λi k hi hk hch i' m hi' hm=>?_⟩
  .rcases(htk m).1 hm with h1|rfl
   .exact hI.low he m h1
   .have:Cq b (As q z.1) n m=min (Cm b (As q z.1) n) (z.1.getD m.toNat 0-Q4 b m):=rfl;omega
  .by_cases ei:i=j
   .subst ei;rw[hc]at hk;cases hk;exfalso;refine hch (by have:=hI.out c.toNat λhh=>hnot _ hh (by omega);exact this)
   .exact hI.ord i k (by omega) hk hch i' m hi' hm
theorem Avg(h:Ad b)(hq:Aa b q)(hn:l.Nodup)(hl:∀c,c∈l->c∈Dp b q n)(acts:List a_):Ad0 b q n l l.length (Ei b q n l (q.Limits,acts)).1:=by
 have key:∀j,j<=l.length->Ad0 b q n l j (Ei b q n (l.take j) (q.Limits,acts)).1:=by
  intro j;induction j with
  |zero=>intro _;exact⟨hq,λ_=>bY _,λ_ _=>rfl,λ_ m hm=>by simp at hm,λi _ hi=>by omega⟩
  | succ j ih=>
   intro hj;have hc:l[j]?=some l[j]:=af (by omega);have e:Ei b q n (l.take (j+1)) (q.Limits,acts)=Fi b q n (Ei b q n (l.take j) (q.Limits,acts)) l[j]:=by rw[An hc];unfold Ei;rw[aN];rfl
   rw[e];exact(ih (by omega)).step h hn hl hc
 have:=key l.length (ag _);rw[am]at this;exact this
theorem Aml{g:Int->Int}:∀{l' l:fb},l'.Nodup->(∀m,m∈l'->m∈l)->(∀m,m∈l->0<=g m)->sm g l'<=sm g l
 | [],l,_,_,h=>Aiy h
 | x::l',l,hn,hs,h=>by
  obtain⟨n1,n2⟩:=List.nodup_cons.1 hn;have hp:=List.perm_cons_erase (hs x ai);have:=Aml (g:=g) (l':=l') (l:=l.erase x) n2 (λm hm=>by
   rcases ah.1 (hp.mem_iff.1 (hs m (ak _ hm))) with e|e
   .subst e;exact absurd hm n1
   .exact e) λm hm=>h m (List.mem_of_mem_erase hm)
  rw[Auz g hp];show g x+sm g l'<=g x+sm g (l.erase x);omega
theorem Fz(hq:Aa b q)(hr:Aa b r)(s:E1 b q r)(n:Nat):Av b r n=Av b q n:=by unfold Av;rw[s.groups hq.ncl hr.ncl]
theorem Xc(h:Ad b)(hq:Aa b q)(hr:Aa b r)(s:E1 b q r)(n:Nat):Db b r n=Db b q n:=by unfold Db;rw[Fz hq hr s,s.sources h hq hr]
theorem Ahk(h:Ad b)(hq:Aa b q):∀m,m∈Dp b q n->0<=q.Limits.getD m.toNat 0:=λm hm=>(O2 h hq (G6 hm).1 (G6 hm).2).2.1
theorem Ahq(h:Ad b)(hq:Aa b q)(hr:Aa b r)(s:E1 b q r)(hL:r.Limits=q.Limits)(n:Nat)(hs:∀m,m∈Dp b r n->m∈Dp b q n):Cm b r n<=Cm b q n:=by
 unfold Cm;rw[Xc h hq hr s];have key:Bg b r n<=Bg b q n:=by
  by_cases hh:0<(isl b q (Av b q n)).Sources.length
  .rw[Im b q n hh,Im b r n (by rw[Fz hq hr s,s.sources h hq hr];exact hh),hL];exact Aml (Rn b r _) hs (Ahk h hq)
  .have e1:Bg b q n=0:=by unfold Bg;rw[eU hh]
   have e2:Bg b r n=0:=by unfold Bg;rw[Fz hq hr s,s.sources h hq hr,eU hh]
   omega
 omega
structure Mz(b:c_)(q:dZ)(n:Nat)(l:fb)(j:Nat)(C:fe):Prop where
 ok:Aa b (A1 q C)
 skel:E1 b q (A1 q C)
 mono:∀k:Nat,C.getD k false=true->q.Closed.getD k false=true
 fgs:∀k:Nat,fg b (A1 q C) k=fg b q k\/fg b (A1 q C) k=none/\(k:Int)∈l.take j
 pos:0<Cm b (A1 q C) n->∀m,m∈l.take j->0<q.Limits.getD m.toNat 0->fg b (A1 q C) m.toNat=none
 ord:∀(i:Nat) k,i<j->l[i]?=some k->fg b (A1 q C) k.toNat=none->0<Cm b q n/\∀(i':Nat) m,i'<i->l[i']?=some m->fg b (A1 q C) m.toNat≠none->q.Limits.getD m.toNat 0<=0
theorem Mz.sub(hq:Aa b q)(hI:Mz b q n l j C):∀m,m∈Dp b (A1 q C) n->m∈Dp b q n:=λm hm=>by
 obtain⟨k,e,h1,h2⟩:=Dn.1 hm;rw[Fz hq hI.ok hI.skel]at h2;refine Dn.2 ⟨k,e,h1,?_⟩;rcases hI.fgs k with h3|h3
 .rw[←h3];exact h2
 .rw[h3.1]at h2;cases h2
theorem Mz.step(h:Ad b)(hq:Aa b q)(hn:l.Nodup)(hl:∀c,c∈l->c∈Dp b q n){c:Int}(hc:l[j]?=some c){z:fe×List a_}(hI:Mz b q n l j z.1):Mz b q n l (j+1) (Eg b q n z c).1:=by
 have hcm:=hl c (ae hc);have hin:=G6 hcm;have htk:∀m,m∈l.take (j+1)↔m∈l.take j\/m=c:=λm=>by rw[An hc,ao,aF]
 have hpos:∀m,m∈l.take j->0<=m:=λm hm=>(G6 (hl m (be hm))).1;have hnot:∀m,m∈l.take j->m≠c:=λm hm e=>by subst e;obtain⟨i,hi,hm⟩:=Jb.1 hm;have:=(List.getElem?_inj (ab.1 hm).1 hn).1 (hm.trans hc.symm);omega
 have hexc:=Ahq h hq hI.ok hI.skel rfl n (hI.sub hq);obtain⟨a,rfl⟩:∃a:Nat,c=(a:Int):=⟨c.toNat,by omega⟩;have hfc:fg b q a≠none:=by
  obtain⟨k,e,_,h2⟩:=Dn.1 hcm;have:k=a:=by omega
  subst this;rw[h2];intro hh;cases hh
 by_cases hp:0<q.Limits.getD (a:Int).toNat 0/\0<Cm b (A1 q z.1) n
 .have e:(Eg b q n z (a:Int)).1=acC b z.1 (isC (a:Int)):=by unfold Eg;rw[eT hp]
  rw[e];have hok:Aa b (A1 q (acC b z.1 (isC (a:Int)))):=L8 hI.ok (isC (a:Int));have hfg:∀k:Nat,fg b (A1 q (acC b z.1 (isC (a:Int)))) k=if k=a then none else fg b (A1 q z.1) k:=λk=>Ajw hI.ok a k
  have hsk:E1 b (A1 q z.1) (A1 q (acC b z.1 (isC (a:Int)))):=Rv (q:=A1 q z.1) a;have hsub:∀m,m∈Dp b (A1 q (acC b z.1 (isC (a:Int)))) n->m∈Dp b (A1 q z.1) n:=λm hm=>by
   obtain⟨k,e,h1,h2⟩:=Dn.1 hm;rw[Fz hI.ok hok hsk,hfg]at h2;split at h2
   .cases h2
   .exact Dn.2 ⟨k,e,h1,h2⟩
  have hle:=Ahq h hI.ok hok hsk rfl n hsub;refine⟨hok,hI.skel.trans hsk,λk hk=>hI.mono k ?_,λk=>?_,λhe m hm hL=>?_,λi k hi hk hf=>⟨by omega,λi' m hi' hm hfm=>?_⟩⟩
  .by_cases hlt:k<b.Breakers.length
   .rw[uP b z.1 _ hlt,ac]at hk;exact hk.1
   .have:(acC b z.1 (isC (a:Int))).length=b.Breakers.length:=hok.ncl;rw[List.getD,bg (by omega)]at hk;cases hk
  .rw[hfg];split
   .rename_i e;subst e;exact .inr ⟨rfl,(htk _).2 (.inr rfl)⟩
   .rcases hI.fgs k with h1|h1
    .exact .inl h1
    .exact .inr ⟨h1.1,(htk _).2 (.inl h1.2)⟩
  .rw[hfg];split
   .rfl
   .rename_i hne;rcases(htk m).1 hm with h1|h1
    .exact hI.pos (by omega) m h1 hL
    .exact absurd (by rw[h1];exact aq a) hne
  .rw[hfg]at hfm;split at hfm
   .exact absurd rfl hfm
   .have hm':m∈l.take j:=Jb.2 ⟨i',by omega,hm⟩;by_cases h0:0<q.Limits.getD m.toNat 0
    .exact absurd (hI.pos hp.2 m hm' h0) hfm
    .omega
 .have e:Eg b q n z (a:Int)=z:=by unfold Eg;rw[eU hp]
  rw[e];refine⟨hI.ok,hI.skel,hI.mono,λk=>?_,λhe m hm hL=>?_,λi k hi hk hf=>?_⟩
  .rcases hI.fgs k with h1|h1
   .exact .inl h1
   .exact .inr ⟨h1.1,(htk _).2 (.inl h1.2)⟩
  .rcases(htk m).1 hm with h1|h1
   .exact hI.pos he m h1 hL
   .subst h1;exact absurd ⟨hL,he⟩ hp
  .by_cases ei:i=j
   .exfalso;subst ei;rw[hc]at hk;cases hk;rw[aq]at hf;rcases hI.fgs a with h1|h1
    .exact hfc (h1.symm.trans hf)
    .exact hnot _ h1.2 rfl
   .exact hI.ord i k (by omega) hk hf
theorem Aqi(h:Ad b)(hq:Aa b q)(hn:l.Nodup)(hl:∀c,c∈l->c∈Dp b q n)(acts:List a_):Mz b q n l l.length (C6 b q n l (q.Closed,acts)).1:=by
 have key:∀j,j<=l.length->Mz b q n l j (C6 b q n (l.take j) (q.Closed,acts)).1:=by
  intro j;induction j with
  |zero=>intro _;exact⟨hq,E1.refl b q,λ_ hk=>hk,λ_=>.inl rfl,λ_ m hm=>by simp at hm,λi _ hi=>by omega⟩
  | succ j ih=>
   intro hj;have hc:l[j]?=some l[j]:=af (by omega);have e:C6 b q n (l.take (j+1)) (q.Closed,acts)=Eg b q n (C6 b q n (l.take j) (q.Closed,acts)) l[j]:=by rw[An hc];unfold C6;rw[aN];rfl
   rw[e];exact(ih (by omega)).step h hq hn hl hc
 have:=key l.length (ag _);rw[am]at this;exact this
theorem Mz.none(h:Ad b)(hq:Aa b q)(hl:∀c,c∈Dp b q n->c∈l)(hI:Mz b q n l l.length C):Cm b (A1 q C) n=0:=by
 have h0:0<=Cm b (A1 q C) n:=Int.le_max_left _ _;by_cases hp:0<Cm b (A1 q C) n
 .exfalso;have hs:=qU hp;have hz:Bg b (A1 q C) n=0:=by
   rw[Im b (A1 q C) n hs];refine Ag2 λm hm=>?_;have hnn:=Ahk h hI.ok m hm;by_cases hL:0<q.Limits.getD m.toNat 0
   .exfalso;have hf:=hI.pos hp m (by rw[am];exact hl m (hI.sub hq m hm)) hL;obtain⟨k,e,_,h2⟩:=Dn.1 hm;have:m.toNat=k:=by omega
    rw[this,h2]at hf;cases hf
   .have:(A1 q C).Limits=q.Limits:=rfl;rw[this]at hnn ⊢;omega
  have hr:0<=Db b (A1 q C) n:=by
   unfold Db;rw[Ag0];refine Aiy λm hm=>?_;have hm2:=Kx hm;have hg:b.Sources[m.toNat]?=some b.Sources[m.toNat]:=af (by omega);have e:(Lc b).getD m.toNat 0=b.Sources[m.toNat].Rating:=by simp[Lc,List.getD,hg]
   have hr:=(h.so _ (ae hg)).1;show 0<=(Lc b).getD m.toNat 0;rw[e];omega
  unfold Cm at hp;omega
 .omega
theorem Adm(h:Ad b)(hx:isl b c f∈Am b c):Av b c (A6 (isl b c f))=f:=by
 have hm:((A6 (isl b c f):Nat):Int)∈D9 b c b.Buses.toNat f:=by
  have hI:=Lw h hx;have e:(isl b c f).Buses=D9 b c b.Buses.toNat f:=rfl;have hne:=hI.ne;have h0:((A6 (isl b c f):Nat):Int)=(isl b c f).Buses.headD 0:=by
   unfold A6;cases hl:(isl b c f).Buses with
   |nil=>exact absurd hl hne
   |cons y l=>have:=(hI.bus y (by rw[hl];exact ai)).1;show ((y.toNat:Nat):Int)=y;omega
  rw[h0,←e];cases hl:(isl b c f).Buses with
  |nil=>exact absurd hl hne
  |cons y l=>exact ai
 obtain⟨k,hk,e⟩:=an.1 hm;obtain⟨_,h2⟩:=ar.1 hk;have ek:k=A6 (isl b c f):=by omega
 subst ek;unfold Av;rw[dH]at h2;rw[h2];exact aq f
theorem Y1(h:Ad b)(hx:x∈Am b c):x=isl b c (Av b c (A6 x))/\A6 x<b.Buses.toNat:=by obtain⟨_,hlt⟩:=Jg (Lw h hx);obtain⟨h1,_⟩:=ar.1 hx;obtain⟨f,hf,rfl⟩:=an.1 h1;exact⟨by rw[Adm h hx],hlt⟩
structure Don(b:c_)(c q:dZ)(x:Ae):Prop where
 exc:Cm b q (A6 x)=0
 ord:∀(i:Nat) k,(Eb b x)[i]?=some k->(fg b q k.toNat=none\/q.Limits.getD k.toNat 0≠c.Limits.getD k.toNat 0)->∀(i':Nat) m,i'<i->(Eb b x)[i']?=some m->fg b q m.toNat≠none->q.Limits.getD m.toNat 0<=Q4 b m/\(fg b q k.toNat=none->q.Limits.getD m.toNat 0<=0)
structure Kk(b:c_)(D:List Ae)(q r:dZ):Prop where
 ok:Aa b r
 skel:E1 b q r
 brk:r.Broken=q.Broken
 mono:∀k:Nat,r.Closed.getD k false=true->q.Closed.getD k false=true
 le:∀k:Nat,r.Limits.getD k 0<=q.Limits.getD k 0
 fgs:∀k:Nat,fg b r k=fg b q k\/fg b r k=none
 out:∀k:Nat,(∀x,x∈D->Bw x (k:Int)=false)->fg b r k=fg b q k/\r.Limits.getD k 0=q.Limits.getD k 0
theorem Kk.refl(hq:Aa b q):Kk b [] q q:=⟨hq,E1.refl b q,rfl,λ_ hk=>hk,λ_=>bY _,λ_=>.inl rfl,λ_ _=>⟨rfl,rfl⟩⟩
theorem Kk.trans{s:dZ}(u:Kk b D q r)(v:Kk b E r s):Kk b (D++E) q s where
 ok:=v.ok
 skel:=u.skel.trans v.skel
 brk:=v.brk.trans u.brk
 mono k hk:=u.mono k (v.mono k hk)
 le k:=Int.le_trans (v.le k) (u.le k)
 fgs k:=by
  rcases v.fgs k with h1|h1
  .rw[h1];exact u.fgs k
  .exact .inr h1
 out k hk:=by obtain⟨a1,a2⟩:=u.out k λx hx=>hk x (ao.2 (.inl hx));obtain⟨b1,b2⟩:=v.out k λx hx=>hk x (ao.2 (.inr hx));exact⟨b1.trans a1,b2.trans a2⟩
theorem Kk.con(hq:Aa b q)(u:Kk b D q r)(n:Nat):∀m,m∈Dp b r n->m∈Dp b q n:=λm hm=>by
 obtain⟨k,e,h1,h2⟩:=Dn.1 hm;rw[Fz hq u.ok u.skel]at h2;refine Dn.2 ⟨k,e,h1,?_⟩;rcases u.fgs k with h3|h3
 .rw[←h3];exact h2
 .rw[h3]at h2;cases h2
theorem Xi(hk:k∈Eb b x):Bw x k=true:=(ar.1 hk).2
theorem Aqx(h:Ad b)(hc:Aa b c)(u:Kk b D c q)(hq:Aa b q)(hx:x∈Am b c)(hd:∀y,y∈D->∀k,¬(Bw y k=true/\Bw x k=true))(acts:List a_) :
  Kk b [x] q (Fw b (q,acts) x).1/\Don b c (Fw b (q,acts) x).1 x:=by
 obtain⟨ex,hlt⟩:=Y1 h hx;have hg:Av b q (A6 x)=Av b c (A6 x):=Fz hc hq u.skel _;have hso:(isl b q (Av b q (A6 x))).Sources=x.Sources:=by rw[hg,u.skel.sources h hc hq,←ex]
 have hsame:∀k,k∈Eb b x->fg b q k.toNat=fg b c k.toNat/\q.Limits.getD k.toNat 0=c.Limits.getD k.toNat 0:=λk hk=>by
  refine u.out k.toNat λy hy=>?_;have h0:=(M2 h hk).1;have e:(k.toNat:Int)=k:=by omega
  rw[e];cases hy2:Bw y k
  .rfl
  .exact absurd ⟨hy2,Xi hk⟩ (hd y hy k)
 have hnd:(Eb b x).Nodup:=(yJ h).sublist ck;have hcon:∀k,k∈Eb b x->k∈Dp b q (A6 x):=λk hk=>by
  have h1:k∈(isl b c (Av b c (A6 x))).Consumers:=by rw[←ex];exact Nk.1 (Xi hk)
  obtain⟨a,e,h2,h3⟩:=Dn.1 h1;have h4:=(hsame k hk).1;have ea:k.toNat=a:=by omega
  rw[ea]at h4;exact Dn.2 ⟨a,e,h2,by rw[hg,h4];exact h3⟩
 have hrev:∀k,k∈Dp b q (A6 x)->k∈Eb b x:=λk hk=>by
  have h1:=u.con hc _ k hk;have h2:k∈x.Consumers:=by rw[ex];exact h1
  exact ar.2 ⟨(Ahb h).2 (G6 h1),Nk.2 h2⟩
 unfold Fw;split
 .rename_i hs;have hlow:=Avg h hq hnd hcon acts;have hq1:=hlow.ok;have htr:=Aqi h hq1 (n:=A6 x) hnd hcon (E_ b x (q,acts)).2;have hex:=htr.none h hq1 hrev;show Kk b [x] q (A1 (As q (E_ b x (q,acts)).1) (Hv b x (q,acts)).1)/\Don b c (A1 (As q (E_ b x (q,acts)).1) (Hv b x (q,acts)).1) x;refine⟨⟨htr.ok,?_,rfl,htr.mono,hlow.le,λk=>?_,λk hk=>?_⟩,⟨hex,λi k hk hch i' m hi hm hf=>?_⟩⟩
  .exact⟨rfl,htr.skel.cl⟩
  .rcases htr.fgs k with h1|h1
   .exact .inl h1
   .exact .inr h1.1
  .have hkx:=hk x ai;have hno:(k:Int)∉Eb b x:=λhh=>by rw[Xi hh]at hkx;cases hkx
   refine⟨?_,hlow.out k λhh=>hno (be hh)⟩;rcases htr.fgs k with h1|h1
   .exact h1
   .exact absurd (be h1.2) hno
  .have hi2:i<(Eb b x).length:=(ab.1 hk).1;have hmt:m∈(Eb b x).take (Eb b x).length:=by rw[am];exact ae hm
   by_cases hn:fg b (A1 (As q (E_ b x (q,acts)).1) (Hv b x (q,acts)).1) k.toNat=none
   .obtain⟨h1,h2⟩:=htr.ord i k hi2 hk hn;exact⟨hlow.low h1 m hmt,λ_=>h2 i' m hi hm hf⟩
   .have hch2:(E_ b x (q,acts)).1.getD k.toNat 0≠q.Limits.getD k.toNat 0:=by
     rw[(hsame k (ae hk)).2];rcases hch with h1|h1
     .exact absurd h1 hn
     .exact h1
    exact⟨hlow.ord i k hi2 hk hch2 i' m hi hm,λhh=>absurd hh hn⟩
 .rename_i hs;have hex:Cm b q (A6 x)=0:=by
   have h0:0<=Cm b q (A6 x):=Int.le_max_left _ _;by_cases hp:0<Cm b q (A6 x)
   .have:=qU hp;rw[hso]at this;exact absurd this hs
   .omega
  refine⟨⟨hq,E1.refl b q,rfl,λ_ hk=>hk,λ_=>bY _,λ_=>.inl rfl,λ_ _=>⟨rfl,rfl⟩⟩,⟨hex,λi k hk hch=>?_⟩⟩;exfalso;obtain⟨a1,a2⟩:=hsame k (ae hk);rcases hch with h1|h1
  .have h1':fg b q k.toNat=none:=h1;obtain⟨a,e,_,h3⟩:=Dn.1 (hcon k (ae hk));have ea:k.toNat=a:=by omega
   rw[ea,h3]at h1';cases h1'
  .exact h1 a2
theorem Tc(h:Ad b)(hp:Aa b p)(hn:n<b.Buses.toNat):vA b p (n:Int)=some (Bg b p n):=by
 have hcl:=h.col;have hlen:(isl b p (Av b p n)).Consumers.length<=b.Consumers.length:=Dd _ _;have hof:Ii b p (n:Int)=some (isl b p (Av b p n),true):=Il h hp hn;unfold vA;rw[hof];simp only[aa];by_cases hs:0<(isl b p (Av b p n)).Sources.length
 .have e0:T9 (isl b p (Av b p n),true)=false:=by
   unfold T9;simp only[aC,aO,dJ];omega
  rw[e0,eQ];have key:Ok (andThen (foldI (uZ p) (isl b p (Av b p n)).Consumers 0 0) (λ_=>none) λz0=>some z0) λy=>y=Bg b p n:=by
   refine eI (A:=λs=>s=Bg b p n) (B:=λ(_:Unit)=>False) ?_ (λs hs=>eK hs) eN;refine c8 (I:=λj s=>s=J0 p.Limits ((isl b p (Av b p n)).Consumers.take j)/\0<=s/\s<=50000*(j:Int)) ⟨rfl,by omega,by omega⟩ (λj c s hc hI=>?_) λs hI=>?_
   .obtain⟨h1,h2,h3⟩:=hI;have hj:j<(isl b p (Av b p n)).Consumers.length:=(ab.1 hc).1;have hcm:=G6 (ae hc);obtain⟨g1,g2,g3,g4⟩:=O2 h hp hcm.1 hcm.2;unfold uZ;rw[g1];simp only[aa];rw[Ah];refine c7 ⟨?_,by omega,by omega⟩;rw[An hc,Oc,h1]
   .rw[am]at hI;unfold Bg;rw[eT hs];exact hI.1
  obtain⟨r,e,h1⟩:=key;rw[h1]at e;exact e
 .have e0:T9 (isl b p (Av b p n),true)=true:=by
   unfold T9;simp only[aC,aO,dH];omega
  rw[e0,eO];unfold Bg;rw[eU hs]
theorem O0(h:Ad b)(hp:Aa b p)(hn:n<b.Buses.toNat):Yg b p (n:Int)=some (Db b p n):=by
 have hcl:=h.sol;have hlen:(isl b p (Av b p n)).Sources.length<=b.Sources.length:=Dd _ _;have key:Ok (Yg b p (n:Int)) λy=>y=Db b p n:=by
  unfold Yg;have hof:Ii b p (n:Int)=some (isl b p (Av b p n),true):=Il h hp hn;rw[hof];simp only[aa];refine eI (A:=λs=>s=Db b p n) (B:=λ(_:Unit)=>False) ?_ (λs hs=>eK hs) eN;refine c8 (I:=λj s=>s=J0 (Lc b) ((isl b p (Av b p n)).Sources.take j)/\0<=s/\s<=50000*(j:Int)) ⟨rfl,by omega,by omega⟩ (λj c s hc hI=>?_) λs hI=>?_
  .obtain⟨h1,h2,h3⟩:=hI;have hj:j<(isl b p (Av b p n)).Sources.length:=(ab.1 hc).1;have hcm:=Kx (ae hc);unfold Ah8;refine(d7 hcm.1 hcm.2).bind λy hy=>?_;have hr:=(h.so y (ae hy)).1;have e:(Lc b).getD c.toNat 0=y.Rating:=by simp[Lc,List.getD,hy]
   rw[Ah];refine c7 ⟨?_,by omega,by omega⟩;rw[An hc,Oc,h1,e]
  .rw[am]at hI;exact hI.1
 obtain⟨r,e,h1⟩:=key;rw[h1]at e;exact e
theorem uN{r:Int->Int}:∀{l m:fb},l.Pairwise (λa b=>r a<r b)->m.Pairwise (λa b=>r a<r b)->(∀x,x∈l↔x∈m)->l=m
 | [],[],_,_,_=>rfl
 | [],b::m,_,_,h=>by have:=(h b).2 ai;cases this
 |a::l,[],_,_,h=>by have:=(h a).1 ai;cases this
 | a::l,b::m,h1,h2,h=>by
  obtain⟨p1,p2⟩:=bm.1 h1;obtain⟨q1,q2⟩:=bm.1 h2;have e:a=b:=by
   rcases ah.1 ((h a).1 ai) with e|e
   .exact e
   .rcases ah.1 ((h b).2 ai) with e2|e2
    .exact e2.symm
    .have:=q1 a e;have:=p1 b e2;omega
  subst e;rw[uN p2 q2 λx=>⟨λhx=>?_,λhx=>?_⟩]
  .rcases ah.1 ((h x).1 (ak _ hx)) with e|e
   .subst e;have:=p1 x hx;omega
   .exact e
  .rcases ah.1 ((h x).2 (ak _ hx)) with e|e
   .subst e;have:=q1 x hx;omega
   .exact e
theorem Au6(h:Ad b):(D3 b).Pairwise λx y=>key b x<key b y:=by have hs:=(Kt h).2;have hl:=hs.len;rw[cg];intro i j hi hj hij;have:=hs.asc i j hij (by omega) (by omega);simpa only[List.getD,af hi,af hj,ch]using this
def O1(b:c_)(c:Int):Int:=(b.Consumers.getD c.toNat default).Preference
abbrev vT(b:c_)(l:fb):Prop:=l.Pairwise λx y=>key b x<key b y
theorem Ajb(h : Ad b) : Afn b = some (D3 b) := by
 have hcl:=h.col;have hpr:∀c:Int,0<=c->c<b.Consumers.length->0<=O1 b c/\O1 b c<=15:=λc h0 h1=>(h.co c.toNat _ (Em (b:=b) (i:=c.toNat))).2.2.1
 have key : Ok (Afn b) λy => vT b y /\ ∀x : Int, x ∈ y ↔ 0 <= x /\ x < b.Consumers.length := by
  unfold Afn;rw[Je h];simp only[aa];refine c6 (λhc=>by simp at hc) (λ_=>?_);refine eI (A:=λ(s:Int×fb)=>vT b s.2/\∀x:Int,x∈s.2↔0<=x/\x<b.Consumers.length) (B:=λ(_:Unit)=>False) ?_ (λs hs=>eK hs) eN;refine d6 (λ(s:Int×fb)=>(0<=s.1/\s.1<=16)/\(s.2.length:Int)<=16*s.1/\vT b s.2/\∀x:Int,x∈s.2↔0<=x/\x<b.Consumers.length/\O1 b x<s.1) (λs=>(16-s.1).toNat) _ _ ⟨by dsimp only;omega,by simp,List.Pairwise.nil,λx=>⟨λhx=>(by cases hx),λ⟨h0,h1,h2⟩=>?_⟩⟩ (by dsimp only;omega) ?_
  .exfalso;have:=(hpr x h0 h1).1;dsimp only at h2;omega
  rintro⟨k,d⟩ ⟨hk,hl,hd,hm⟩;dsimp only at hk hd hm hl;unfold Aia;dsimp only;refine c6 (λhq=>?_) (λhq=>?_)
  .simp only [dF]at hq;refine eI (A:=λ(s:fb)=>(s.length:Int)<=16*(k+1)/\vT b s/\∀x:Int,x∈s↔0<=x/\x<b.Consumers.length/\O1 b x<k+1) (B:=λ(_:Unit)=>False) ?_ (λs hs=>?_) eN
   .refine c8 (I:=λj(s:fb)=>(s.length:Int)<=16*k+j/\vT b s/\∀x:Int,x∈s↔0<=x/\x<b.Consumers.length/\(O1 b x<k\/O1 b x=k/\x<(j:Int))) ⟨by omega,hd,λx=>?_⟩ (λj c s hc hI=>?_) λs hI=>⟨by omega,hI.2.1,λx=>?_⟩
    .rw[hm];constructor
     .rintro⟨h0,h1,h2⟩;exact⟨h0,h1,.inl h2⟩
     .rintro⟨h0,h1,h2|⟨_,h2⟩⟩
      .exact⟨h0,h1,h2⟩
      .omega
    .obtain⟨i1,i2,i3⟩:=hI;have hj:j<b.Consumers.length:=(ab.1 hc).1;have ep:O1 b (j:Int)=c.Preference:=by simp[O1,List.getD,hc]
     have ec:cnt 0 j=(j:Int):=Bf;unfold Ah9;dsimp only;refine c6 (λhq2=>?_) (λhq2=>?_)
     .simp only[dH]at hq2;refine(d8 (by simp;omega)).bind λy hy=>c7 ?_;rw[hy,ec];refine⟨by simp;omega,?_,λx=>?_⟩
      .unfold vT;rw[List.pairwise_append];refine⟨i2,List.pairwise_singleton _ _,λx hx y hy=>?_⟩;rw[aF.1 hy];obtain⟨x0,x1,x2⟩:=(i3 x).1 hx;have e1:key b x=O1 b x*100+x:=rfl;have e2:key b (j:Int)=O1 b (j:Int)*100+(j:Int):=rfl;rw[e1,e2,ep];omega
      .rw[ao,aF,i3];constructor
       .rintro (⟨x0,x1,x2⟩|e)
        .exact⟨x0,x1,by omega⟩
        .subst e;exact⟨by omega,by omega,.inr ⟨by omega,by omega⟩⟩
       .rintro⟨x0,x1,x2⟩;by_cases e:x=(j:Int)
        .exact .inr e
        .exact .inl ⟨x0,x1,by omega⟩
     .simp only[dJ]at hq2;refine c7 ⟨by omega,i2,λx=>?_⟩;rw[i3];constructor
      .rintro⟨x0,x1,x2⟩;exact⟨x0,x1,by omega⟩
      .rintro⟨x0,x1,x2⟩;by_cases e:x=(j:Int)
       .subst e;exact⟨x0,x1,by omega⟩
       .exact⟨x0,x1,by omega⟩
    .rw[hI.2.2];constructor
     .rintro⟨x0,x1,x2⟩;exact⟨x0,x1,by omega⟩
     .rintro⟨x0,x1,x2⟩;exact⟨x0,x1,by omega⟩
   .have e2:w64 (k+1)=k+1:=Ah;rw[e2];exact c7 ⟨⟨by dsimp only;omega,hs⟩,by dsimp only;omega⟩
  .simp only[dG]at hq;refine db ⟨hd,λx=>?_⟩;dsimp only;rw[hm];refine⟨λ⟨h0,h1,_⟩=>⟨h0,h1⟩,λ⟨h0,h1⟩=>⟨h0,h1,?_⟩⟩;have:=(hpr x h0 h1).2;omega
 obtain⟨r,e,h1,h2⟩:=key;rw[e,uN h1 (Au6 h) λx=>(h2 x).trans (Ahb h).symm]
theorem Ait(h:Ad b)(hp:Aa b p){x:dU}(hx:b.Breakers[j]?=some x):Ald b p (j:Int)=some (Bm p x):=by
 have hbr:=(h.br x (ae hx)).2;have hns:=hp.nso;unfold Ald Bm;rw[Al hx];simp only[E5,aa];cases brk p.Broken 3 x.A with
 |true=>rfl
 | false=>
  simp only[eQ,aO];rcases hbr with⟨hk,_⟩|⟨hk,h0,h1⟩|⟨hk,_⟩
  .rw[hk];rfl
  .rw[hk];have e:p.Sources[x.B.toNat]?=some (p.Sources.getD x.B.toNat default):=by
    rw[af (by omega)];simp[List.getD,List.getElem?_eq_getElem (show x.B.toNat<p.Sources.length by omega)]
   have e2:getI p.Sources x.B=some (p.Sources.getD x.B.toNat default):=by unfold getI;rw[dK h0];exact e
   rw[e2];cases brk p.Broken 1 x.B <;> rfl
  .rw[hk];rfl
theorem Ana(h:Ad b)(hq:Aa b q)(hr:Aa b r)(s:E1 b q r)(n:Nat):C_ b r n=C_ b q n:=by unfold C_;rw[s.groups hq.ncl hr.ncl,s.sources h hq hr]
theorem yK{q:dU->Bool}:(B6 C (Be b C q j)).getD j false=C.getD j false:=by
 rw[Lu];have:((Be b C q j).any λi=>i.toNat==j)=false:=by rw[bq];intro i hi;obtain⟨k,e,hk,_⟩:=Fy.1 hi;simp only[dH];omega
 rw[this];simp
theorem Aob:E1 b p ⟨B6 p.Closed (Be b p.Closed (Cf b p) j),p.Sources,p.Limits,p.Broken⟩:=⟨rfl,λk x hx hk=>by
 show (B6 p.Closed (Be b p.Closed (Cf b p) j)).getD k false=_;rw[Lu];have:((Be b p.Closed (Cf b p) j).any λi=>i.toNat==k)=false:=by
  rw[bq];intro i hi;obtain⟨m,e,_,_,hd⟩:=Fy.1 hi;simp only[dH];intro e2;have:m=k:=by omega
  subst this;rw[P4 hx]at hd;simp only[Cf,ac,dH]at hd;exact hk hd.1
 rw[this];simp⟩
set_option linter.unusedVariables false
theorem Ac0(h:Ad b)(hp:Aa b p):Ok (Alq b p) λy=>y=(Iy b p,Mg b p,0):=by
 have hbl:=h.brl;have hcl:=hp.ncl;unfold Alq;rw[Bi h hp];simp only[aa];refine c6 (λhc=>by simp at hc) (λ_=>?_);rw[Dv h hp];simp only[aa];refine eI (A:=λ(s:Int×fe×List a_)=>s.2.1=(Bu b p).Closed/\s.2.2=D_ (Be b p.Closed (Bm p) b.Breakers.length)) (B:=λ(_:Unit)=>False) ?_ (λs hs=>?_) eN
 .refine d6 (λ(s:Int×fe×List a_)=>∃j:Nat,s.1=(j:Int)/\j<=b.Breakers.length/\s.2.1=B6 p.Closed (Be b p.Closed (Bm p) j)/\s.2.2=D_ (Be b p.Closed (Bm p) j)) (λs=>(100-s.1).toNat) _ _ ⟨0,rfl,by omega,rfl,rfl⟩ (by dsimp only;omega) ?_;rintro⟨z,C,az⟩ ⟨j,hz,h1,h2,h3⟩;dsimp only at hz h2 h3;subst hz;subst h2 h3;have hfl:=El b p.Closed (Bm p) j;unfold Aik Aot;dsimp only;have hlen:(B6 p.Closed (Be b p.Closed (Bm p) j)).length=b.Breakers.length:=by rw[Jl];exact hcl
  refine c6 (λhq=>?_) (λhq=>?_)
  .simp only[dF]at hq;have hj:j<b.Breakers.length:=by omega
   have hx:b.Breakers[j]?=some (b.Breakers.getD j default):=by rw[af hj];simp[List.getD,List.getElem?_eq_getElem hj]
   have hg:getI (B6 p.Closed (Be b p.Closed (Bm p) j)) (j:Int)=some (p.Closed.getD j false):=by rw[←yK (b:=b) (C:=p.Closed) (q:=Bm p)];refine Al ?_;rw[af (by omega)];simp[List.getD,List.getElem?_eq_getElem (show j<(B6 p.Closed (Be b p.Closed (Bm p) j)).length by omega)]
   rw[hg,Ait h hp hx];simp only[aa];have e2:w64 ((j:Int)+1)=((j+1:Nat):Int):=by rw[Ah];omega
   have hsu:=Kb (C:=p.Closed) (q:=Bm p) hx;rw[e2];have eg:(Ag [(p.Closed.getD j false,true)] (some (Bm p (b.Breakers.getD j default))) default)=some (bif p.Closed.getD j false then Bm p (b.Breakers.getD j default) else default):=by cases p.Closed.getD j false <;> rfl
   rw[eg];simp only[aa];have ec:(p.Closed.getD j false&&bif p.Closed.getD j false then Bm p (b.Breakers.getD j default) else default)=(p.Closed.getD j false&&Bm p (b.Breakers.getD j default)):=by cases p.Closed.getD j false <;> rfl
   rw[ec];refine c6 (λhc=>?_) (λhc=>?_)
   .refine(da (by omega)).bind λy hy=>?_;refine(d8 (by simp[D_];omega)).bind λw hw=>c7 ⟨⟨j+1,rfl,by omega,?_,by rw[hw,hsu,eT hc];simp[D_]⟩,by dsimp only;omega⟩;rw[hsu,eT hc,Mk,hy]
   .refine c7 ⟨⟨j+1,rfl,by omega,?_,by dsimp only;rw[hsu,eU (by rw[hc];simp),aB]⟩,by dsimp only;omega⟩;rw[hsu,eU (by rw[hc];simp),aB]
  .simp only[dG]at hq;have:j=b.Breakers.length:=by omega
   subst this;exact db ⟨rfl,rfl⟩
 .obtain⟨i,C,az⟩:=s;dsimp only at hs;obtain⟨hC,ha⟩:=hs;subst hC ha;have hfl1:=El b p.Closed (Bm p) b.Breakers.length;have hq1:Aa b (Bu b p):=uJ hp;have hlen1:(Bu b p).Closed.length=b.Breakers.length:=hq1.ncl;refine eI (A:=λ(s:fe×List a_)=>s.1=(Acy b p).Closed/\s.2=Mg b p) (B:=λ(_:Unit)=>False) ?_ (λs hs=>?_) eN
  .refine c8 (I:=λj(s:fe×List a_)=>s.1=B6 (Bu b p).Closed (Be b (Bu b p).Closed (Cf b (Bu b p)) j)/\s.2=D_ (Be b p.Closed (Bm p) b.Breakers.length)++D_ (Be b (Bu b p).Closed (Cf b (Bu b p)) j)) ⟨rfl,by simp[Be,D_]⟩ (λj x s hx hI=>?_) λs hI=>hI;obtain⟨D,as2⟩:=s;obtain⟨h1,h2⟩:=hI;dsimp only at h1 h2;subst h1 h2;have hfl2:=El b (Bu b p).Closed (Cf b (Bu b p)) j;have hj:j<b.Breakers.length:=(ab.1 hx).1;have hlen:(B6 (Bu b p).Closed (Be b (Bu b p).Closed (Cf b (Bu b p)) j)).length=b.Breakers.length:=by rw[Jl];exact hlen1
   have ec:cnt 0 j=(j:Int):=Bf;have hg:getI (B6 (Bu b p).Closed (Be b (Bu b p).Closed (Cf b (Bu b p)) j)) (j:Int)=some ((Bu b p).Closed.getD j false):=by rw[←yK (b:=b) (C:=(Bu b p).Closed) (q:=Cf b (Bu b p))];refine Al ?_;rw[af (by omega)];simp[List.getD,List.getElem?_eq_getElem (show j<(B6 (Bu b p).Closed (Be b (Bu b p).Closed (Cf b (Bu b p)) j)).length by omega)]
   have hok:Aa b ⟨B6 (Bu b p).Closed (Be b (Bu b p).Closed (Cf b (Bu b p)) j),p.Sources,p.Limits,p.Broken⟩:=Xk _ hq1;have hA:=(h.br x (ae hx)).1;have hlive:F60 b ⟨B6 (Bu b p).Closed (Be b (Bu b p).Closed (Cf b (Bu b p)) j),p.Sources,p.Limits,p.Broken⟩ x.A=some (C_ b (Bu b p) x.A.toNat):=by
    have e:x.A=((x.A.toNat:Nat):Int):=by omega
    have:=Lv h hok (n:=x.A.toNat) (by omega);rw[←e]at this;rw[this,←Ana h hq1 hok Aob]
   have hsu:=Kb (C:=(Bu b p).Closed) (q:=Cf b (Bu b p)) hx;unfold Aij;dsimp only;rw[ec,hg,hlive];have e1:(Ag [((x.Kind==3),true)] (some ((Bu b p).Closed.getD j false)) default)=some (bif x.Kind==3 then (Bu b p).Closed.getD j false else default):=by cases x.Kind==3 <;> rfl
   rw[e1];simp only[aa];have e2:∀g:Bool,(Ag [(g,true)] (some (C_ b (Bu b p) x.A.toNat)) default)=some (bif g then C_ b (Bu b p) x.A.toNat else default):=by intro g;cases g <;> rfl
   rw[e2];simp only[aa];have e3:((x.Kind==3)&&(bif x.Kind==3 then (Bu b p).Closed.getD j false else default) && !(bif (x.Kind==3)&&(bif x.Kind==3 then (Bu b p).Closed.getD j false else default)then C_ b (Bu b p) x.A.toNat else default))=((Bu b p).Closed.getD j false&&Cf b (Bu b p) x):=by unfold Cf;cases x.Kind==3 <;> cases (Bu b p).Closed.getD j false <;> rfl
   rw[e3];refine c6 (λhc=>?_) (λhc=>?_)
   .refine(da (by omega)).bind λy hy=>?_;refine(d8 (by simp[D_];omega)).bind λw hw=>c7 ⟨?_,by rw[hw,hsu,eT hc];simp[D_]⟩;rw[hsu,eT hc,Mk,hy]
   .refine c7 ⟨?_,by dsimp only;rw[hsu,eU (by rw[hc];simp),aB]⟩;rw[hsu,eU (by rw[hc];simp),aB]
  .rw[hs.1];have hf:=I3 h (V3 hp);have hf2:F55 b ⟨(Acy b p).Closed,p.Sources,p.Limits,p.Broken⟩=some (Iy b p,0):=hf;rw[hf2];exact eK (by rw[hs.2])
set_option linter.unusedVariables false
theorem Aby(b:c_)(q:dZ)(n:Nat)(a:List a_):∀(l:fb)(z:fb×List a_),Ei b q n l (z.1,a++z.2)=((Ei b q n l z).1,a++(Ei b q n l z).2)
 | [],_=>rfl
 | c::l,z=>by
  have e:Fi b q n (z.1,a++z.2) c=((Fi b q n z c).1,a++(Fi b q n z c).2):=by unfold Fi;dsimp only;split <;> simp
  show Ei b q n l (Fi b q n (z.1,a++z.2) c)=_;rw[e];exact Aby b q n a l _
theorem vW(b:c_)(q:dZ)(n:Nat)(a:List a_):∀(l:fb)(z:fe×List a_),C6 b q n l (z.1,a++z.2)=((C6 b q n l z).1,a++(C6 b q n l z).2)
 | [],_=>rfl
 | c::l,z=>by
  have e:Eg b q n (z.1,a++z.2) c=((Eg b q n z c).1,a++(Eg b q n z c).2):=by unfold Eg;dsimp only;split <;> simp
  show C6 b q n l (Eg b q n (z.1,a++z.2) c)=_;rw[e];exact vW b q n a l _
theorem Abh(b:c_)(a:List a_):∀(l:List Ae)(z:dZ×List a_),Fa b l (z.1,a++z.2)=((Fa b l z).1,a++(Fa b l z).2)
 | [],_=>rfl
 | x::l,z=>by
  have e1:E_ b x (z.1,a++z.2)=((E_ b x z).1,a++(E_ b x z).2):=Aby b z.1 (A6 x) a (Eb b x) (z.1.Limits,z.2);have e2:Hv b x (z.1,a++z.2)=((Hv b x z).1,a++(Hv b x z).2):=by unfold Hv;rw[e1];exact vW b _ (A6 x) a (Eb b x) (z.1.Closed,(E_ b x z).2)
  have e:Fw b (z.1,a++z.2) x=((Fw b z x).1,a++(Fw b z x).2):=by unfold Fw;rw[e1,e2];split <;> rfl
  show Fa b l (Fw b (z.1,a++z.2) x)=_;rw[e];exact Abh b a l _
theorem Asd(h:Ad b)(hp:Aa b p)(hq:Aa b q)(u:Kk b D p q)(hx:x∈Am b p)(hd:∀y,y∈D->∀k,¬(Bw y k=true/\Bw x k=true)) :
  Dp b q (A6 x)=x.Consumers/\(isl b q (Av b q (A6 x))).Sources=x.Sources/\Bg b q (A6 x)=Bg b p (A6 x)/\Db b q (A6 x)=Db b p (A6 x):=by
 obtain⟨ex,hlt⟩:=Y1 h hx;have hg:Av b q (A6 x)=Av b p (A6 x):=Fz hp hq u.skel _;have hmem:∀k:Nat,k<b.Consumers.length->fg b p k=some ((Av b p (A6 x):Nat):Int)->fg b q k=fg b p k/\q.Limits.getD k 0=p.Limits.getD k 0:=λk hk hf=>by
  refine u.out k λy hy=>?_;have:Bw x (k:Int)=true:=by rw[Nk,ex];exact Dn.2 ⟨k,rfl,hk,hf⟩
  cases hy2:Bw y (k:Int)
  .rfl
  .exact absurd ⟨hy2,this⟩ (hd y hy _)
 have hc:Dp b q (A6 x)=Dp b p (A6 x):=by
  show D8 b q b.Consumers.length (Av b q (A6 x))=D8 b p b.Consumers.length (Av b p (A6 x));rw[hg];unfold D8;congr 1;refine bX λk hk=>?_;have hk:=aV.1 hk;show (fg b q k==some ((Av b p (A6 x):Nat):Int))=(fg b p k==some ((Av b p (A6 x):Nat):Int));by_cases hf:fg b p k=some ((Av b p (A6 x):Nat):Int)
  .rw[(hmem k hk hf).1]
  .rw[dJ.2 hf];rcases u.fgs k with e|e
   .rw[e,dJ.2 hf]
   .rw[e];rfl
 have hs:(isl b q (Av b q (A6 x))).Sources=(isl b p (Av b p (A6 x))).Sources:=by rw[hg,u.skel.sources h hp hq]
 refine⟨hc.trans (by show (isl b p (Av b p (A6 x))).Consumers=_;rw[←ex]),hs.trans (by rw[←ex]),?_,Xc h hp hq u.skel _⟩;by_cases hh:0<(isl b p (Av b p (A6 x))).Sources.length
 .rw[Im b p _ hh,Im b q _ (by rw[hs];exact hh),hc];refine Xb λm hm=>?_;obtain⟨k,rfl,hk,hf⟩:=Dn.1 hm;exact(hmem k hk hf).2
 .unfold Bg;rw[eU hh,eU (by rw[hs];exact hh)]
theorem Adt(x:Ae)(c:Int):x.Consumers.any (· == c)=Bw x c:=by unfold Bw;congr 1;funext y;rw[aU,dH,dH];exact eq_comm
variable{c:Int}
theorem Y0(hL:Aa b (As q L))(h0:0<=c)(h1:c<b.Consumers.length):getI L c=some (L.getD c.toNat 0):=by
 have hl:L.length=b.Consumers.length:=hL.nli;have:=Al (l:=L) (j:=c.toNat) (x:=L.getD c.toNat 0) (by rw[af (by omega)];simp[List.getD,List.getElem?_eq_getElem (show c.toNat<L.length by omega)])
 rwa [ba h0]at this
theorem Avf(h:Ad b)(hq:Aa b q)(hn:n<b.Buses.toNat)(hX:Dp b q n=x.Consumers)(hs:0<(isl b q (Av b q n)).Sources.length)(ha:acts.length<=100000) :
  Ok (foldI (Qo b x) (D3 b) 0 (Bg b q n-Db b q n,q.Limits,acts)) (Bh (λz=>z.2=Ei b q n (Eb b x) (q.Limits,acts)/\z.1=Bg b (As q z.2.1) n-Db b q n/\Aa b (As q z.2.1)/\z.2.2.length<=acts.length+16) λ(_:Unit)=>False):=by
 have hol:=Vq h;have hcl:=h.col;refine c8 (I:=λj z=>z.2=Ei b q n (((D3 b).take j).filter (Bw x)) (q.Limits,acts)/\z.1=Bg b (As q z.2.1) n-Db b q n/\Aa b (As q z.2.1)/\z.2.2.length<=acts.length+j) ⟨rfl,rfl,(show Aa b (As q q.Limits) from hq),by simp⟩ (λj c z hc hI=>?_) λz hI=>by rw[am]at hI;exact⟨hI.1,hI.2.1,hI.2.2.1,by have:=hI.2.2.2;omega⟩
 obtain⟨much,L,as1⟩:=z;obtain⟨h1,h2,h3,h4⟩:=hI;dsimp only at h1 h2 h3 h4;have hj:=(ab.1 hc).1;have hcin:=S5 h (ae hc);have hlim:=O2 h h3 hcin.1 hcin.2;have hld:=Io h h3 hn;have hrt:=Gv h hq hn;obtain⟨_,g2,g3,g4⟩:=hlim;have g2:0<=L.getD c.toNat 0:=g2;have g4:L.getD c.toNat 0<=50000:=g4;have hLl:L.length=b.Consumers.length:=h3.nli;have hco:=(h.co c.toNat _ (Em (b:=b) (i:=c.toNat)));have hco1:=hco.1;have hco2:=hco.2.1;have hL1:(D3 b).take (j+1)=(D3 b).take j++[c]:=An hc;unfold Qo;dsimp only;rw[Ase hcin.1 hcin.2,aa,Tg,Adt];have hskip:(Bw x c=true->Fi b q n (L,as1) c=(L,as1))->(λz:Int×fb×List a_=>z.2=Ei b q n (((D3 b).take (j+1)).filter (Bw x)) (q.Limits,acts)/\z.1=Bg b (As q z.2.1) n-Db b q n/\Aa b (As q z.2.1)/\z.2.2.length<=acts.length+(j+1)) (much,L,as1):=λhk=>by
  refine⟨?_,h2,h3,by dsimp only;omega⟩;dsimp only;rw[hL1,aX];cases hkc:Bw x c with
  |false=>rw[cY (by rw[hkc];simp),bO,aB];exact h1
  |true=>rw[cy hkc,bO];unfold Ei at h1 ⊢;rw[aN,←h1];exact(hk hkc).symm
 have hexc:Cm b (As q L) n=max 0 much:=by unfold Cm;rw[Ay6,h2]
 refine eJ (P:=λy=>¬much<=0->y=Bw x c) (c9 (λ_=>eK λ_=>rfl) λhg hm=>absurd ⟨dL hm,trivial⟩ hg) λy1 hy1=>?_;refine eJ (P:=λy=>¬much<=0->y1=true->y=L.getD c.toNat 0) (c9 (λ_=>d9 (Y0 h3 hcin.1 hcin.2) λ_ _=>rfl) λhg hm hy=>absurd ⟨by rw[dL hm,hy];rfl,trivial⟩ hg) λy2 hy2=>c6 (λhcd=>c7 (hskip λhkc=>?_)) λhcd=>?_
 .unfold Fi;rw[eU];unfold Cq;rw[hexc];show ¬0<min (max 0 much) (L.getD c.toNat 0-(b.Consumers.getD c.toNat default).Least);by_cases hm:much<=0
  .omega
  .have e1:=hy1 hm;rw[hkc]at e1;have e2:=hy2 hm e1;simp only[V9,e1,e2,dL hm,aC,aO,dF]at hcd;omega
 .simp only[V9,aA,dG,aL]at hcd;obtain⟨⟨c1,c2⟩,c3⟩:=hcd;have e1:=hy1 c1;have e2:=hy2 c1 c2;rw[c2]at e1;rw[e2]at c3;have hcm:c∈Dp b q n:=by rw[hX];exact Nk.1 e1.symm
  rw[Y0 h3 hcin.1 hcin.2,aa,Ah (n:=L.getD c.toNat 0-(b.Consumers.getD c.toNat default).Least)];generalize hcut:min much (L.getD c.toNat 0-(b.Consumers.getD c.toNat default).Least)=cut;rw[Ah (n:=L.getD c.toNat 0-cut),Ah (n:=much-cut)];refine(da hcin.1).bind λy hy=>?_;subst hy;have hget:getI (L.set c.toNat (L.getD c.toNat 0-cut)) c=some (L.getD c.toNat 0-cut):=by
   have:=Al (l:=L.set c.toNat (L.getD c.toNat 0-cut)) (j:=c.toNat) (x:=L.getD c.toNat 0-cut) (by rw[aK,eT rfl,eT (by omega)])
   rwa [ba hcin.1]at this
  rw[hget,aa];have hS:Fi b q n (L,as1) c=(L.set c.toNat (L.getD c.toNat 0-cut),as1++[⟨5,c,L.getD c.toNat 0-cut⟩]):=by
   have el:Cq b (As q L) n c=cut:=by unfold Cq;rw[hexc];show min (max 0 much) (L.getD c.toNat 0-(b.Consumers.getD c.toNat default).Least)=cut;omega
   unfold Fi;dsimp only;rw[el,eT (by omega)]
  refine(d8 (by simp;omega)).bind λw hw=>c7 ⟨?_,?_,?_,by rw[hw];simp;omega⟩
  .dsimp only;rw[hw,hL1,aX,cy e1.symm,bO];unfold Ei at h1 ⊢;rw[aN,←h1];exact hS.symm
  .dsimp only;rw[Ahr hcm (by omega) hs,h2];omega
  .have:=Vu h (p:=q) (n:=n) (z:=(L,as1)) h3 hcin.1 hcin.2;rw[hS]at this;exact this
set_option linter.unusedVariables false
theorem Amm{g:Int->Int}{c:Int}:∀{l:fb},l.Nodup->c∈l->sm g l=g c+sm g (l.filter λm=>m != c)
 | [],_,h=>by cases h
 | a::l,hn,h=>by
  obtain⟨h1,h2⟩:=List.nodup_cons.1 hn;by_cases e:a=c
  .subst e;have:l.filter (λm=>m != a)=l:=bW.2 λm hm=>by
    simp only[dR,ne_eq];intro e;rw[e]at hm;exact h1 hm
   rw[cY (by simp),this];rfl
  .have hm:c∈l:=(ah.1 h).resolve_left λe2=>e e2.symm;rw[cy (by simp[e])];show g a+sm g l=g c+(g a+sm g _);rw[Amm h2 hm];omega
theorem Ama(h:Ad b)(hr:Aa b r)(hc:c∈Dp b r n)(hs:0<(isl b r (Av b r n)).Sources.length) :
  Bg b (A1 r (acC b r.Closed (isC c))) n=Bg b r n-r.Limits.getD c.toNat 0:=by
 obtain⟨k,rfl,hk,hf⟩:=Dn.1 hc;have hr2:Aa b (A1 r (acC b r.Closed (isC (k:Int)))):=L8 hr _;have hsk:=Rv (b:=b) (q:=r) k;have hg:=Fz hr hr2 hsk n;have hso:=hsk.sources h hr hr2 (Av b r n);have hcon:Dp b (A1 r (acC b r.Closed (isC (k:Int)))) n=(Dp b r n).filter λm=>m != (k:Int):=by
  show D8 b _ b.Consumers.length (Av b _ n)=(D8 b r b.Consumers.length (Av b r n)).filter _;rw[hg];unfold D8;rw[List.filter_map,List.filter_filter];congr 1;refine bX λm hm=>?_;show (fg b (A1 r (acC b r.Closed (isC (k:Int)))) m==some ((Av b r n:Nat):Int))=(((m:Int) != (k:Int))&&(fg b r m==some ((Av b r n:Nat):Int)));rw[Ajw hr k m];by_cases e:m=k
  .rw[eT e,e];simp
  .rw[eU e];have:((m:Int) != (k:Int))=true:=by simp only[dR,ne_eq];omega
   rw[this,aZ]
 rw[Im b r n hs,Im b _ n (by rw[hg,hso];exact hs),hcon,Amm (c:=(k:Int)) (l:=Dp b r n) (Rn b r _) hc];show sm (λm=>r.Limits.getD m.toNat 0) _=_;omega
theorem Ar7(h:Ad b)(c:Int):Ok (I1 b 3 c) λl=>l.Pairwise (· < ·)/\∀i:Int,i∈l↔∃(k:Nat)(x:dU),i=(k:Int)/\b.Breakers[k]?=some x/\x.Kind=3/\x.B=c:=by
 unfold I1;rw[Je h,S7 h];refine eK ⟨?_,λi=>?_⟩
 .unfold ofL;rw[cK];have hz:b.Breakers.zipIdx.Pairwise λy z=>(y.2:Int)<z.2:=by
   rw[cg];intro i j hi hj hij;rw[List.getElem_zipIdx,List.getElem_zipIdx];dsimp only;omega
  exact hz.sublist ck
 .unfold ofL;rw[an];constructor
  .rintro⟨⟨x,k⟩,hz,rfl⟩;obtain⟨h1,h2⟩:=ar.1 hz;rw[cm]at h1;dsimp only at h2;rw[Xf 3 (by omega)]at h2;simp only[ac,dH]at h2;exact⟨k,x,rfl,h1,h2⟩
  .rintro⟨k,x,rfl,hx,hk,hB⟩;refine⟨(x,k),ar.2 ⟨by rw[cm];exact hx,?_⟩,rfl⟩;show Gr 3 c x=true;rw[Xf 3 (by omega),hk,hB];simp
theorem Ank(h1:l.Pairwise (· < ·))(h2:∀i:Int,i∈l↔∃(k:Nat)(x:dU),i=(k:Int)/\b.Breakers[k]?=some x/\x.Kind=3/\x.B=c) :
  Be b C (isC c) b.Breakers.length=l.filter λi=>C.getD i.toNat false:=by
 refine uN (r:=id) ?_ (h1.sublist ck) λi=>?_
 .unfold Be;rw[cK];exact(List.pairwise_lt_range.sublist ck).imp fun {i j} h=>by show ((i:Nat):Int)<(j:Int);omega
 .rw[Fy,ar,h2];constructor
  .rintro⟨k,rfl,hk,hC,hq⟩;have hx:b.Breakers[k]?=some (b.Breakers.getD k default):=by
    rw[af hk];simp[List.getD,List.getElem?_eq_getElem hk]
   unfold isC at hq;simp only[ac,dH]at hq;exact⟨⟨k,_,rfl,hx,hq.1,hq.2⟩,by rw[aq];exact hC⟩
  .rintro⟨⟨k,x,rfl,hx,hk,hB⟩,hC⟩;rw[aq]at hC;refine⟨k,rfl,(ab.1 hx).1,hC,?_⟩;rw[P4 hx];unfold isC;rw[hk,hB];simp
theorem atD{l:List α}{k:Nat}(d:α)(h:k<l.length):l[k]?=some (l.getD k d):=by rw[af h];simp[List.getD,List.getElem?_eq_getElem h]
theorem Am0(ha:acts.length<=1000000)(hl:l.Pairwise (· < ·))(hn:l.length<=100)(hin:∀i,i∈l->0<=i/\i<C.length) :
  Ok (foldI vJ l 0 (C,acts)) (Bh (λz=>z=(B6 C (l.filter λi=>C.getD i.toNat false),acts++D_ (l.filter λi=>C.getD i.toNat false))) λ(_:Unit)=>False):=by
 refine c8 (I:=λm z=>z=(B6 C ((l.take m).filter λi=>C.getD i.toNat false),acts++D_ ((l.take m).filter λi=>C.getD i.toNat false))) (by simp[B6,D_]) (λm k z hk hz=>?_) λz hz=>by rw[am]at hz;exact hz
 subst hz;have hm:=(ab.1 hk).1;have hki:=hin k (ae hk);have hfl:((l.take m).filter λi=>C.getD i.toNat false).length<=m:=aG (bk _ _) (by rw[aT];omega);have hget:getI (B6 C ((l.take m).filter λi=>C.getD i.toNat false)) k=some (C.getD k.toNat false):=by
  have e:(B6 C ((l.take m).filter λi=>C.getD i.toNat false)).getD k.toNat false=C.getD k.toNat false:=by
   rw[Lu];have:((l.take m).filter λi=>C.getD i.toNat false).any (λi=>i.toNat==k.toNat)=false:=by rw[bq];intro i hi;obtain⟨hi,_⟩:=ar.1 hi;obtain⟨j,hj,hi⟩:=Jb.1 hi;have:=cg.1 hl j m (ab.1 hi).1 hm hj;rw[(ab.1 hi).2,(ab.1 hk).2]at this;have h0:=(hin i (ae hi)).1;simp only[dH];omega
   rw[this];simp
  have hlen:=Jl ((l.take m).filter λi=>C.getD i.toNat false) C;have:=Al (atD (l:=B6 C ((l.take m).filter λi=>C.getD i.toNat false)) (k:=k.toNat) false (by omega))
  rwa [ba hki.1,e]at this
 have hlen:=Jl ((l.take m).filter λi=>C.getD i.toNat false) C;have hoa:(D_ ((l.take m).filter λi=>C.getD i.toNat false)).length<=m:=by unfold D_;rw[au];exact hfl
 unfold vJ;dsimp only;rw[hget,aa,An hk,aX];refine c6 (λhc=>?_) λhc=>c7 ?_
 .refine(da hki.1).bind λy hy=>(d8 (by rw[aw,cz];omega)).bind λw hw=>c7 ?_;rw[cy (p:=λi:Int=>C.getD i.toNat false) hc,bO,Mk,hy,hw];simp[D_]
 .rw[cY (p:=λi:Int=>C.getD i.toNat false) (by rw[hc];simp),bO,aB]
theorem Aqh(h:Ad b)(hq:Aa b q)(hn:n<b.Buses.toNat)(hX:Dp b q n=x.Consumers)(hs:0<(isl b q (Av b q n)).Sources.length)(ha:acts.length<=100000)(m0:Int)(a0:List a_) :
  Ok (foldI (Qn b x (m0,q.Limits,a0)) (D3 b) 0 (Bg b q n-Db b q n,q.Closed,acts)) (Bh (λz=>z.2=C6 b q n (Eb b x) (q.Closed,acts)/\Aa b (A1 q z.2.1)/\z.2.2.length<=acts.length+384) λ(_:Unit)=>False):=by
 have hol:=Vq h;have hcl:=h.col;have hbl:=h.brl;have hnd:=yJ h;refine c8 (I:=λj z=>z.2=C6 b q n (((D3 b).take j).filter (Bw x)) (q.Closed,acts)/\(Aa b (A1 q z.2.1)/\E1 b q (A1 q z.2.1))/\z.1=Bg b (A1 q z.2.1) n-Db b q n/\(∀k:Nat,(k:Int)∉(D3 b).take j->fg b (A1 q z.2.1) k=fg b q k)/\z.2.2.length<=acts.length+24*j) ⟨rfl,⟨(show Aa b (A1 q q.Closed) from hq),(show E1 b q (A1 q q.Closed) from E1.refl b q)⟩,rfl,λ_ _=>rfl,by simp⟩ (λj c z hc hI=>?_) λz hI=>by rw[am]at hI;exact⟨hI.1,hI.2.1.1,by have:=hI.2.2.2.2;omega⟩
 obtain⟨much,C,as1⟩:=z;obtain⟨h1,⟨h2,hsk⟩,h3,h4,h5⟩:=hI;dsimp only at h1 h2 hsk h3 h4 h5;have hj:=(ab.1 hc).1;have hcin:=S5 h (ae hc);obtain⟨_,g2,g3,g4⟩:=O2 h hq hcin.1 hcin.2;have hld:=Io h h2 hn;have hrt:=Gv h hq hn;have hL1:(D3 b).take (j+1)=(D3 b).take j++[c]:=An hc;have hnot:c∉(D3 b).take j:=λhm=>by obtain⟨i,hi,hm⟩:=Jb.1 hm;have:=(cQ.1 hnd);have:=cg.1 this i j (ab.1 hm).1 hj hi;rw[(ab.1 hm).2,(ab.1 hc).2]at this;exact this rfl
 have hexc:Cm b (A1 q C) n=max 0 much:=by unfold Cm;rw[Xc h hq h2 hsk,h3]
 unfold Qn;dsimp only;rw[Tg,Adt];have hsub:∀k:Nat,(k:Int)∉(D3 b).take (j+1)->(k:Int)∉(D3 b).take j:=λk hk hm=>hk (by rw[hL1];exact bC _ hm);refine eJ (P:=λy=>¬much<=0->y=Bw x c) (c9 (λ_=>eK λ_=>rfl) λhg hm=>absurd ⟨dL hm,trivial⟩ hg) λy1 hy1=>?_;refine eJ (P:=λy=>¬much<=0->y1=true->y=q.Limits.getD c.toNat 0) (c9 (λ_=>d9 (Y0 (q:=q) (L:=q.Limits) hq hcin.1 hcin.2) λ_ _=>rfl) λhg hm hy=>absurd ⟨by rw[dL hm,hy];rfl,trivial⟩ hg) λy2 hy2=>c6 (λhcd=>c7 ?_) λhcd=>?_
 .refine⟨?_,⟨h2,hsk⟩,h3,λk hk=>h4 k (hsub k hk),by dsimp only;omega⟩;dsimp only;rw[hL1,aX];cases hkc:Bw x c with
  |false=>rw[cY (by rw[hkc];simp),bO,aB];exact h1
  |true=>
   rw[cy hkc,bO];unfold C6 at h1 ⊢;rw[aN,←h1];show _=Eg b q n (C,as1) c;unfold Eg;rw[eU];rintro⟨k1,k2⟩;rw[hexc]at k2;have hm:¬much<=0:=by omega
   have e1:=hy1 hm;rw[hkc]at e1;have e2:=hy2 hm e1;simp only[V8,e1,e2,dL hm,aC,aO,dH]at hcd;omega
 .simp only[V8,aA,dG,aL,dJ]at hcd;obtain⟨⟨c1,c2⟩,c3⟩:=hcd;have e1:=hy1 c1;have e2:=hy2 c1 c2;rw[c2]at e1;rw[e2]at c3;have hCl:C.length=b.Breakers.length:=h2.ncl;refine(Ar7 h c).bind λl hl=>?_;obtain⟨l1,l2⟩:=hl;have hfnd:=Ank (C:=C) l1 l2;have hlin:∀i,i∈l->0<=i/\i<C.length:=λi hi=>by
   obtain⟨k,y,rfl,hy,_⟩:=(l2 i).1 hi;have:=(ab.1 hy).1;omega
  have hln:l.length<=24:=by
   have h6:∀i,i∈l->i∈(List.range b.Breakers.length).map λ(k:Nat)=>(k:Int):=λi hi=>by obtain⟨k,y,rfl,hy,_⟩:=(l2 i).1 hi;exact an.2 ⟨k,aV.2 (ab.1 hy).1,rfl⟩
   have h7:l.Nodup:=l1.imp λh=>by omega
   have:=List.Nodup.length_le_of_subset h7 λi hi=>h6 i hi;rw[au,ct]at this;omega
  have hfl:=El b C (isC c) b.Breakers.length;refine Ok.inner (A:=λz=>z=(acC b C (isC c),as1++acA b C (isC c))) (B:=λ(_:Unit)=>False) ?_ (λz hz=>?_) eN
  .have:=Am0 (C:=C) (acts:=as1) (by omega) l1 (by omega) hlin;rw[←hfnd]at this;exact this
  .subst hz;have hgc:getI q.Limits c=some (q.Limits.getD c.toNat 0):=Y0 (q:=q) (L:=q.Limits) hq hcin.1 hcin.2;dsimp only;rw[hgc,aa,Ah];have hxm:c∈Dp b q n:=by rw[hX];exact Nk.1 e1.symm
   obtain⟨k,ek,hk,hf⟩:=Dn.1 hxm;have hg:=Fz hq h2 hsk n;have hcr:c∈Dp b (A1 q C) n:=Dn.2 ⟨k,ek,hk,by rw[h4 k (by rw[←ek];exact hnot),hg];exact hf⟩;have hso:0<(isl b (A1 q C) (Av b (A1 q C) n)).Sources.length:=by rw[hg,hsk.sources h hq h2];exact hs
   have hload:=Ama h h2 hcr hso;have hld2:Bg b (A1 q (acC b C (isC c))) n=Bg b (A1 q C) n-q.Limits.getD c.toNat 0:=hload;have hok2:Aa b (A1 q (acC b C (isC c))):=L8 h2 (isC c);refine c7 ⟨?_,⟨hok2,?_⟩,?_,λk2 hk2=>?_,?_⟩
   .dsimp only;rw[hL1,aX,cy e1.symm,bO];unfold C6 at h1 ⊢;rw[aN,←h1];show _=Eg b q n (C,as1) c;unfold Eg;dsimp only;rw[eT ⟨by omega,by rw[hexc];omega⟩]
   .rw[ek];exact hsk.trans (Rv (b:=b) (q:=A1 q C) k)
   .dsimp only;rw[hld2,h3];omega
   .dsimp only;have e3:=Ajw (b:=b) (q:=A1 q C) h2 k k2;rw[←ek]at e3;have hne:k2≠k:=λe=>by
     subst e;rw[←ek]at hk2;exact hk2 (by rw[hL1];exact bD _ (aF.2 rfl))
    rw[eU hne]at e3;exact e3.trans (h4 k2 (hsub k2 hk2))
   .have:(acA b C (isC c)).length<=b.Breakers.length:=P8 b C (isC c);dsimp only;rw[aw];omega
theorem Arm(h:Ad b)(hm:m<=0)(L:fb)(acts:List a_):Ok (foldI (Qo b x) (D3 b) 0 (m,L,acts)) (Bh (λz=>z=(m,L,acts)) λ(_:Unit)=>False):=by refine c8 (I:=λ_ z=>z=(m,L,acts)) rfl (λj c z hc hz=>?_) λz hz=>hz;subst hz;have hcin:=S5 h (ae hc);unfold Qo;dsimp only;rw[Ase hcin.1 hcin.2,aa];refine eJ (P:=λ_=>True) (c9 (λhg=>by have:=hg.1;rw[dK hm]at this;cases this) λ_=>trivial) λy1 _=>eJ (P:=λ_=>True) (c9 (λhg=>by have:=hg.1;rw[dK hm]at this;cases this) λ_=>trivial) λy2 _=>c6 (λ_=>c7 rfl) λhc=>?_;simp[V9,decide_eq_true hm]at hc
theorem Al9(hm:m<=0)(z1:Int×fb×List a_)(C:fe)(acts:List a_):Ok (foldI (Qn b x z1) (D3 b) 0 (m,C,acts)) (Bh (λz=>z=(m,C,acts)) λ(_:Unit)=>False):=by refine c8 (I:=λ_ z=>z=(m,C,acts)) rfl (λj c z hc hz=>?_) λz hz=>hz;subst hz;unfold Qn;dsimp only;refine eJ (P:=λ_=>True) (c9 (λhg=>by have:=hg.1;rw[dK hm]at this;cases this) λ_=>trivial) λy1 _=>eJ (P:=λ_=>True) (c9 (λhg=>by have:=hg.1;rw[dK hm]at this;cases this) λ_=>trivial) λy2 _=>c6 (λ_=>c7 rfl) λhc=>?_;simp[V8,decide_eq_true hm]at hc
theorem Amp(h:Ad b)(hp:Aa b p):Alp b p=some ((Fa b (Am b p) (p,[])).1,(Fa b (Am b p) (p,[])).2,0):=by
 have hbu:=h.buses;have hil:=Ez b p;have hap:=Aaa h p;refine de ?_;unfold Alp;rw[Bi h hp,Dv h hp];simp only[aa];refine c6 (λhc=>by simp at hc) (λ_=>?_);rw[Ajb h];have hi:Vi b p=some (Am b p):=Nl h hp;refine eJ (P:=λv=>v=Am b p) (d9 hi rfl) λv hv=>?_;subst hv;refine eI (A:=λz=>∃q az,z=(q.Closed,q.Limits,az)/\Fa b (Am b p) (p,[])=(q,az)/\q.Sources=p.Sources/\q.Broken=p.Broken) (B:=λ(_:Unit)=>False) ?_ (λz hz=>?_) eN
 .refine c8 (I:=λj z=>∃q az,z=(q.Closed,q.Limits,az)/\Fa b ((Am b p).take j) (p,[])=(q,az)/\Kk b ((Am b p).take j) p q/\az.length<=400*j) ⟨p,[],rfl,rfl,Kk.refl hp,by simp⟩ (λj x z hx hI=>?_) λz hI=>?_
  .obtain⟨q,az,rfl,h1,h2,h3⟩:=hI;have hj:=(ab.1 hx).1;have hxm:=ae hx;have hin:=Lw h hxm;obtain⟨e0,hb0⟩:=Jg hin;have hd:∀y,y∈(Am b p).take j->∀k,¬(Bw y k=true/\Bw x k=true):=λy hy=>by
    rw[cX]at hy;obtain⟨i,hi⟩:=hy;rw[ax]at hi;split at hi
    .rename_i hij;have:=cg.1 hap i j (ab.1 hi).1 hj hij
     rwa [(ab.1 hi).2,(ab.1 hx).2]at this
    .cases hi
   obtain⟨k1,k2,k3,k4⟩:=Asd h hp h2.ok h2 hxm hd;have hdon:=(Aqx h hp h2 h2.ok hxm hd az).1;have hld:=Io h hp hb0;have hrt:=Gv h hp hb0;unfold Aii;rw[e0];simp only[aa];rw[Tc h hp hb0,O0 h hp hb0];simp only[aa];rw[Ah,←k3,←k4];have hrel:Fa b ((Am b p).take (j+1)) (p,[])=Fw b (q,az) x:=by rw[An hx];unfold Fa at h1 ⊢;rw[aN,h1];rfl
   by_cases hs:0<x.Sources.length
   .refine Ok.inner (Avf h h2.ok hb0 k1 (by rw[k2];exact hs) (by omega)) (λz1 hz1=>?_) eN;obtain⟨m1,L1,a1⟩:=z1;obtain⟨g1,g2,g3,g4⟩:=hz1;dsimp only at g1 g2 g3 g4 ⊢;subst g2;have hR:E_ b x (q,az)=(L1,a1):=g1.symm;refine Ok.inner (Aqh h (q:=As q L1) (x:=x) (n:=A6 x) g3 hb0 k1 (by rw[show (isl b (As q L1) (Av b (As q L1) (A6 x))).Sources=(isl b q (Av b q (A6 x))).Sources from rfl,k2];exact hs) (acts:=a1) (by omega) _ _) (λz2 hz2=>?_) eN;obtain⟨m2,C2,a2⟩:=z2;obtain⟨f1,f2,f3⟩:=hz2;dsimp only at f1 f2 f3 ⊢;have hC:Hv b x (q,az)=(C2,a2):=by
     unfold Hv;rw[hR];exact f1.symm
    have hS:Fw b (q,az) x=(A1 (As q L1) C2,a2):=by unfold Fw;rw[eT hs,hR,hC]
    refine c7 ⟨A1 (As q L1) C2,a2,rfl,by rw[hrel,hS],?_,by omega⟩;rw[hS]at hdon;rw[An hx];exact h2.trans hdon
   .have hz0:x.Sources=[]:=cW.1 (by omega);have hm:Bg b q (A6 x)-Db b q (A6 x)<=0:=by
     unfold Bg Db;rw[k2,hz0];simp[J0]
    refine Ok.inner (Arm h hm _ _) (λz1 hz1=>?_) eN;subst hz1;refine Ok.inner (Al9 hm _ _ _) (λz2 hz2=>?_) eN;subst hz2;have hS:Fw b (q,az) x=(q,az):=by unfold Fw;rw[eU hs]
    refine c7 ⟨q,az,rfl,by rw[hrel,hS],?_,by omega⟩;rw[hS]at hdon;rw[An hx];exact h2.trans hdon
  .obtain⟨q,az,e,h1,h2,_⟩:=hI;rw[am]at h1;exact⟨q,az,e,h1,h2.skel.src,h2.brk⟩
 .obtain⟨q,az,rfl,h1,h2,h3⟩:=hz;refine eK ?_;rw[h1];dsimp only;rw[←h2,←h3]
theorem Abj(h:Ad b)(hp:Aa b p):F67 b p=some (J5 b p,B3 b p,0):=by
 have hbl:=h.brl;have hcl:=Xy b p;have hpl:=(Hc h hp).2.2;have hpre:=Abh b (Mg b p) (Am b (Iy b p)) (Iy b p,[]);dsimp only at hpre;rw[aB]at hpre;have hZ:Aq0 b p=Fa b (Am b (Iy b p)) (Iy b p,Mg b p):=rfl;refine de ?_;unfold F67;refine(Ac0 h hp).bind λy hy=>?_;subst hy;refine c6 (λhc=>by simp at hc) (λ_=>?_);rw[Amp h (uI hp),aa];have hlen:(Mg b p).length+(Fa b (Am b (Iy b p)) (Iy b p,[])).2.length<=10000:=by unfold B3 at hpl;rw[hZ,hpre,aw]at hpl;exact hpl
 refine(d8 (by dsimp only;omega)).bind λw hw=>eK ?_;unfold J5 B3;rw[hZ,hpre,hw]
set_option linter.unusedVariables false
variable{l:List dX}
theorem Awq(hs:Fs l)(hsm:∀x,x∈l->Bv x){x:dX}(hx:Bv x)(hl:l.length<=1000)(hat:At l x n)(hnot:l[n]? ≠ some x):Alr l x=some (Ed l n x):=by
 have hn:=hat.le;have hb:∀y,y∈l->F97 y x=decide (ks y<ks x):=λy hy=>by have h1:=hsm y hy;unfold Bv at h1 hx;rw[aU];unfold F97 ks;simp only[aE,ac,dF,dH];omega
 refine de ?_;unfold Alr;refine eI (A:=λz=>z=(n:Int)) (B:=λ(_:Unit)=>False) ?_ (λz hz=>?_) eN
 .refine d6 (λz=>∃j:Nat,z=(j:Int)/\j<=n) (λz=>((n:Int)-z).toNat) _ _ ⟨0,rfl,by omega⟩ (by omega) ?_;rintro _ ⟨j,rfl,hj⟩;unfold Ail;by_cases hjl:j<l.length
  .have hy:l[j]?=some (l[j]'hjl):=af hjl;generalize l[j]'hjl=y at hy;refine eJ (P:=λu=>u=y) (c9 (λ_=>d9 (Al hy) rfl) λhg=>absurd ⟨by simp;omega,trivial⟩ hg) λu hu=>?_;subst hu;have hbu:=hb u (ae hy);refine c6 (λhc=>c7 ⟨⟨j+1,by rw[Ah];rfl,?_⟩,?_⟩) λhc=>db ?_
   .simp only[Ub,hbu,ac,dF]at hc;by_cases e:j=n
    .subst e;have:=hat.hi j u (ag _) hy;omega
    .omega
   .rw[Ah];simp only[Ub,hbu,ac,dF]at hc;by_cases e:j=n
    .subst e;have:=hat.hi j u (ag _) hy;omega
    .omega
   .simp only[Ub,hbu,bQ,dG]at hc;by_cases e:j<n
    .have:=hat.lo j u e hy;omega
    .omega
  .refine eJ (P:=λ_=>True) (c9 (λhg=>by have:=dQ hg.1;omega) λ_=>trivial) λu _=>c6 (λhc=>?_) λ_=>db (by omega);simp only[Ub,ac,dF]at hc;omega
 .subst hz;refine(Ok.cutI (by omega) (by omega) (by omega)).bind λa ha=>(d8 (by rw[ha];simp;omega)).bind λc hc=>(d8 (by rw[hc,ha];simp;omega)).bind λd hd=>(Ok.cutI (by omega) (by omega) (by omega)).bind λe he=>(d8 (by rw[hd,hc,ha,he];simp;omega)).bind λf hf=>eK ?_;rw[hf,he,hd,hc,ha];unfold Ed;simp
theorem Akz(h:Ad b)(hp:Aa b p)(t u v:Int):F65 b p t ⟨8,u,v⟩=Er b p t ⟨8,u,v⟩:=by
 have hbl:=hp.brk.len;unfold F65 Er;rw[Bi h hp,Dv h hp,A8 h hp,Aw0,Bj h hp];simp only[aa];have e0:I9 t ⟨8,u,v⟩=C8 t ⟨8,u,v⟩:=rfl;rw[e0];cases C8 t ⟨8,u,v⟩ with
 |true=>rfl
 | false=>
  have e8:Ms b ⟨8,u,v⟩ = !Cu b v u:=by unfold Ms;congr 1;rw[aU,Kc h,Ew]
  cases hk:Cu b v u with
  |false=>rw[hk]at e8;show (bif Ms b ⟨8,u,v⟩ then _ else _)=_;rw[e8];rfl
  | true=>
   rw[hk]at e8;have hx:=(Ew b v u).1 hk;obtain⟨n,hat⟩:=Aku h hp.brk hx;have hdo:Gm ⟨b,p,t⟩ ⟨8,u,v⟩=(Eu ⟨b,p,t⟩ ⟨v,u⟩ true).bind λy=>some (y.1,y.2):=rfl;have hmem:brk p.Broken v u=true↔p.Broken[n]?=some ⟨v,u⟩:=by
    unfold brk;rw[bv];constructor
    .rintro⟨y,hy,e⟩;simp only[ac,dH]at e;obtain⟨j,hj⟩:=bB hy;have ey:y=⟨v,u⟩:=by
      cases y;simp only at e;rw[e.1,e.2]
     rw[ey]at hj;by_cases h1:j<n
     .have:=hat.lo j _ h1 hj;omega
     .have hjl:=(ab.1 hj).1;have hz:p.Broken[n]?=some (p.Broken[n]'(by omega)):=af _;generalize p.Broken[n]'(by omega)=z at hz;by_cases h2:j=n
      .rw[←h2];exact hj
      .have h3:=D5 h hp.brk n j z ⟨v,u⟩ (by omega) hz hj;have h4:=hat.hi n z (ag _) hz;omega
    .intro e;exact⟨_,ae e,by simp⟩
   show (bif Ms b ⟨8,u,v⟩ then _ else _)=_;rw[e8,E5,hdo];simp only[aC,eQ,aa];by_cases hin:p.Broken[n]?=some ⟨v,u⟩
   .have hf:Ok (Eu ⟨b,p,t⟩ ⟨v,u⟩ true) λy=>y.1=11:=by
     unfold Eu;refine(H6 (D5 h hp.brk) (λy hy=>(hp.brk.mem y hy).small h) (hx.small h)).bind λy hy=>?_;obtain⟨m,e1,hat2,hf⟩:=hy;have e2:=hat.uniq hat2;subst e2;rw[hf.2 hin];exact c6 (λ_=>eK rfl) (λhc=>by simp at hc)
    obtain⟨y,ey,hy⟩:=hf;rw[ey,hmem.2 hin];simp only[aa,hy];rfl
   .have hnb:brk p.Broken v u=false:=by
     cases e:brk p.Broken v u
     .rfl
     .exact absurd (hmem.1 e) hin
    rw[hnb];by_cases hl:p.Broken.length<32
    .rw[Ahp h hp hx t hat hin hl];have hput:=Awq (D5 h hp.brk) (λy hy=>(hp.brk.mem y hy).small h) (hx.small h) (by omega) hat hin;have hm:N3 p ⟨8,u,v⟩ p=some (.next (Ed p.Broken n ⟨v,u⟩,3)):=by
      unfold N3;rw[hput,dL (by omega)];rfl
     rw[hm];simp only[aa,andThen];unfold I8;dsimp only;by_cases hv:v=1
     .have hnu:0<=u/\u<p.Sources.length:=by
       have:=hp.nso;unfold Bc at hx;dsimp only at hx;omega
      have hg:getI p.Sources u=some (p.Sources.getD u.toNat default):=by
       have:=Al (atD (l:=p.Sources) (k:=u.toNat) default (by omega))
       rwa [ba hnu.1]at this
      obtain⟨w,ew,hw⟩:=da (l:=p.Sources) (n:=u) (x:=(⟨3,(p.Sources.getD u.toNat default).Since,(p.Sources.getD u.toNat default).Frequency,(p.Sources.getD u.toNat default).Phase⟩:ee)) hnu.1;rw[hg,aa,ew,hw,eT hv,hv];rfl
     .rw[eU hv,dJ.2 hv];rfl
    .have hf:Ok (Eu ⟨b,p,t⟩ ⟨v,u⟩ true) λy=>y.1=2:=by
      unfold Eu;refine(H6 (D5 h hp.brk) (λy hy=>(hp.brk.mem y hy).small h) (hx.small h)).bind λy hy=>?_;obtain⟨m,e1,hat2,hf⟩:=hy;have e2:=hat.uniq hat2;subst e2;have:y.2=false:=by
       cases e:y.2
       .rfl
       .exact absurd (hf.1 e) hin
      rw[this];refine c6 (λhc=>by simp at hc) λ_=>c6 (λ_=>eK rfl) λhc=>?_;simp[Nw]at hc;omega
     obtain⟨y,ey,hy⟩:=hf;have hm:N3 p ⟨8,u,v⟩ p=some (.ret (⟨[],[],[],[]⟩,2)):=by unfold N3;rw[dK (by omega)];rfl
     rw[ey,hm];simp only[aa,hy];rfl
set_option linter.unusedVariables false
theorem Am2{p:dY}(h:p.Events.length<=10000000)(a:a_)(e:Int):F66 p a e=some ⟨p.Time,p.Power,p.Rosters,p.Events++[⟨p.Time,a,e⟩]⟩:=by unfold F66;rw[Kf,aa];obtain⟨y,ey,hy⟩:=d8 (B:=41) (l:=p.Events) (m:=[(⟨p.Time,a,e⟩:dW)]) (by simp;omega);rw[ey,hy];rfl
set_option linter.unusedVariables false
def Xg(t:eq)(f:Int):Int:=(f*f*t.Cost+999) / 1000
variable{x:eq}
theorem Arj(h:Eo x)(h0:0<=w):Ok (F72 x w) λy=>(0<=y/\y<=x.Max)/\Xg x y<=w/\∀f,y<f->f<=x.Max->w<Xg x f:=by
 have hm:=h.max;have hc:=h.cost;have hci:=V2 h hm.1 (by omega);unfold F72;rw[Aq7 h hm.1 (by omega)];simp only[aa];refine c6 (λhq=>?_) (λhq=>?_)
 .simp at hq;omega
 refine c6 (λha=>?_) (λha=>?_)
 .simp only[dF]at ha;exact eK ⟨⟨hm.1,by omega⟩,ha,λf h1 h2=>by omega⟩
 .simp only[dG]at ha;refine(Ok.nzI (by omega)).bind λ_ _=>?_;have hlt:1000*w<x.Max*x.Max*x.Cost:=by omega
  have hd0:0<=1000*w / x.Cost:=Int.ediv_nonneg (by omega) (by omega);have hd1:1000*w / x.Cost<=1000*w:=Int.ediv_le_self _ (by omega);rw[Ah (n:=1000*w),cS (by omega),Ah (n:=1000*w / x.Cost)];refine(Au2 hd0 (by omega)).bind λf hf=>eK ?_;obtain⟨_,f0,f1,f2⟩:=hf;have hmul:1000*w / x.Cost*x.Cost<=1000*w:=Int.ediv_mul_le _ (by omega);have hff:f.1*f.1*x.Cost<=1000*w / x.Cost*x.Cost:=Int.mul_le_mul_of_nonneg_right f1 (by omega);refine⟨⟨f0,?_⟩,by unfold Xg;omega,λg hg1 hg2=>?_⟩
  .rcases Int.lt_or_le x.Max f.1 with hgt|hle
   .exfalso;have:=Yn hm.1 (Int.le_of_lt hgt);have:=Int.mul_le_mul_of_nonneg_right this (show 0<=x.Cost by omega);omega
   .exact hle
  .have e1:1000*w / x.Cost+1<=(f.1+1)*(f.1+1):=by omega
   have e2:=Yn (show 0<=f.1+1 by omega) (show f.1+1<=g by omega);have e3:(1000*w / x.Cost+1)*x.Cost<=g*g*x.Cost:=Int.mul_le_mul_of_nonneg_right (by omega) (by omega);have e4:=Int.lt_mul_ediv_self_add (x:=1000*w) (k:=x.Cost) (by omega);have e5:(1000*w / x.Cost+1)*x.Cost=x.Cost*(1000*w / x.Cost)+x.Cost:=by grind
   unfold Xg;omega
theorem Am6(h:Eo x){y:Int}(h1:0<=y/\y<=x.Max)(h2:Xg x y<=w)(h3:∀f,y<f->f<=x.Max->w<Xg x f):F75 x w=some y:=by
 have hm:=h.max;refine de ?_;unfold F75;rw[jV h,aa];refine c6 (λhc=>by cases hc) λ_=>eI (A:=λ_=>y=0) (B:=λr=>r=y) ?_ (λ_ h=>eK h.symm) (λr h=>eK h);refine d6 (λz=>0<=z/\z<=x.Max/\y<=z) (λz=>z.toNat) _ _ ⟨hm.1,by omega,h1.2⟩ (by omega) λz hz=>?_;unfold Api;refine c6 (λhc=>?_) λhc=>db ?_
 .simp only[dF]at hc;have hp:Aft x ⟨z,0⟩=some (Xg x z,0):=Ai9 h hz.1 (by omega);rw[hp,aa];refine c6 (λhq=>Ok.ret ?_) λhq=>c7 ?_
  .simp only[dF]at hq;rcases Int.lt_or_le y z with hlt|hle
   .have:=h3 z hlt hz.2.1;omega
   .omega
  .simp only[dG]at hq;rw[Ah];have:y≠z:=λe=>by subst e;omega
   exact⟨by omega,by omega⟩
 .simp only[dG]at hc;omega
def Yx(t:eq)(w:Int):Int:=match F72 t w with
 |some v=>v
 |none=>0
variable{t:eq}
theorem Abo(h:Eo t)(h0:0<=w):F72 t w=some (Yx t w)/\F75 t w=some (Yx t w):=by
 obtain⟨y,ey,h1,h2,h3⟩:=Arj h h0;have e:Yx t w=y:=by unfold Yx;rw[ey]
 rw[e];exact⟨ey,Am6 h h1 h2 h3⟩
def Lm(b:c_)(p:dZ)(i:Nat)(t:eq):Int:=if 0<=own b i/\svB b p 1000 (own b i).toNat=true then Yx t (p.Limits.getD (own b i).toNat 0) else 0
def Abs(b:c_)(p:dZ)(x:ef)(j:Nat)(s:fb):Prop:=s.length=x.Thrusters.length/\(∀(i:Nat) t,i<j->x.Thrusters[i]?=some t->s[i]?=some (Lm b p i t))/\∀(i:Nat) v,j<=i->s[i]?=some v->v=0
variable{x:ef}
theorem Abs.same(h:Abs b p x j s)(ht:x.Thrusters[j]?=some t)(h0:Lm b p j t=0):Abs b p x (j+1) s:=by
 refine⟨h.1,λi t' hi ht'=>?_,λi v hi hv=>h.2.2 i v (by omega) hv⟩;by_cases e:i=j
 .subst e;rw[ht]at ht';cases ht';have hil:=(ab.1 ht).1;have hs:s[i]?=some (s[i]'(by have:=h.1;omega)):=af _;rw[hs,h.2.2 i _ (ag _) hs,h0]
 .exact h.2.1 i t' (by omega) ht'
theorem Abs.set(h:Abs b p x j s)(ht:x.Thrusters[j]?=some t){v:Int}(hv:v=Lm b p j t):Abs b p x (j+1) (s.set j v):=by
 have hil:=(ab.1 ht).1;have hl:=h.1;refine⟨by rw[bA];exact h.1,λi t' hi ht'=>?_,λi u hi hu=>?_⟩
 .rw[aK];by_cases e:j=i
  .subst e;rw[ht]at ht';cases ht';rw[eT rfl,eT (by omega),hv]
  .rw[eU e];exact h.2.1 i t' (by omega) ht'
 .rw[aK,eU (by omega)]at hu;exact h.2.2 i u (by omega) hu
theorem Ayk(b:c_)(p:dZ)(x:ef):Abs b p x 0 (List.replicate x.Thrusters.length 0):=
 ⟨by simp,λi t hi=>by omega,λi v _ hv=>(List.mem_replicate.1 (ae hv)).2⟩
theorem Apa(h:Ad b)(hp:Aa b p)(hx:P9 x):Ok (F29 x b p) λy=>y.2=0/\Abs b p x x.Thrusters.length y.1:=by
 have hlen:=hx.len;have hnl:=hp.nli;unfold F29;rw[Amo hx,A8 h hp];simp only[aa];refine c6 (λhc=>by simp at hc) (λ_=>c6 (λhc=>by simp at hc) (λ_=>?_));refine(Ok.mkI (by omega) (by omega)).bind λz hz=>?_;refine eI (A:=Abs b p x x.Thrusters.length) (B:=λ_=>False) ?_ (λs hs=>eK ⟨rfl,hs⟩) eN;refine c8 (I:=Abs b p x) (by rw[hz,aq];exact Ayk b p x) (λj t s ht hs=>?_) λs hs=>hs;have hj:=(ab.1 ht).1;have hthr:=hx.thr t (ae ht);have hsl:=hs.1;unfold Apx;rw[Bf,Ar6 h];simp only[aa];by_cases hq:0<=own b j
 .obtain⟨c,hc,hlt⟩:=Avn hq;have hown:own b j=(c:Int):=hc;have hsv:=Ai1 h hp hlt;rw[hc,hsv];have e1:Ag [(decide ((c:Int)>=0),true)] (some (svB b p 1000 c)) default=some (svB b p 1000 c):=by
   rw[dK (by omega)];rfl
  rw[e1];simp only[aa];refine c6 (λhcc=>?_) (λhcc=>c7 (hs.same ht ?_))
  .simp only[ac]at hcc;have hlim:=Kw (p:=p) (i:=c);rw[Al hlim];simp only[aa];rw[(Abo hthr (Anb hp hlt)).1,aa];refine(d7 (by omega) (by omega)).bind λ_ _=>(da (by omega)).bind λs' hs'=>c7 ?_;subst hs';rw[aq];refine hs.set ht ?_;unfold Lm;rw[hown,aq,eT ⟨by omega,hcc.2⟩]
  .unfold Lm;rw[hown,aq,eU];rintro⟨_,h2⟩;rw[h2,dK (by omega)]at hcc;cases hcc
 .have e0:decide (own b j>=0)=false:=dL (by omega);have hz0:Lm b p j t=0:=by unfold Lm;rw[eU (by omega)]
  show Ok ((Ag [(decide (own b j>=0),true)] _ _).bind λy11=>bif (decide (own b j>=0)&&y11)then _ else _) _;rw[e0];exact c7 (hs.same ht hz0)
theorem Asz(h:Ad b)(hp:Aa b p)(hx:P9 x)(hck:F73 x=some 0):Ok (F30 x b p) λy=>y.2=0/\Abs b p x x.Thrusters.length y.1:=by
 have hlen:=hx.len;have hnl:=hp.nli;have hcl:=h.col;unfold F30;rw[hck,Bi h hp];simp only[aa];refine c6 (λhc=>by simp at hc) (λ_=>c6 (λhc=>by simp at hc) (λ_=>?_));refine(Ok.mkI (by omega) (by omega)).bind λz hz=>?_;refine eI (A:=Abs b p x x.Thrusters.length) (B:=λ_=>False) ?_ (λs hs=>eK ⟨rfl,hs⟩) eN;refine c8 (I:=Abs b p x) (by rw[hz,aq];exact Ayk b p x) (λj t s ht hs=>?_) λs hs=>hs;have hj:=(ab.1 ht).1;have hthr:=hx.thr t (ae ht);have hsl:=hs.1;unfold Apw;refine Ok.inner (A:=Abs b p x (j+1)) (B:=λ(_:Unit)=>False) ?_ (λz hz=>c7 hz) eN;refine c8 (I:=λk z=>z=s/\∀(m:Nat) y,m<k->b.Consumers[m]?=some y->(y.Thruster==(j:Int))=false) ⟨rfl,λm y hm=>by omega⟩ (λk c z hc hz=>?_) λz hz=>?_
 .obtain⟨rfl,hno⟩:=hz;have hk:=(ab.1 hc).1;unfold Apv;rw[Bf (i:=j),Bf (i:=k)];refine c6 (λhq=>?_) λhq=>c7 ⟨rfl,λm y hm hy=>?_⟩
  .have hown:own b j=(k:Int):=Ajo (q:=λx:dV=>x.Thruster==(j:Int)) hc hq λm y hm hy=>hno m y hm hy;rw[(Amq h hp hk).2,aa];refine c6 (λhsv=>?_) λhsv=>db (hs.same ht ?_)
   .rw[Al (Kw (p:=p) (i:=k)),aa,(Abo hthr (Anb hp hk)).2,aa];refine(d7 (by omega) (by omega)).bind λ_ _=>(da (by omega)).bind λs' hs'=>db ?_;subst hs';rw[aq];refine hs.set ht ?_;unfold Lm;rw[hown,aq,eT ⟨by omega,hsv⟩]
   .unfold Lm;rw[hown,aq,eU];rintro⟨_,h2⟩;rw[h2]at hsv;cases hsv
  .by_cases e:m=k
   .subst e;rw[hc]at hy;cases hy;exact hq
   .exact hno m y (by omega) hy
 .obtain⟨rfl,hno⟩:=hz;refine hs.same ht ?_;have:own b j = -1:=Avm λm y hy=>hno m y (ab.1 hy).1 hy;unfold Lm;rw[eU (by omega)]
theorem Abs.unique(h:Abs b p x x.Thrusters.length s)(h':Abs b p x x.Thrusters.length s'):s=s':=by
 refine bj λi=>?_;by_cases hi:i<x.Thrusters.length
 .have ht:x.Thrusters[i]?=some (x.Thrusters[i]'hi):=af hi;rw[h.2.1 i _ hi ht,h'.2.1 i _ hi ht]
 .rw[bg (by have:=h.1;omega),bg (by have:=h'.1;omega)]
set_option linter.unusedVariables false
theorem Ahy(h:Ad b)(hy:Dw y){p:dY}(hp:Iu b y p):F18 b y p=some 0:=by
 have h1:=h.buses;have h2:=hp.time;have h3:=hp.nro;have ht:=Hq hy;refine de ?_;unfold F18;rw[Bi h hp.st,aa];refine c6 (λhc=>by simp at hc) λ_=>c6 (λhc=>?_) λ_=>c6 (λhc=>?_) λ_=>?_
 .have e:F48 y=true:=by
   have:=ht;unfold F44 at this;unfold F48;simp only[ac,dF]at this ⊢;omega
  simp only[V7,e,aC,aO,aE,dF]at hc;omega
 .simp only[dR,ne_eq]at hc;omega
 .refine eI (A:=λ_=>True) (B:=λ_=>False) ?_ (λ_ _=>?_) eN
  .refine c8 (I:=λ_ _=>True) trivial (λj r z hr _=>?_) λ_ _=>trivial;have:=hp.ros r (ae hr);unfold Afi;refine c6 (λhc=>?_) λ_=>c7 trivial;simp only[Akp,aE,dF]at hc;unfold Ds at this;omega
  .have hf:=I3 h hp.st;have e:(⟨p.Power.Closed,C1 b p.Power,p.Power.Limits,p.Power.Broken⟩:dZ)=p.Power:=by rw[hp.fol]
   rw[e]at hf;rw[hf];simp only[aa];rw[J4 (hp.st.lens h),aa];exact c6 (λhc=>by cases hc) λ_=>eK rfl
set_option linter.unusedVariables false
set_option linter.unusedSimpArgs false
theorem An9(x y:Int):uR x y=Pe x y:=by unfold uR Pe Aoi Ac7;simp only[Ahf]
theorem Avt(x y:Int):-1800<=Pe x y/\Pe x y<=1800:=by
 have h:=Ahe (w64 (D1 y-D1 x));unfold Pe Ac7;by_cases hc:D1 (w64 (D1 y-D1 x))>1800
 .rw[dK hc,eO,Ah];omega
 .rw[dL hc,eQ];omega
theorem Adu(h:Ad b){x y:ee}(hx:B7 x)(hy:B7 y):Uv b x y=Pf b x y:=by have hd:=Avt x.Phase y.Phase;have h1:=h.phase;have h2:=h.freq;obtain⟨_,_,x1,_⟩:=hx;obtain⟨_,_,y1,_⟩:=hy;unfold Uv Pf Aok Aoj Aoh;rw[An9];rw[Ah (n:=x.Frequency-y.Frequency),Ah (n:=y.Frequency-x.Frequency),Ah (n:=0-b.Frequency),Ah (n:=0-b.Phase),Ah (n:=0-Pe x.Phase y.Phase)];rw[dL (p:=x.Frequency<0) (by omega),dL (p:=x.Frequency>6000) (by omega),dL (p:=y.Frequency<0) (by omega),dL (p:=y.Frequency>6000) (by omega),dL (p:=min x.Frequency y.Frequency<0) (by omega),dL (p:=max x.Frequency y.Frequency>6000) (by omega)];simp only[Bool.or_self,eQ];rw[aU];simp only[ac,dF];omega
def Le(b:c_)(p:dZ)(n:Nat):Int×Bool:=match (isl b p (Av b p n)).Sources with
 | []=>(0,false)
 |s::_=>(s,true)
theorem Mo(h:Ad b)(hp:Aa b p)(hn:n<b.Buses.toNat):R8 b p (n:Int)=some (Le b p n)/\Yh b p (n:Int)=some (Le b p n):=by
 unfold R8 Yh Le;rw[of_eq h hp hn,Il h hp hn];simp only[aa,Aon,Av];cases (isl b p ((groups b p).getD n 0).toNat).Sources with
 |nil=>exact⟨rfl,rfl⟩
 |cons s l=>
  have e:(((s::l).length:Int)==0)=false:=by rw[dJ];simp only[bf];omega
  rw[e];exact⟨rfl,rfl⟩
theorem Xm(hl:(Le b p n).2=true):0<=(Le b p n).1/\(Le b p n).1<b.Sources.length:=by
 unfold Le at hl ⊢;cases hs:(isl b p (Av b p n)).Sources with
 |nil=>rw[hs]at hl;cases hl
 |cons s l=>exact Kx (b:=b) (p:=p) (f:=Av b p n) (by rw[hs];exact ai)
theorem Wa(h:0<=a/\a<b.Buses):∃n:Nat,a=(n:Int)/\n<b.Buses.toNat:=⟨a.toNat,by omega,by omega⟩
variable{i:Int}
theorem Lp(hp:Aa b p)(h:0<=i/\i<b.Sources.length:=by omega):∃r,getI p.Sources i=some r/\B7 r:=by have hn:=hp.nso;obtain⟨k,rfl⟩:∃k:Nat,i=(k:Int):=⟨i.toNat,by omega⟩;have e:p.Sources[k]?=some (p.Sources[k]'(by omega)):=af _;exact⟨_,Al e,hp.run _ (ae e)⟩
theorem Vv(l:fb)(x:Int)(h:l.length<=9223372036854775807):N9 l x=some (l.any (· == x))/\K6 l x=some (l.any (· == x)):=by refine⟨?_,Tg l x⟩;rw[Cx _ _ h];congr 2;funext y;rw[aU];simp only[dH];omega
theorem Awv(h:Ad b)(hp:Aa b p)(j:Int):Ale b p j=X9 b p j:=by
 have hbl:=hp.brk.len;have hn:=hp.ncl;have hso:=hp.nso;unfold Ale X9 Ae8 Ae7;rw[Bi h hp,A8 h hp];simp only[aa];show (bif T_ b j then _ else _)=(bif T_ b j then _ else _);cases hc:T_ b j with
 |true=>rfl
 | false=>
  simp only[T_,aA,dG]at hc;obtain⟨k,rfl⟩:∃k:Nat,j=(k:Int):=⟨j.toNat,by omega⟩;have hx:b.Breakers[k]?=some (b.Breakers[k]'(by omega)):=af _;generalize b.Breakers[k]'(by omega)=x at hx;have hcl:p.Closed[k]?=some (p.Closed[k]'(by omega)):=af _;generalize p.Closed[k]'(by omega)=cl at hcl;have hbr:=h.br x (ae hx);unfold Ij at hbr;rw[Al hx,Al hcl];simp only[aa,E5,C3 (p:=p) (show p.Broken.length<=1000 by omega)];obtain⟨na,ea,hna⟩:=Wa (b:=b) hbr.1;rw[ea]at hbr ⊢;have la:=Mo h hp hna;rw[la.1,la.2];generalize hb1:brk p.Broken 2 (k:Int)=b1;generalize hb2:brk p.Broken 3 (na:Int)=b2;cases cl with
  |true=>rfl
  |false=>
  cases b1 with
  |true=>rfl
  |false=>
  cases b2 with
  |true=>rfl
  |false=>
  have hl:=Xm (b:=b) (p:=p) (n:=na);generalize Le b p na=la at hl;obtain⟨s,live⟩:=la;rcases hbr.2 with⟨e,hB⟩|⟨e,hB⟩|⟨e,hB⟩
  .obtain⟨nb,eb,hnb⟩:=Wa (b:=b) (a:=x.B) (by omega);have lb:=Mo h hp hnb;rw[e,eb,lb.1,lb.2,of_eq h hp hna,Il h hp hna];have hm:=Xm (b:=b) (p:=p) (n:=nb);generalize Le b p nb=lb at hm;obtain⟨t,live2⟩:=lb;have hh:=Vv (isl b p ((groups b p).getD na 0).toNat).Buses (nb:Int) (by have:=(Nm h p ((groups b p).getD na 0).toNat).1;omega);simp only[aa,hh.1,hh.2];generalize (isl b p ((groups b p).getD na 0).toNat).Buses.any (· == (nb:Int))=wi;generalize brk p.Broken 3 (nb:Int)=b3;cases b3 with
   |true=>rfl
   |false=>
   cases live with
   |false=>cases wi <;> cases live2 <;> rfl
   |true=>
   cases live2 with
   |false=>cases wi <;> rfl
   |true=>
   obtain⟨r1,g1,k1⟩:=Lp hp (hl rfl);obtain⟨r2,g2,k2⟩:=Lp hp (hm rfl);simp only[g1,g2];cases wi with
   |true=>rfl
   |false=>show (bif Adb b (s,true) (t,true) false r1 r2 then _ else _)=_;unfold Adb;rw[Adu h k1 k2];show (bif !(Pf b r1 r2)then _ else _)=(bif !(Pf b r1 r2)then _ else _);rfl
  .rw[e,of_eq h hp hna];obtain⟨r1,g1,k1⟩:=Lp hp (b:=b) (i:=x.B);simp only[aa,g1];generalize brk p.Broken 1 x.B=b3;cases b3 with
   |true=>rfl
   |false=>
   show (bif (r1.State != 2)then _ else _)=_;cases hs2:(r1.State != 2) with
   |true=>
    have:(r1.State==2)=false:=by simpa using hs2
    show _=(bif !(r1.State==2)then _ else _);rw[this];rfl
   |false=>
   have:(r1.State==2)=true:=by simpa using hs2
   show _=(bif !(r1.State==2)then _ else _);rw[this];cases live with
   |false=>rfl
   |true=>
   obtain⟨r2,g2,k2⟩:=Lp hp (hl rfl);simp only[g2];show (bif !(Uv b r2 r1)then _ else _)=(bif !(Pf b r2 r1)then _ else _);rw[Adu h k2 k1]
  .rw[e,Xq h hp hB.1 hB.2,of_eq h hp hna];unfold vI;rw[A8 h hp,Y6 h hp.ncl];generalize Cd (Dz b p 3 x.B)=fl;generalize brk p.Broken 4 x.B=b3;obtain⟨f1,f2⟩:=fl;cases f2 <;> cases b3 <;> cases live <;> rfl
theorem Anl(h:Ad b)(hp:Aa b p):F99 b p=some ⟨p.Closed,C1 b p,p.Limits,p.Broken⟩:=by
 have e:=I3 h hp;unfold F55 at e;rw[Bi h hp]at e;cases hf:F99 b p with
 |none=>rw[hf]at e;cases e
 |some y=>rw[hf]at e;exact congrArg some (Prod.mk.inj (bI e)).1
theorem Asg(h:Ad b)(hp:Aa b p)(j:Int):Alv b p j=N7 b p j:=by
 have hn:=hp.ncl;unfold Alv N7;rw[Awv h hp,Dv h hp,Bj h hp];obtain⟨y,ey,hy⟩:=Abu h hp j;rw[ey];simp only[aa];cases hc:(y != 0) with
 |true=>rfl
 | false=>
  rcases hy with hy|⟨hr,hf⟩
  .exact absurd (by simpa using hc) hy
  .obtain⟨k,rfl⟩:∃k:Nat,j=(k:Int):=⟨j.toNat,by omega⟩;obtain⟨x,hx⟩:∃x,b.Breakers[k]?=some x:=⟨_,af (by omega)⟩;have hq:=Acz hp (j:=k) hx (hf x hx);obtain⟨c,ec⟩:∃c,p.Closed[k]?=some c:=⟨_,af (by omega)⟩;rw[Al ec,Ev (j:=k)];simp only[aa,Jp h hq,Anl h hq]
theorem Au7(h:Ad b)(hp:Aa b p)(j:Int):Alu b p j=N6 b p j:=by unfold Alu N6;rw[Bi h hp,A8 h hp,Dv h hp,Bj h hp];simp only[E5,C3 (p:=p) (show p.Broken.length<=1000 by have:=hp.brk.len;omega)];rfl
variable{s:Int}
theorem Yz{r:ee}(hs:getI p.Sources s=some r)(h:∀i,i∈idx->0<=i/\i<p.Sources.length) :
  (andThen (foldI (vM p (s,true)) idx 0 p.Sources) (λ_=>none) λz1=>some ((⟨p.Closed,z1,p.Limits,p.Broken⟩:dZ),(0:Int)))=some (⟨p.Closed,Es r idx p.Sources,p.Limits,p.Broken⟩,0):=by
 refine de ?_;refine eI (A:=λs=>s=Es r idx p.Sources) (B:=λ(_:Unit)=>False) ?_ (λs hs=>eK (by rw[hs])) eN;refine c8 (I:=λj s=>s=Es r (idx.take j) p.Sources) rfl (λj x l hx hl0=>?_) λs hs=>?_
 .have hi:=h x (ae hx);have hl:l.length=p.Sources.length:=by rw[hl0,G0]
  unfold vM;simp only[hs,aa];refine(d7 hi.1 (by omega)).bind λu hu=>(da hi.1).bind λv hv=>?_;have hvg:v[x.toNat]?=some (⟨u.State,u.Since,r.Frequency,u.Phase⟩:ee):=by rw[hv,bH (by omega)]
  refine eJ (P:=λw=>w=(⟨u.State,u.Since,r.Frequency,u.Phase⟩:ee)) ((d7 hi.1 (by rw[hv];simpa using by omega)).mono λw hw=>by rw[hvg]at hw;cases hw;rfl) λw hw=>?_;refine(da hi.1 (by rw[hv];simpa using by omega)).bind λz hz=>c7 ?_;rw[Su hx,←hl0,hz,hv,hw,List.set_set];have:l.getD x.toNat default=u:=by simp[List.getD,hu]
  rw[this];rfl
 .rw[am]at hs;exact hs
theorem Arl(h:Ad b)(hp:Aa b p)(i n:Int):Alt b p i n=N5 b p i n:=by
 have hso:=hp.nso;unfold Alt N5;rw[Bi h hp,A8 h hp,Dv h hp,Bj h hp];simp only[aa];show (bif Uc b i n then _ else _)=(bif Uc b i n then _ else _);cases hc:Uc b i n with
 |true=>rfl
 | false=>
  simp only[Uc,aA,dG]at hc;obtain⟨m,rfl,hm⟩:=Wa (b:=b) (a:=n) (by omega);have la:=Mo h hp hm;rw[la.1,la.2];have hl:=Xm (b:=b) (p:=p) (n:=m);generalize Le b p m=la at hl;obtain⟨s,live⟩:=la;obtain⟨r1,g1,k1⟩:=Lp hp (b:=b) (i:=i);simp only[aa,g1];cases live with
  |false=>cases (r1.State != 2) <;> rfl
  |true=>
  show (bif ((r1.State != 2) || false)then _ else _)=(bif (false || (r1.State != 2))then _ else _);rw[Bool.or_false,aO];cases (r1.State != 2) with
  |true=>rfl
  |false=>
  simp only[eQ];obtain⟨r2,g2,k2⟩:=Lp hp (hl rfl);unfold X_;rw[A8 h hp,Ib h hp,Gd h hp];simp only[aa,dN,eQ,g2];cases hco:Cy b p i with
  |none=>simp only[Cd,vL,eQ,andThen];have e:=Yz (p:=p) (s:=s) (r:=r2) g2 (idx:=[i]) (λz hz=>by rw[aF]at hz;omega);rw[Sr (λz hz=>by rw[aF]at hz;omega)];exact e
  |some a=>
   obtain⟨na,rfl,hna⟩:=Wa (b:=b) (Nv h hco);simp only[Cd,vL,eO];rw[Il h hp hna,of_eq h hp hna];have hin:∀z,z∈(isl b p ((groups b p).getD na 0).toNat).Sources->0<=z/\z<p.Sources.length:=λz hz=>by have:=Kx hz;omega
   simp only[aa,andThen];rw[Sr hin];exact Yz (p:=p) (s:=s) (r:=r2) g2 hin
set_option linter.unusedVariables false
set_option linter.unusedSimpArgs false
def Al1(y:dZ×Int):Prop:=y.2=0\/y.1=⟨[],[],[],[]⟩
theorem Aog(h:Ad b)(hp:Aa b p)(j:Int):Ok (N7 b p j) Al1:=by
 have hn:=hp.ncl;unfold N7;rw[Bj h hp];simp only[aa];refine(Abu h hp j).bind λy hy=>c6 (λhc=>eK (.inr rfl)) (λhc=>?_);simp only[dM]at hc;rcases hy with hy|⟨hr,hf⟩
 .exact absurd hc hy
 .refine(d7 hr.1 (by omega)).bind λ_ _=>(da hr.1).bind λz hz=>?_;obtain⟨x,hx⟩:∃x,b.Breakers[j.toNat]?=some x:=⟨_,af (by omega)⟩;have hq:=Acz hp hx (hf x hx);rw[←hz]at hq;rw[Jp h hq];exact eK (.inl rfl)
theorem Aq8(h:Ad b)(hp:Aa b p)(j:Int):Ok (N6 b p j) Al1:=by
 obtain⟨y,ey,_⟩:=Ahc h hp j;refine⟨y,ey,?_⟩;unfold N6 at ey;rw[A8 h hp,Bj h hp]at ey;simp only[aa]at ey;change (bif P3 b j then _ else _)=_ at ey;cases hc:P3 b j with
 |true=>rw[hc]at ey;cases ey;exact .inr rfl
 | false=>
  rw[hc]at ey;simp only[eQ]at ey;obtain⟨c,_,ey⟩:=bz.1 ey;obtain⟨d,_,ey⟩:=bz.1 ey;cases hd:(!c || d) with
  |true=>rw[hd]at ey;cases ey;exact .inr rfl
  |false=>rw[hd]at ey;simp only[eQ]at ey;obtain⟨_,_,ey⟩:=bz.1 ey;obtain⟨_,_,ey⟩:=bz.1 ey;cases ey;exact .inl rfl
theorem Am7(h:Ad b)(hp:Aa b p)(i n:Int):Ok (N5 b p i n) Al1:=by
 obtain⟨y,ey,_⟩:=Abw h hp i n;refine⟨y,ey,?_⟩;unfold N5 at ey;rw[A8 h hp,Bj h hp]at ey;simp only[aa]at ey;change (bif Ny b i n then _ else _)=_ at ey;cases hc:Ny b i n with
 |true=>rw[hc]at ey;cases ey;exact .inr rfl
 | false=>
  rw[hc]at ey;simp only[eQ]at ey;obtain⟨c,_,ey⟩:=bz.1 ey;obtain⟨d,_,ey⟩:=bz.1 ey;cases hd:(!c.2 || d.State != 2) with
  |true=>rw[hd]at ey;cases ey;exact .inr rfl
  | false=>
   rw[hd]at ey;simp only[eQ]at ey;obtain⟨z,_,ey⟩:=bz.1 ey;cases hz:z.2 with
   |true=>rw[hz]at ey;simp only[eO]at ey;obtain⟨_,_,ey⟩:=bz.1 ey;obtain⟨_,_,ey⟩:=bz.1 ey;obtain⟨_,_,ey⟩:=bz.1 ey;cases ey;exact .inl rfl
   |false=>rw[hz]at ey;simp only[eQ]at ey;obtain⟨_,_,ey⟩:=bz.1 ey;obtain⟨_,_,ey⟩:=bz.1 ey;cases ey;exact .inl rfl
theorem Xs{o:Option (dZ×Int)}(h:Ok o Al1)(f:dZ->Ar)(hf:∀q,(f q).Ai=q) :
  ((o.bind λy=>some (y.1,y.2)):Option (dZ×Int))=(o.bind λy=>some (y.2,f y.1)).bind λy10=>bif (y10.1 != 0)then some (⟨[],[],[],[]⟩,y10.1) else some (y10.2.Ai,0):=by
 obtain⟨y,rfl,hy⟩:=h;obtain⟨q,e⟩:=y;simp only[aa];cases hc:(e != 0) with
 |true=>
  rcases hy with hy|hy
  .change e=0 at hy;rw[hy]at hc;cases hc
  .change q=_ at hy;rw[hy];rfl
 |false=>
  have:e=0:=by simpa using hc
  rw[this,eQ,hf]
variable{t:Int}
theorem Ah1(h:Ad b)(hp:Aa b p)(ht:0<=t/\t<=2147483648)(u v:Int):F65 b p t ⟨7,u,v⟩=some (wtS b p t,0):=by rw[←Asx h hp ht];unfold F65 Qb I9;simp only[Int.reduceBEq,eO,eQ,andThen]
theorem Jq(h:Ad b)(h0:0<=i)(h1:i<b.Sources.length):∃l,I1 b 2 i=some l/\getI l 0=some (Et b i):=by obtain⟨k,rfl⟩:∃k:Nat,i=(k:Int):=⟨i.toNat,by omega⟩;obtain⟨l,e,hl⟩:=Aho h (i:=k) (by omega);exact⟨l,e,Al hl⟩
theorem yZ(h:Ad b)(hp:Aa b p)(h0:0<=i)(h1:i<b.Sources.length):∃c,getI p.Closed (Et b i)=some c:=by obtain⟨k,y,e,hy,_⟩:=Hf h (i:=i) (by omega);have hk:=(ab.1 hy).1;have hnc:=hp.ncl;rw[e];exact⟨_,Al (af (by omega))⟩
theorem Awc(h:Ad b)(hp:Aa b p)(u v:Int):F65 b p t ⟨3,u,v⟩=Er b p t ⟨3,u,v⟩:=by
 have hso:=hp.nso;have hbl:=hp.brk.len;unfold F65 Er Qb;have e0:I9 t ⟨3,u,v⟩=C8 t ⟨3,u,v⟩:=rfl;have ek:Ki b ⟨3,u,v⟩=some (Cu b 1 u):=rfl;have ed:Gm ⟨b,p,t⟩ ⟨3,u,v⟩=(Qh ⟨b,p,t⟩ u).bind λy=>some (y.1,y.2):=rfl;rw[Bi h hp,Dv h hp,A8 h hp,ek,Bj h hp,e0];simp only[aa,Int.reduceBEq,eO,eQ,andThen];cases C8 t ⟨3,u,v⟩ with
 |true=>rfl
 |false=>
 have hpt:Cu b 1 u = !Mt b ⟨3,u,v⟩:=by
  rw[aU,Ew];simp[Mt,Bc]
  try omega
 rw[hpt,ed];cases hc:Mt b ⟨3,u,v⟩ with
 |true=>rfl
 |false=>
 simp only[Mt,aA,dG]at hc;obtain⟨r1,g1,k1⟩:=Lp hp (b:=b) (i:=u);obtain⟨l,f1,f2⟩:=Jq h (i:=u) (by omega) (by omega);obtain⟨c,gc⟩:=yZ h hp (i:=u) (by omega) (by omega);obtain⟨k,rfl⟩:∃k:Nat,u=(k:Int):=⟨u.toNat,by omega⟩;have hsb:b.Sources[k]?=some (b.Sources[k]'(by omega)):=af _;generalize b.Sources[k]'(by omega)=so at hsb;unfold Qh I5;simp only[g1,f1,f2,gc,E5,C3 (p:=p) (show p.Broken.length<=1000 by omega),aa,Mv h,Al hsb,Ev (l:=p.Sources) (j:=k)];cases (r1.State != 0) with
 |true=>rfl
 |false=>
 cases brk p.Broken 1 (k:Int) with
 |true=>rfl
 |false=>
 simp only[Apj];have hset:∀w:ee,getI (p.Sources.set k w) (k:Int)=some w:=λw=>Al (bH (by omega));have hset2:∀w w2:ee,setI (p.Sources.set k w) (k:Int) w2=some (p.Sources.set k w2):=λw w2=>by rw[Ev (by simp;omega),List.set_set]
 cases (so.Start==0) with
 |false=>rfl
 |true=>
 cases c with
 |true=>rfl
 |false=>simp only[hset,hset2,aa];rfl
theorem Awb(h:Ad b)(hp:Aa b p)(u v:Int):F65 b p t ⟨4,u,v⟩=Er b p t ⟨4,u,v⟩:=by
 have hso:=hp.nso;have hbl:=hp.brk.len;unfold F65 Er Qb;have e0:I9 t ⟨4,u,v⟩=C8 t ⟨4,u,v⟩:=rfl;have ek:Ki b ⟨4,u,v⟩=some (Cu b 1 u):=rfl;have ed:Gm ⟨b,p,t⟩ ⟨4,u,v⟩=(Qg ⟨b,p,t⟩ u).bind λy=>some (y.1,y.2):=rfl;rw[Bi h hp,Dv h hp,A8 h hp,ek,Bj h hp,e0];simp only[aa,Int.reduceBEq,eO,eQ,andThen];cases C8 t ⟨4,u,v⟩ with
 |true=>rfl
 |false=>
 have hpt:Cu b 1 u = !Mt b ⟨4,u,v⟩:=by
  rw[aU,Ew];simp[Mt,Bc]
  try omega
 rw[hpt,ed];cases hc:Mt b ⟨4,u,v⟩ with
 |true=>rfl
 |false=>
 simp only[Mt,aA,dG]at hc;obtain⟨r1,g1,k1⟩:=Lp hp (b:=b) (i:=u);obtain⟨l,f1,f2⟩:=Jq h (i:=u) (by omega) (by omega);obtain⟨c,gc⟩:=yZ h hp (i:=u) (by omega) (by omega);obtain⟨k,rfl⟩:∃k:Nat,u=(k:Int):=⟨u.toNat,by omega⟩;unfold Qg I5;simp only[g1,f1,f2,gc,aa,Mv h,Ev (l:=p.Sources) (j:=k),At6,Ac9];cases (r1.State != 1) <;> cases (r1.State != 2) <;> cases c <;> rfl
theorem Awa(h:Ad b)(hp:Aa b p)(u v:Int):F65 b p t ⟨5,u,v⟩=Er b p t ⟨5,u,v⟩:=by
 have hli:=hp.nli;unfold F65 Er Qb;have e0:I9 t ⟨5,u,v⟩=C8 t ⟨5,u,v⟩:=rfl;have ek:Ki b ⟨5,u,v⟩=some (Cu b 4 u):=rfl;have ed:Gm ⟨b,p,t⟩ ⟨5,u,v⟩=(Qf ⟨b,p,t⟩ u v).bind λy=>some (y.1,y.2):=rfl;rw[Bi h hp,Dv h hp,A8 h hp,ek,Bj h hp,e0];simp only[aa,Int.reduceBEq,eO,eQ,andThen];cases C8 t ⟨5,u,v⟩ with
 |true=>rfl
 |false=>
 have hpt:Cu b 4 u = !Zl b ⟨5,u,v⟩:=by
  rw[aU,Ew];simp[Zl,Bc]
  try omega
 rw[hpt,ed];cases hc:Zl b ⟨5,u,v⟩ with
 |true=>rfl
 |false=>
 simp only[Zl,aA,dG]at hc;obtain⟨k,rfl⟩:∃k:Nat,u=(k:Int):=⟨u.toNat,by omega⟩;have hsb:b.Consumers[k]?=some (b.Consumers[k]'(by omega)):=af _;generalize b.Consumers[k]'(by omega)=co at hsb;have hl:p.Limits[k]?=some (p.Limits[k]'(by omega)):=af _;generalize p.Limits[k]'(by omega)=li at hl;unfold Qf;simp only[Al hsb,Al hl,aa,Ev (l:=p.Limits) (j:=k),At5,X3];cases decide (v<0) with
 |true=>rfl
 |false=>have eg:∀d:dV,Ag [(false,false)] (some co) d=some co:=λ_=>rfl;simp only[eg,aa];cases decide (v>co.Load) <;> rfl
theorem Q2{n:Int}(hf:Cu b k n=false):¬Bc b ⟨k,n⟩:=λhh=>by rw[(Ew b k n).2 hh]at hf;cases hf
theorem Awe(h:Ad b)(hp:Aa b p)(u v:Int):F65 b p t ⟨1,u,v⟩=Er b p t ⟨1,u,v⟩:=by
 unfold F65 Er;have e0:I9 t ⟨1,u,v⟩=C8 t ⟨1,u,v⟩:=rfl;have ek:Ki b ⟨1,u,v⟩=some (Cu b 2 u):=rfl;have ed:Gm ⟨b,p,t⟩ ⟨1,u,v⟩=(N7 b p u).bind λy=>some (y.2,⟨b,y.1,t⟩):=rfl;rw[Bi h hp,Dv h hp,A8 h hp,ek,Bj h hp,e0];simp only[aa,Int.reduceBEq,eO,eQ,Asg h hp,ed];cases C8 t ⟨1,u,v⟩ with
 |true=>rfl
 |false=>
 cases hf:Cu b 2 u with
 | false=>
  have:=Q2 hf;have ho:N7 b p u=some (⟨[],[],[],[]⟩,10):=by
   unfold N7 X9;have hc:Zn b u=true:=by simp[Bc]at this;simp[Zn];omega
   rw[A8 h hp];simp only[aa];rw[hc];rfl
  rw[ho];rfl
 |true=>exact Xs (Aog h hp u) (λq=>⟨b,q,t⟩) λ_=>rfl
theorem Awd(h:Ad b)(hp:Aa b p)(u v:Int):F65 b p t ⟨2,u,v⟩=Er b p t ⟨2,u,v⟩:=by
 unfold F65 Er;have e0:I9 t ⟨2,u,v⟩=C8 t ⟨2,u,v⟩:=rfl;have ek:Ki b ⟨2,u,v⟩=some (Cu b 2 u):=rfl;have ed:Gm ⟨b,p,t⟩ ⟨2,u,v⟩=(N6 b p u).bind λy=>some (y.2,⟨b,y.1,t⟩):=rfl;rw[Bi h hp,Dv h hp,A8 h hp,ek,Bj h hp,e0];simp only[aa,Int.reduceBEq,eO,eQ,Au7 h hp,ed];cases C8 t ⟨2,u,v⟩ with
 |true=>rfl
 |false=>
 cases hf:Cu b 2 u with
 | false=>
  have:=Q2 hf;have ho:N6 b p u=some (⟨[],[],[],[]⟩,10):=by
   unfold N6;have hc:P3 b u=true:=by simp[Bc]at this;simp[P3];omega
   rw[A8 h hp];simp only[aa];rw[hc];rfl
  rw[ho];rfl
 |true=>exact Xs (Aq8 h hp u) (λq=>⟨b,q,t⟩) λ_=>rfl
theorem Av9(h:Ad b)(hp:Aa b p)(u v:Int):F65 b p t ⟨6,u,v⟩=Er b p t ⟨6,u,v⟩:=by
 unfold F65 Er;have e0:I9 t ⟨6,u,v⟩=C8 t ⟨6,u,v⟩:=rfl;have ek:Ki b ⟨6,u,v⟩=some (Cu b 1 u&&Cu b 3 v):=rfl;have ed:Gm ⟨b,p,t⟩ ⟨6,u,v⟩=(N5 b p u v).bind λy=>some (y.2,⟨b,y.1,t⟩):=rfl;rw[Bi h hp,Dv h hp,A8 h hp,ek,Bj h hp,e0];simp only[aa,Int.reduceBEq,eO,eQ,Arl h hp,ed];cases C8 t ⟨6,u,v⟩ with
 |true=>rfl
 |false=>
 cases hf:Cu b 1 u&&Cu b 3 v with
 | false=>
  have ho:N5 b p u v=some (⟨[],[],[],[]⟩,10):=by
   unfold N5;have hc:Ny b u v=true:=by
    rw[bQ]at hf;rcases hf with hf|hf
    .have:=Q2 hf;simp[Bc]at this;simp[Ny];omega
    .have:=Q2 hf;simp[Bc]at this;simp[Ny];omega
   rw[A8 h hp];simp only[aa];rw[hc];rfl
  rw[ho];rfl
 |true=>exact Xs (Am7 h hp u v) (λq=>⟨b,q,t⟩) λ_=>rfl
theorem Acc(hs:Fs l){x:dX}(h:l[n]?=some x):(l.filter λy=>!(y.Kind==x.Kind&&(y.Number==x.Number&&true)))=l.take n++l.drop (n+1):=by
 have hn:=(ab.1 h).1;have hne:∀(j:Nat)(y:dX),l[j]?=some y->j≠n->(!(y.Kind==x.Kind&&(y.Number==x.Number&&true)))=true:=by
  intro j y hy hj;rw[aS,bl];refine bZ.2 λe=>?_;simp only[ac,dH]at e;have:y=x:=by cases y;cases x;simp only at e;rw[e.1,e.2]
  subst this;rcases Nat.lt_or_gt_of_ne hj with q|q
  .have:=hs j n _ _ q hy h;omega
  .have:=hs n j _ _ q h hy;omega
 conv=>lhs;rw[←bP n l,cJ hn]
 have ex:l[n]=x:=by have:=ab.1 h;exact this.2
 rw[aX,bt,ex];have e1:(!(x.Kind==x.Kind&&(x.Number==x.Number&&true)))=false:=by simp
 rw[e1,bW.2,bW.2]
 .simp
 .intro y hy;obtain⟨j,hj⟩:=bB hy;rw[ay]at hj;exact hne _ y hj (by omega)
 .intro y hy;obtain⟨j,hj⟩:=bB hy;have hjl:=(ab.1 hj).1;rw[ax]at hj;split at hj
  .exact hne j y hj (by omega)
  .cases hj
theorem Ark(hl:l.length<=1000)(a:a_):(andThen (foldI (Ael a) l 0 []) (λ(_:Unit)=>(none:Option (Ctl (List dX×Int) (dZ×Int)))) λz4=>some (.next (z4,0)))=some (.next (l.filter (T8 a),0)):=by
 refine de ?_;refine eI (A:=λs=>s=l.filter (T8 a)) (B:=λ(_:Unit)=>False) ?_ (λs hs=>eK (by rw[hs])) eN;refine c8 (I:=λj s=>s=(l.take j).filter (T8 a)) rfl (λj x s hx hs=>?_) λs hs=>by rw[am]at hs;exact hs
 have hsl:s.length<=1000:=by rw[hs];exact aG (bk _ _) (by simp;omega)
 unfold Ael;rw[An hx,aX,bt,bO,←hs];cases hc:T8 a x with
 |true=>exact(d8 (by simp;omega)).bind λy hy=>c7 (by rw[hy];rfl)
 |false=>exact c7 (by simp)
theorem Ayd(h:Ad b)(hp:Aa b p){u v:Int}(hat:At p.Broken ⟨v,u⟩ n):brk p.Broken v u=true↔p.Broken[n]?=some ⟨v,u⟩:=by
 unfold brk;rw[bv];constructor
 .rintro⟨y,hy,e⟩;simp only[ac,dH]at e;obtain⟨j,hj⟩:=bB hy;have ey:y=⟨v,u⟩:=by
   cases y;simp only at e;rw[e.1,e.2]
  rw[ey]at hj;by_cases h1:j<n
  .have:=hat.lo j _ h1 hj;omega
  .have hjl:=(ab.1 hj).1;have hz:p.Broken[n]?=some (p.Broken[n]'(by omega)):=af _;generalize p.Broken[n]'(by omega)=z at hz;by_cases h2:j=n
   .rw[←h2];exact hj
   .have h3:=D5 h hp.brk n j z ⟨v,u⟩ (by omega) hz hj;have h4:=hat.hi n z (ag _) hz;omega
 .intro e;exact⟨_,ae e,by simp⟩
theorem Av8(h:Ad b)(hp:Aa b p)(u v:Int):F65 b p t ⟨9,u,v⟩=Er b p t ⟨9,u,v⟩:=by
 have hbl:=hp.brk.len;have hso:=hp.nso;unfold F65 Er Qb;have e0:I9 t ⟨9,u,v⟩=C8 t ⟨9,u,v⟩:=rfl;have hdo:Gm ⟨b,p,t⟩ ⟨9,u,v⟩=(Eu ⟨b,p,t⟩ ⟨v,u⟩ false).bind λy=>some (y.1,y.2):=rfl;rw[Bi h hp,Dv h hp,A8 h hp,Awz,Bj h hp,e0];simp only[aa,Int.reduceBEq,eO,eQ,hdo,E5];cases C8 t ⟨9,u,v⟩ with
 |true=>rfl
 |false=>
 have e8:Ms b ⟨9,u,v⟩ = !Cu b v u:=by unfold Ms;congr 1;rw[aU,Kc h,Ew]
 cases hk:Cu b v u with
 |false=>rw[hk]at e8;show (bif Ms b ⟨9,u,v⟩ then _ else _)=_;rw[e8];rfl
 |true=>
 rw[hk]at e8;have hx:=(Ew b v u).1 hk;obtain⟨n,hat⟩:=Aku h hp.brk hx;have hmem:=Ayd h hp hat;have hs:=D5 h hp.brk;show (bif Ms b ⟨9,u,v⟩ then _ else _)=_;rw[e8];by_cases hin:p.Broken[n]?=some ⟨v,u⟩
 .rw[hmem.2 hin];have hn:=(ab.1 hin).1;have he:=Acs h hp.brk hin;have hq:Aa b ⟨p.Closed,p.Sources,p.Limits,p.Broken.take n++p.Broken.drop (n+1)⟩:={ncl:=hp.ncl,nso:=hp.nso,nli:=hp.nli,run:=hp.run,lim:=hp.lim,one:=hp.one,brk:=Acr h hp.brk hn};have hme:=Ahi h (p:=⟨p.Closed,p.Sources,p.Limits,p.Broken.take n++p.Broken.drop (n+1)⟩) hq.brk (q:=p) hx t he.1 he.2 (by simp;omega) (yS hin).symm hp.nso;have hm3:N3 p ⟨9,u,v⟩ p=some (.next (p.Broken.take n++p.Broken.drop (n+1),0)):=by
   unfold N3;have:=Ark (l:=p.Broken) (by omega) ⟨9,u,v⟩;rw[←Acc hs hin];exact this
  rw[hme,hm3];unfold I8;by_cases hv:v=1
  .subst hv;have hu:0<=u/\u<p.Sources.length:=by unfold Bc at hx;dsimp only at hx;omega
   obtain⟨k,rfl⟩:∃k:Nat,u=(k:Int):=⟨u.toNat,by omega⟩;have hsb:p.Sources[k]?=some (p.Sources.getD k default):=by rw[af (by omega)];simp[List.getD,List.getElem?_eq_getElem (show k<p.Sources.length by omega)]
   show ((getI p.Sources (k:Int)).bind _:Option (dZ×Int))=_;rw[Al hsb];show ((setI p.Sources (k:Int) _).bind _:Option (dZ×Int))=_;rw[Ev,eT rfl];rfl
  .rw[eU hv,dJ.2 hv];rfl
 .have hnb:brk p.Broken v u=false:=by
   cases e:brk p.Broken v u
   .rfl
   .exact absurd (hmem.1 e) hin
  rw[hnb];have hf:Ok (Eu ⟨b,p,t⟩ ⟨v,u⟩ false) λy=>y.1=11:=by
   unfold Eu;refine(H6 hs (λy hy=>(hp.brk.mem y hy).small h) (hx.small h)).bind λy hy=>?_;obtain⟨m,e1,hat2,hf⟩:=hy;have e2:=hat.uniq hat2;subst e2;have:y.2=false:=by
    cases e:y.2
    .rfl
    .exact absurd (hf.1 e) hin
   rw[this];exact c6 (λ_=>eK rfl) (λhc=>by simp at hc)
  obtain⟨y,ey,hy⟩:=hf;rw[ey];simp only[aa,hy];rfl
theorem Ao9(h:Ad b)(hp:Aa b p)(t:Int)(a:a_):F65 b p t a=Er b p t a:=by
 obtain⟨k,u,v⟩:=a;cases hc:C8 t ⟨k,u,v⟩ with
 |true=>have e0:I9 t ⟨k,u,v⟩=C8 t ⟨k,u,v⟩:=rfl;unfold F65 Er;rw[Bi h hp,A8 h hp,e0,hc];rfl
 | false=>
  simp only[C8,aA,dG]at hc;have hk:k=1\/k=2\/k=3\/k=4\/k=5\/k=6\/k=7\/k=8\/k=9:=by omega
  rcases hk with rfl|rfl|rfl|rfl|rfl|rfl|rfl|rfl|rfl
  .exact Awe h hp u v
  .exact Awd h hp u v
  .exact Awc h hp u v
  .exact Awb h hp u v
  .exact Awa h hp u v
  .exact Av9 h hp u v
  .rw[Ah1 h hp (by omega) u v];unfold Er;have ek:Ki b ⟨7,u,v⟩=some true:=rfl;have ed:Gm ⟨b,p,t⟩ ⟨7,u,v⟩=(L9 ⟨b,p,t⟩).bind λy=>some (0,y):=rfl;have hc2:C8 t ⟨7,u,v⟩=false:=by simp[C8];omega
   rw[A8 h hp,ek,Bj h hp];simp only[aa,ed,Agt h hp,hc2];rfl
  .exact Akz h hp t u v
  .exact Av8 h hp u v
set_option linter.unusedVariables false
set_option linter.unusedSimpArgs false
structure As5(b:c_):Prop where
 buses:1<=b.Buses/\b.Buses<=6
 brl:b.Breakers.length<=24
 sol:b.Sources.length<=8
 col:b.Consumers.length<=16
structure Al3(b:c_):Prop where
 br:∀x,x∈b.Breakers->Ij b.Buses b.Sources.length b.Consumers.length x
 one:∀i,i<b.Sources.length->(brs b.Breakers 2 i).length=1
 any:∀i,i<b.Consumers.length->brs b.Breakers 3 i≠[]
 nodup:∀i,((brs b.Breakers 3 i).map (·.A)).Nodup
variable{l:List dU}{x:dU}
theorem Nz(hx:l[j]?=some x)(k:Int)(i:Nat):brs (l.take (j+1)) k i=brs (l.take j) k i++if x.Kind=k/\x.B=(i:Int)then [x] else []:=by rw[An hx,Gz,uM]
theorem Oj{y:dU}(hx:l[j]?=some x)(hy:y∈l.take (j+1)):y∈l.take j\/y=x:=by rw[An hx,ao,aF]at hy;exact hy
structure Adz(b:c_)(j:Nat):Prop where
 br:∀x,x∈b.Breakers.take j->Ij b.Buses b.Sources.length b.Consumers.length x
 le:∀i:Nat,(brs (b.Breakers.take j) 2 i).length<=1
 nodup:∀i:Nat,((brs (b.Breakers.take j) 3 i).map (·.A)).Nodup
theorem Adz.step(h:Adz b j)(hx:b.Breakers[j]?=some x)(hb:Ij b.Buses b.Sources.length b.Consumers.length x)(h2:x.Kind=2->(brs (b.Breakers.take j) 2 x.B.toNat).length=0)(h3:x.Kind=3->x.A∉(brs (b.Breakers.take j) 3 x.B.toNat).map (·.A)):Adz b (j+1) where
 br:=λy hy=>by
  rcases Oj hx hy with hy|rfl
  .exact h.br y hy
  .exact hb
 le:=λi=>by
  rw[Nz hx];by_cases e:x.Kind=2/\x.B=(i:Int)
  .have:=h2 e.1;rw[e.2,aq]at this;rw[eT e,aw,this];simp
  .rw[eU e,aB];exact h.le i
 nodup:=λi=>by
  rw[Nz hx];by_cases e:x.Kind=3/\x.B=(i:Int)
  .have:=h3 e.1;rw[e.2,aq]at this;rw[eT e,bh,cT];refine⟨h.nodup i,by simp,λa ha c hc=>?_⟩;simp only[bo,List.map_nil,aF]at hc;rintro rfl;rw[hc]at ha;exact this ha
  .rw[eU e,aB];exact h.nodup i
theorem Ao1(h:As5 b):Ok (F80 b) λy=>y=true->Al3 b:=by
 unfold F80;have hs:=h.sol;have hc:=h.col;have hb:=h.buses;have hbl:=h.brl;refine(Ok.mkI (by omega) (by omega)).bind λys hys=>(Ok.mkI (by omega) (by omega)).bind λzs hzs=>?_;rw[aq]at hys hzs;refine eI (A:=λs=>(s.1=(List.range b.Sources.length).map (λi=>((brs b.Breakers 2 i).length:Int))/\s.2=(List.range b.Consumers.length).map (λi=>(brs b.Breakers 3 i).map (·.A)))/\Adz b b.Breakers.length) (B:=λy=>y=false) ?_ ?_ (λy hy=>eK λe=>by rw[hy]at e;cases e)
 .refine c8 (I:=λj s=>(s.1=(List.range b.Sources.length).map (λi=>((brs (b.Breakers.take j) 2 i).length:Int))/\s.2=(List.range b.Consumers.length).map (λi=>(brs (b.Breakers.take j) 3 i).map (·.A)))/\Adz b j) ?_ ?_ ?_
  .exact⟨⟨by rw[hys,Jk];rfl,by rw[hzs,Jk];rfl⟩,λx hx=>by simp at hx,λi=>by simp[brs],λi=>by simp[brs]⟩
  .rintro j x ⟨us,vs⟩ hx ⟨⟨hu,hv⟩,hp⟩;dsimp only at hu hv;subst hu;subst hv;have htk:=λk i=>Nz hx k i;unfold Aee;have e1:w64 (b.Buses-1)=b.Buses-1:=Ah;refine c6 (λhq=>Ok.ret rfl) (λhq=>?_);rw[aL,B_,e1]at hq;have e2:w64 (x.A+1)=x.A+1:=Ah;refine c6 (λhq=>?_) (λhq1=>?_)
   .simp only[Aao,ac,dH,B_,e1,e2]at hq;refine c7 ⟨⟨aY λi _=>?_,aY λi _=>?_⟩,hp.step hx ⟨by omega,.inl (by omega)⟩ (λe=>by omega) (λe=>by omega)⟩
    .rw[htk,eU (by omega),aB]
    .rw[htk,eU (by omega),aB]
   dsimp only;have el2:w64 ((((List.range b.Sources.length).map (λi=>((brs (b.Breakers.take j) 2 i).length:Int))).length:Int)-1)=(b.Sources.length:Int)-1:=by rw[au,ct,Ah]
   have el3:w64 ((((List.range b.Consumers.length).map (λi=>(brs (b.Breakers.take j) 3 i).map (·.A))).length:Int)-1)=(b.Consumers.length:Int)-1:=by rw[au,ct,Ah]
   refine eJ (P:=λy=>(x.Kind=2/\0<=x.B/\x.B<=(b.Sources.length:Int)-1)->y=((brs (b.Breakers.take j) 2 x.B.toNat).length:Int)) (c9 (λhn=>?_) λhn hh=>?_) λy7 hy7=>?_
   .have hn:=hn.1;rw[ac,dH,B_,el2]at hn;exact(dn (by omega)).mono λy hy _=>hy
   .refine(hn ⟨?_,trivial⟩).elim;rw[ac,dH,B_,el2];exact hh
   refine c6 (λhq2=>?_) (λhq2=>?_)
   .simp only[Aan,ac,dH,B_,el2]at hq2;have hBn:x.B=(x.B.toNat:Int):=by omega
    have hz:(brs (b.Breakers.take j) 2 x.B.toNat).length=0:=by have:=hy7 hq2.1;omega
    refine(dn (by omega)).bind λy2 hy2=>(dt (by omega)).bind λy3 hy3=>c7 ⟨⟨?_,aY λi _=>?_⟩,hp.step hx ⟨by omega,.inr (.inl (by omega))⟩ (λ_=>hz) (λe=>by omega)⟩
    .rw[hy3];refine aY λi hi=>?_;by_cases e:i=x.B.toNat
     .subst e;rw[eT rfl,hy2,htk,eT ⟨hq2.1.1,hBn⟩,hz,aw,hz];rfl
     .rw[eU e,htk,eU (by omega),aB]
    .rw[htk,eU (by omega),aB]
   refine eJ (P:=λy=>y.length<=24/\((x.Kind=3/\0<=x.B/\x.B<=(b.Consumers.length:Int)-1)->y=(brs (b.Breakers.take j) 3 x.B.toNat).map (·.A))) (c9 (λhn=>?_) λhn=>⟨by show ([]:fb).length<=24;exact ce _,λhh=>?_⟩) λy14 hy14=>?_
   .have hn:=hn.1;rw[ac,dH,B_,el3]at hn;refine(dn (by omega)).mono λy hy=>⟨?_,λ_=>hy⟩;rw[hy,au];have h1:(brs (b.Breakers.take j) 3 x.B.toNat).length<=(b.Breakers.take j).length:=bk _ _;rw[aT]at h1;omega
   .refine(hn ⟨?_,trivial⟩).elim;rw[ac,dH,B_,el3];exact hh
   have hyl:=hy14.1;refine eJ (P:=λy=>(x.Kind=3/\0<=x.B/\x.B<=(b.Consumers.length:Int)-1)->y=y14.any (x.A == ·)) (c9 (λ_=>?_) λhn hh=>?_) λy16 hy16=>?_
   .rw[Cx _ _];exact eK λ_=>rfl
   .refine(hn ⟨?_,trivial⟩).elim;rw[ac,dH,B_,el3];exact hh
   refine c6 (λhq3=>?_) (λ_=>Ok.ret rfl);simp only[Akf,ac,dH,B_,el3,aS]at hq3;have hBn:x.B=(x.B.toNat:Int):=by omega
   have hy14:=hy14.2 hq3.1;have hnot:x.A∉(brs (b.Breakers.take j) 3 x.B.toNat).map (·.A):=by have:=(hy16 hq3.1).symm.trans hq3.2;rw[←hy14];intro hm;rw[bq]at this;exact this _ hm (by simp)
   refine(dn (by omega)).bind λy19 hy19=>?_;rw[hy19,←hy14];refine(d8 (by simp;omega)).bind λy21 hy21=>(dt (by omega)).bind λy23 hy23=>c7 ⟨⟨aY λi _=>?_,?_⟩,hp.step hx ⟨by omega,.inr (.inr (by omega))⟩ (λe=>by omega) (λ_=>hnot)⟩
   .rw[htk,eU (by omega),aB]
   .rw[hy23];refine aY λi hi=>?_;by_cases e:i=x.B.toNat
    .subst e;rw[eT rfl,hy21,hy14,htk,eT ⟨hq3.1.1,hBn⟩,bh];rfl
    .rw[eU e,htk,eU (by omega),aB]
  .rintro⟨us,vs⟩ ⟨⟨hu,hv⟩,hp⟩;rw[am]at hu hv;exact⟨⟨hu,hv⟩,hp⟩
 .rintro⟨us,vs⟩ ⟨⟨hu,hv⟩,hp⟩;dsimp only at hu hv ⊢;rw[Cx _ _ (by rw[hu];simp;omega)];simp only[aa];refine eJ (P:=λy=>us.any (λy=>0==y)=false->y=vs.any (λx=>(x.length:Int)==0)) (c9 (λ_=>?_) λhn e=>?_) λy hy=>eK λe=>?_
  .rw[W0 _ (by rw[hv];simp;omega)];exact eK λ_=>rfl
  .exact(hn ⟨by rw[e];rfl,trivial⟩).elim
  .rw[ac,aS,aS]at e;have hy:=(hy e.1).symm.trans e.2;have h1:=e.1;rw[bq]at h1 hy;have ht:=hp.br;have h2:=hp.le;have h3:=hp.nodup;rw[am]at ht h2 h3;refine⟨ht,λi hi=>?_,λi hi e=>?_,h3⟩
   .have:=h1 _ (by rw[hu];exact an.2 ⟨i,aV.2 hi,rfl⟩);have:=h2 i;simp only[dH]at *;omega
   .have:=hy _ (by rw[hv];exact an.2 ⟨i,aV.2 hi,rfl⟩);simp only[e,List.map_nil,bU]at this;exact this rfl
set_option linter.unusedVariables false
set_option linter.unusedSimpArgs false
theorem Ats(hb:b.Breakers.length<=24)(k i:Int):F98 b k i=some (ofL b λx=>Gr k i x):=by
 refine de ?_;unfold F98;refine eI (A:=λs=>s=ofL b λx=>Gr k i x) (B:=λ(_:Unit)=>False) ?_ (λs hs=>eK hs) eN;refine c8 (I:=λj s=>s=((b.Breakers.zipIdx.take j).filter λz=>Gr k i z.1).map λz=>(z.2:Int)) rfl (λj x s hx hs=>?_) λs hs=>?_
 .have hj:=(ab.1 hx).1;have hcnt:cnt 0 j=(j:Int):=Bf;have hz:b.Breakers.zipIdx[j]?=some (x,j):=by rw[List.getElem?_zipIdx,hx];simp
  have hsl:s.length<=j:=by grind
  unfold Ad2;rw[hcnt,An hz,aX,bh,←hs];refine c6 (λhq=>?_) (λhq=>c7 (by simp[hq]));exact(d8 (by simp;omega)).bind λy hy=>c7 (by rw[hy];simp[hq])
 .rw[hs,show b.Breakers.length=b.Breakers.zipIdx.length from by simp,am];rfl
theorem Asj(h:As5 b):Ok (F85 b) λy=>y=true->Al3 b:=by
 have hs:=h.sol;have hc:=h.col;have hb:=h.buses;have hbl:=h.brl;have bad:∀y:Bool,y=false->Ok (some y) λy=>y=true->Al3 b:=λy hy=>eK λe=>by rw[hy]at e;cases e
 unfold F85;refine eI (A:=λ_=>(∀x,x∈b.Breakers->Ij b.Buses b.Sources.length b.Consumers.length x)/\∀i:Nat,((brs b.Breakers 3 i).map (·.A)).Nodup) (B:=λy=>y=false) ?_ (λ_ hA=>?_) bad
 .refine c8 (I:=λj _=>(∀x,x∈b.Breakers.take j->Ij b.Buses b.Sources.length b.Consumers.length x)/\∀i:Nat,((brs (b.Breakers.take j) 3 i).map (·.A)).Nodup) ⟨λx hx=>by simp at hx,λi=>by simp[brs]⟩ (λj x _ hx hI=>?_) (λ_ hI=>by rwa [am]at hI);have hjl:=(ab.1 hx).1;have hcnt:cnt 0 j=(j:Int):=Bf;have e1:w64 (b.Buses-1)=b.Buses-1:=Ah;have e3:w64 ((b.Sources.length:Int)-1)=(b.Sources.length:Int)-1:=Ah;have e4:w64 ((b.Consumers.length:Int)-1)=(b.Consumers.length:Int)-1:=Ah;unfold Aed Ake Akd Akc;rw[e1,e3,e4,hcnt];have stay:Ij b.Buses b.Sources.length b.Consumers.length x->x.Kind≠3->(∀y,y∈b.Breakers.take (j+1)->Ij b.Buses b.Sources.length b.Consumers.length y)/\∀i:Nat,((brs (b.Breakers.take (j+1)) 3 i).map (·.A)).Nodup:=λh1 h2=>⟨λy hy=>by
   rcases Oj hx hy with hy|rfl
   .exact hI.1 y hy
   .exact h1,λi=>by rw[Nz hx,eU (by omega),aB];exact hI.2 i⟩
  refine c6 (λ_=>Ok.ret rfl) (λhq=>?_);rw[aL,C5]at hq;have e2:w64 (x.A+1)=x.A+1:=Ah;rw[e2];refine c6 (λhk=>c6 (λ_=>Ok.ret rfl) λhq2=>?_) (λhk1=>c6 (λhk=>c6 (λ_=>Ok.ret rfl) λhq2=>?_) (λhk2=>c6 (λhk=>c6 (λ_=>Ok.ret rfl) λhq2=>?_) (λ_=>Ok.ret rfl)))
  .rw[aL,C5]at hq2;rw[dH]at hk;exact c7 (stay ⟨by omega,.inl (by omega)⟩ (by omega))
  .rw[aL,C5]at hq2;rw[dH]at hk;exact c7 (stay ⟨by omega,.inr (.inl (by omega))⟩ (by omega))
  .rw[aL,C5]at hq2;rw[dH]at hk;refine(Ok.cutI (by omega) (by omega) (by omega)).bind λy9 hy9=>?_;have hy9:y9=b.Breakers.take j:=by rw[hy9];simp
   refine Ok.inner (A:=λ_=>∀z,z∈b.Breakers.take j->V4 x z=false) (B:=λy=>y=false) ?_ (λ_ hall=>c7 ⟨λy hy=>?_,λi=>?_⟩) (λ_ hv=>Ok.ret hv)
   .rw[hy9];refine c8 (I:=λm _=>∀z,z∈(b.Breakers.take j).take m->V4 x z=false) (λz hz=>by simp at hz) (λm z _ hz hm=>?_) (λ_ hm=>by rwa [am]at hm);unfold Zw;refine c6 (λ_=>Ok.ret rfl) λhq3=>c7 λw hw=>?_;rcases Oj hz hw with hw|rfl
    .exact hm w hw
    .exact hq3
   .rcases Oj hx hy with hy|rfl
    .exact hI.1 y hy
    .exact⟨by omega,.inr (.inr (by omega))⟩
   .rw[Nz hx];by_cases e:x.Kind=3/\x.B=(i:Int)
    .rw[eT e,bh,cT];refine⟨hI.2 i,by simp,λa ha c hc=>?_⟩;simp only[bo,List.map_nil,aF]at hc;rintro rfl;obtain⟨z,hz,ez⟩:=an.1 ha;unfold brs at hz;obtain⟨hz1,hz2⟩:=ar.1 hz;rw[ac,dH,dH]at hz2;have:=hall z hz1;unfold V4 at this;rw[dH.2 (show z.Kind=x.Kind by omega),dH.2 (show z.A=x.A by omega),dH.2 (show z.B=x.B by omega)]at this;cases this
    .rw[eU e,aB];exact hI.2 i
 .refine eI (A:=λ_=>∀i:Nat,i<b.Sources.length->(brs b.Breakers 2 i).length=1) (B:=λy=>y=false) ?_ (λ_ hone=>?_) bad
  .refine d6 (λs=>(0<=s/\s<=(b.Sources.length:Int))/\∀i:Nat,(i:Int)<s->(brs b.Breakers 2 i).length=1) (λs=>((b.Sources.length:Int)-s).toNat) _ (0:Int) ⟨by omega,λi hi=>by omega⟩ (by omega) ?_;rintro i ⟨⟨h1,h2⟩,h3⟩;unfold Aec Ac3;refine c6 (λhq=>?_) (λhq=>db λk hk=>h3 k (by rw[dG]at hq;omega));simp only[dF]at hq;obtain⟨n,rfl⟩:∃n:Nat,i=(n:Int):=⟨i.toNat,by omega⟩;rw[Ats hbl];simp only[aa];rw[M3 (by decide),Ah];refine c6 (λ_=>Ok.ret rfl) (λhc2=>c7 ⟨⟨⟨by omega,by omega⟩,λk hk=>?_⟩,by omega⟩);by_cases e:k=n
   .have:(((brs b.Breakers 2 n).length:Int))=1:=by simpa using hc2
    rw[e];omega
   .exact h3 k (by omega)
  .refine eI (A:=λ_=>∀i:Nat,i<b.Consumers.length->brs b.Breakers 3 i≠[]) (B:=λy=>y=false) ?_ (λ_ hany=>eK λ_=>⟨hA.1,hone,hany,hA.2⟩) bad;refine d6 (λs=>(0<=s/\s<=(b.Consumers.length:Int))/\∀i:Nat,(i:Int)<s->brs b.Breakers 3 i≠[]) (λs=>((b.Consumers.length:Int)-s).toNat) _ (0:Int) ⟨by omega,λi hi=>by omega⟩ (by omega) ?_;rintro i ⟨⟨h1,h2⟩,h3⟩;unfold Aeb Ac2;refine c6 (λhq=>?_) (λhq=>db λk hk=>h3 k (by rw[dG]at hq;omega));simp only[dF]at hq;obtain⟨n,rfl⟩:∃n:Nat,i=(n:Int):=⟨i.toNat,by omega⟩;rw[Ats hbl];simp only[aa];rw[M3 (by decide),Ah];refine c6 (λ_=>Ok.ret rfl) (λhc2=>c7 ⟨⟨⟨by omega,by omega⟩,λk hk=>?_⟩,by omega⟩);by_cases e:k=n
   .rw[dG]at hc2;intro e2;rw[e]at e2;rw[e2]at hc2;simp at hc2
   .exact h3 k (by omega)
theorem Aix(x:eh):F81 x=true↔K5 x:=by unfold F81 K5;simp only[ac,B_];constructor <;> intro h <;> omega
theorem Af3:Ok (F86 b) λy=>y=true->∀x,x∈b.Sources->K5 x:=by
 unfold F86;refine eI (A:=λ_=>∀x,x∈b.Sources->K5 x) (B:=λy=>y=false) ?_ (λ_ hA=>eK λ_=>hA) (λy hy=>eK λe=>by rw[hy]at e;cases e);refine c8 (I:=λj _=>∀x,x∈b.Sources.take j->K5 x) (λx hx=>by simp at hx) (λj x _ hx hI=>?_) (λ_ hI=>by rwa [am]at hI);unfold Aea;refine c6 (λ_=>Ok.ret rfl) λhq=>c7 λy hy=>?_;rw[An hx,ao,aF]at hy;rcases hy with hy|rfl
 .exact hI y hy
 .simp only[Akb,aA,aL,C5]at hq;unfold K5;omega
def Jt(i:Nat)(l:fb)(m:Nat):Prop:=(∀n,n∈l.take m->0<=n/\n<(i:Int))/\∀(j:Nat) a c,j+1<m->l[j]?=some a->l[j+1]?=some c->a<c
variable{l:fb}{i m:Nat}
theorem Jt.step(h:Jt i l m){n:Int}(hn:l[m]?=some n)(h1:0<=n/\n<(i:Int))(h2:∀a,0<m->l[m-1]?=some a->a<n):Jt i l (m+1):=by
 refine⟨λy hy=>?_,λj a c hj ha hc=>?_⟩
 .rw[An hn,ao,aF]at hy;rcases hy with hy|rfl
  .exact h.1 y hy
  .exact h1
 .by_cases e:j+1=m
  .subst e;rw[hn]at hc;cases hc;exact h2 a (by omega) ha
  .exact h.2 j a c (by omega) ha hc
theorem Wx(hi:i<=1000)(hl:l.length<=1000){n:Int}(hn:l[m]?=some n)(c:Bool)(hc:c=true↔(0<=n/\n<(i:Int))) :
  Ok (Ag [(!c,false),(decide (cnt 0 m>0),true)] (getI l (w64 (cnt 0 m-1))) default) λy=>(!c || (decide (cnt 0 m>0)&&decide (y>=n)))=false->(0<=n/\n<(i:Int))/\∀a,0<m->l[m-1]?=some a->a<n:=by
 have hml:=(ab.1 hn).1;rw[Bf];refine c9 (λhg=>?_) λhg e=>?_
 .have hg1:=hg.1;have hg2:=hg.2.1;rw[dF]at hg2;obtain⟨k,rfl⟩:∃k,m=k+1:=⟨m-1,by omega⟩;obtain⟨a,ha⟩:∃a,l[k]?=some a:=⟨_,af (by omega)⟩;have e:w64 (((k+1:Nat):Int)-1)=(k:Int):=by rw[Ah];omega
  rw[e,Al ha];refine eK λhf=>⟨hc.1 (by simpa using hg1),λa' _ ha'=>?_⟩;rw[Nat.add_sub_cancel,ha]at ha';cases ha';rw[aA,bQ]at hf;rcases hf.2 with q|q
  .rw[dG]at q;omega
  .rw[dG]at q;omega
 .rw[aA]at e;have hc1:c=true:=by simpa using e.1
  refine⟨hc.1 hc1,λa hm _=>?_⟩;exact(hg ⟨by rw[hc1];rfl,by rw[dF];omega,trivial⟩).elim
variable{x:dV}
theorem Ahw(h1:0<=x.Load/\x.Load<=50000)(h2:0<=x.Least/\x.Least<=x.Load)(h3:0<=x.Preference/\x.Preference<=15)(h4:-1<=x.Thruster/\x.Thruster<=7)(h5:x.Needs.length<=4)(h6:Jt i x.Needs x.Needs.length):K8 i x:=by refine⟨h1,h2,h3,h4,h5,λn hn=>h6.1 n (by rwa [am]),λj a c ha hc=>h6.2 j a c ?_ ha hc⟩;exact(ab.1 hc).1
theorem Aag(hi:i<=1000)(hl:x.Needs.length<=1000):Ok (F82 x (i:Int)) λy=>y=true->K8 i x:=by
 unfold F82;refine eI (A:=λ_=>Jt i x.Needs x.Needs.length) (B:=λy=>y=false) ?_ (λ_ hA=>eK λe=>?_) (λy hy=>eK λe=>by rw[hy]at e;cases e)
 .refine c8 (I:=λm _=>Jt i x.Needs m) ⟨λn hn=>by simp at hn,λj a c hj=>by omega⟩ (λm n _ hn hI=>?_) (λ_ hI=>hI);unfold Zx;refine(Wx hi hl hn _ (by rw[B_,Ah];omega)).bind λy hy=>?_;refine c6 (λ_=>Ok.ret rfl) λhq=>?_;have hq:=hy hq;exact c7 (hI.step hn hq.1 hq.2)
 .simp only[ac,B_,dF]at e;exact Ahw (by omega) (by omega) (by omega) (by omega) (by omega) hA
theorem Aaf(hc:b.Consumers.length<=16)(hN:∀x,x∈b.Consumers->x.Needs.length<=1000):Ok (F87 b) λy=>y=true->∀(i:Nat) x,b.Consumers[i]?=some x->K8 i x:=by
 unfold F87;refine eI (A:=λ_=>∀(i:Nat) x,b.Consumers[i]?=some x->K8 i x) (B:=λy=>y=false) ?_ (λ_ hA=>eK λ_=>hA) (λy hy=>eK λe=>by rw[hy]at e;cases e);refine c8 (I:=λj _=>∀(i:Nat) x,i<j->b.Consumers[i]?=some x->K8 i x) (λi x hi=>by omega) (λj x _ hx hI=>?_) (λ_ hI i x hx=>hI i x (ab.1 hx).1 hx);have hjl:=(ab.1 hx).1;have hl:=hN x (ae hx);have hcnt:cnt 0 j=(j:Int):=Bf;unfold Ad9;refine c6 (λ_=>Ok.ret rfl) λhq=>?_;simp only[Aka,aA,aL,C5,dG]at hq;refine Ok.inner (A:=λ_=>Jt j x.Needs x.Needs.length) (B:=λy=>y=false) ?_ (λ_ hA=>c7 λi y hi hy=>?_) (λ_ hv=>Ok.ret hv)
 .refine c8 (I:=λm _=>Jt j x.Needs m) ⟨λn hn=>by simp at hn,λj a c hj=>by omega⟩ (λm n _ hn hI=>?_) (λ_ hI=>hI);unfold Ad8;refine(Wx (i:=j) (by omega) hl hn _ (by rw[C5,hcnt,Ah];omega)).bind λy hy=>?_;refine c6 (λ_=>Ok.ret rfl) λhq=>?_;have hq:=hy hq;exact c7 (hI.step hn hq.1 hq.2)
 .by_cases e:i=j
  .subst e;rw[hx]at hy;cases hy;exact Ahw (by omega) (by omega) (by omega) (by omega) (by omega) hA
  .exact hI i y (by omega) hy
set_option linter.unusedVariables false
set_option linter.unusedSimpArgs false
theorem Ay7:Aaq b=Ox b:=by rw[aU];simp only[Aaq,Ox,aE,dF,aS,←Bool.not_eq_true,B_];omega
theorem Awx(h:Ox b=false):As5 b:=by simp only[Ox,aA,dG]at h;exact⟨by omega,by omega,by omega,by omega⟩
def Ji(b:c_):Prop:=∀x,x∈b.Consumers->x.Needs.length<=1000
theorem zF(hN:Ji b):∃e,F43 b=some e/\F47 b=some e/\(e=0->Ad b):=by
 by_cases hB:Ad b
 .exact⟨0,K1 hB,Je hB,λ_=>hB⟩
 unfold F43 F47;rw[Ay7];cases hc:Ox b with
 |true=>exact⟨2,rfl,rfl,λe=>by omega⟩
 |false=>
 have hL:=Awx hc;refine⟨14,?_,?_,λe=>by omega⟩
 .refine de ?_;refine(Ao1 hL).bind λy hy=>?_;refine eI (A:=λs=>s=true->(y=true/\(0<=b.Phase/\b.Phase<=1800)/\(0<=b.Frequency/\b.Frequency<=6000))/\∀x,x∈b.Sources->K5 x) (B:=λ(_:Unit)=>False) ?_ (λs hs=>?_) eN
  .refine c8 (I:=λj s=>s=true->(y=true/\(0<=b.Phase/\b.Phase<=1800)/\(0<=b.Frequency/\b.Frequency<=6000))/\∀x,x∈b.Sources.take j->K5 x) (λe=>?_) (λj x s hx hI=>?_) (λ_ hI=>by rwa [am]at hI)
   .simp only[ac,B_]at e;exact⟨⟨e.1.1,e.1.2,e.2⟩,λx hx=>by simp at hx⟩
   .refine c7 λe=>?_;rw[ac,Aix]at e;refine⟨(hI e.1).1,λz hz=>?_⟩;rw[An hx,ao,aF]at hz;rcases hz with hz|rfl
    .exact(hI e.1).2 z hz
    .exact e.2
  .refine eI (A:=λz=>z=true->s=true/\∀(i:Nat) x,b.Consumers[i]?=some x->K8 i x) (B:=λ(_:Unit)=>False) ?_ (λz hz=>?_) eN
   .refine c8 (I:=λj z=>z=true->s=true/\∀(i:Nat) x,i<j->b.Consumers[i]?=some x->K8 i x) (λe=>⟨e,λi x hi=>by omega⟩) (λj x z hx hI=>?_) (λ_ hI e=>⟨(hI e).1,λi x hx=>(hI e).2 i x (ab.1 hx).1 hx⟩);have hjl:=(ab.1 hx).1;have hcol:=hL.col;unfold Aet;refine eJ (P:=λv=>v=true->z=true->K8 j x) (c9 (λ_=>?_) λhg e1 e2=>(hg ⟨e2,trivial⟩).elim) λv hv=>c7 λe=>?_
    .rw[Bf];exact(Aag (by omega) (hN x (ae hx))).mono λv hv e _=>hv e
    .rw[ac]at e;refine⟨(hI e.1).1,λi w hi hw=>?_⟩;by_cases q:i=j
     .subst q;rw[hx]at hw;cases hw;exact hv e.2 e.1
     .exact(hI e.1).2 i w (by omega) hw
   .refine c6 (λ_=>eK rfl) λe=>?_;rw[aL]at e;obtain⟨e1,e2⟩:=hz e;obtain⟨⟨e3,e4,e5⟩,e6⟩:=hs e1;have hb:=hy e3;exact(hB ⟨hL.buses,hL.brl,hL.sol,hL.col,e4,e5,hb.br,hb.one,hb.any,hb.nodup,e6,e2⟩).elim
 .refine de ?_;refine(Asj hL).bind λy2 hy2=>?_;refine eJ (P:=λv=>v=true->y2=true->∀x,x∈b.Sources->K5 x) (c9 (λ_=>Af3.mono λv hv e _=>hv e) λhg e1 e2=>(hg ⟨by rw[e2];rfl,trivial⟩).elim) λy4 hy4=>?_;refine eJ (P:=λv=>v=true->y2=true->y4=true->∀(i:Nat) x,b.Consumers[i]?=some x->K8 i x) (c9 (λ_=>(Aaf hL.col hN).mono λv hv e _ _=>hv e) λhg e1 e2 e3=>(hg ⟨by rw[e2,e3];rfl,trivial⟩).elim) λy6 hy6=>?_;refine c6 (λ_=>eK rfl) λe=>?_;simp only[Aap,aA,aL,dG]at e;have hb:=hy2 e.1.1.1.1.1.1;exact(hB ⟨hL.buses,hL.brl,hL.sol,hL.col,by omega,by omega,hb.br,hb.one,hb.any,hb.nodup,hy4 e.1.1.1.1.1.2 e.1.1.1.1.1.1,hy6 e.1.1.1.1.2 e.1.1.1.1.1.1 e.1.1.1.1.1.2⟩).elim
set_option linter.unusedVariables false
set_option linter.unusedSimpArgs false
def M0(b:c_)(l:List dX)(m:Nat):Prop:=(∀x,x∈l.take m->Bc b x)/\∀(j:Nat) x y,j+1<m->l[j]?=some x->l[j+1]?=some y->Kh x y
variable{l:List dX}
theorem M0.step(h:M0 b l m){n:dX}(hn:l[m]?=some n)(h1:Bc b n)(h2:∀a,0<m->l[m-1]?=some a->Kh a n):M0 b l (m+1):=by
 refine⟨λy hy=>?_,λj a c hj ha hc=>?_⟩
 .rw[An hn,ao,aF]at hy;rcases hy with hy|rfl
  .exact h.1 y hy
  .exact h1
 .by_cases e:j+1=m
  .subst e;rw[hn]at hc;cases hc;exact h2 a (by omega) ha
  .exact h.2 j a c (by omega) ha hc
theorem M0.ok(h:M0 b l l.length)(hl:l.length<=32):Df b l:=
 ⟨hl,λx hx=>h.1 x (by rwa [am]),λj x y hx hy=>h.2 j x y (ab.1 hy).1 hx hy⟩
theorem Aqq(h:Ad b){x:dX}(hx:F79 x.Number 0 (w64 ((Iz b x.Kind)-1))=true):Bc b x:=by
 have h1:=h.buses;have h2:=h.brl;have h3:=h.sol;have h4:=h.col;have hsz:∃n,Iz b x.Kind=n/\0<=n/\n<=100/\((x.Kind=1/\n=b.Sources.length)\/(x.Kind=2/\n=b.Breakers.length)\/(x.Kind=3/\n=b.Buses)\/(x.Kind=4/\n=b.Consumers.length)\/n=0):=by unfold Iz;grind
 obtain⟨n,e,g0,g1,g2⟩:=hsz;rw[e,B_,Ah]at hx;unfold Bc;omega
theorem Agm(h:Ad b)(hl:l.length<=1000):Ok (vR b l) λy=>y=true->Df b l:=by
 unfold vR;refine eI (A:=λ_=>M0 b l l.length) (B:=λy=>y=false) ?_ (λ_ hA=>eK λe=>hA.ok (by rw[dF]at e;omega)) (λy hy=>eK λe=>by rw[hy]at e;cases e);refine c8 (I:=λm _=>M0 b l m) ⟨λn hn=>by simp at hn,λj a c hj=>by omega⟩ (λm n _ hn hI=>?_) (λ_ hI=>hI);have hml:=(ab.1 hn).1;unfold Wm Adl;rw[Bf];cases hin:F79 n.Number 0 (w64 ((Iz b n.Kind)-1)) with
 |false=>exact Ok.ret rfl
 |true=>
 have hpi:=Aqq h hin;cases m with
 |zero=>exact c7 (hI.step hn hpi λa h0=>by omega)
 | succ k=>
  obtain⟨a,ha⟩:∃a,l[k]?=some a:=⟨_,af (by omega)⟩;have e:w64 (((k+1:Nat):Int)-1)=(k:Int):=by rw[Ah];omega
  have hd:decide (((k+1:Nat):Int)>0)=true:=dK (by omega);rw[e,Al ha,hd];show Ok ((vE [K7 a.Kind n.Kind,K7 a.Number n.Number]).bind λy5=>_) _;rw[Atq,T6,T6];simp only[aa,aC,aO,aZ];refine c6 (λ_=>Ok.ret rfl) λhq=>c7 (hI.step hn hpi λa' _ ha'=>?_);rw[Nat.add_sub_cancel,ha]at ha';cases ha';rw[dG]at hq;unfold Kh;by_cases q1:a.Kind<n.Kind
  .exact .inl q1
  .by_cases q2:a.Kind>n.Kind
   .simp[q1,q2]at hq
   .have:a.Kind=n.Kind:=by omega
    refine .inr ⟨this,?_⟩;by_cases q3:a.Number<n.Number
    .exact q3
    .by_cases q4:a.Number>n.Number
     .simp[q1,q2,q3,q4]at hq
     .simp[q1,q2,q3,q4]at hq
theorem Akr(h:Ad b)(hl:p.Broken.length<=1000):Ok (foldI (Z0 b p) p.Broken 0 ()) (Bh (λ_=>M0 b p.Broken p.Broken.length) λy=>y=11):=by
 refine c8 (I:=λm _=>M0 b p.Broken m) ⟨λn hn=>by simp at hn,λj a c hj=>by omega⟩ (λm n _ hn hI=>?_) (λ_ hI=>hI);have hml:=(ab.1 hn).1;unfold Z0 Akj;rw[Bf];cases hin:F96 b n with
 |false=>exact Ok.ret rfl
 |true=>
 have hpi:=(Kc h n).1 hin;cases m with
 |zero=>exact c7 (hI.step hn hpi λa h0=>by omega)
 |succ k=>
  obtain⟨a,ha⟩:∃a,p.Broken[k]?=some a:=⟨_,af (by omega)⟩;have e:w64 (((k+1:Nat):Int)-1)=(k:Int):=by rw[Ah];omega
  have hd:decide (((k+1:Nat):Int)>0)=true:=dK (by omega);rw[e,Al ha,hd];show Ok (bif !(F97 a n)then _ else _) _;refine c6 (λ_=>Ok.ret rfl) λhq=>c7 (hI.step hn hpi λa' _ ha'=>?_);rw[Nat.add_sub_cancel,ha]at ha';cases ha';simp only[F97,aL,aE,ac,dF,dH]at hq;exact hq
structure Ak2(b:c_)(p:dZ):Prop where
 ncl:p.Closed.length=b.Breakers.length
 nso:p.Sources.length=b.Sources.length
 nli:p.Limits.length=b.Consumers.length
theorem Af5(x:ee):Oa x=true↔B7 x:=by unfold Oa B7;simp only[ac,B_];constructor <;> intro h <;> omega
theorem Aiw(h:Ad b)(hl:Ak2 b p)(hb:p.Broken.length<=1000):Ok (F56 b p) λe=>(e=0->Aa b p)/\(e=0\/e=11):=by
 have h1:=hl.ncl;have h2:=hl.nso;have h3:=hl.nli;have h4:=h.col;have h5:=h.sol;have h6:=h.brl;unfold F56;rw[K1 h];have c0:Zm b p=false:=by simp[Zm,h1,h2,h3]
 have c1:((0:Int) != 0)=false:=rfl;simp only[aa];rw[c1,c0];simp only[eQ];refine(Agm h hb).bind λy5 hy5=>?_;refine eJ (P:=λv=>y5=true->v=p.Sources.any λx=>!Oa x) (c9 (λ_=>?_) λhg e=>(hg ⟨e,trivial⟩).elim) λy7 hy7=>?_
 .rw[Yw _ (by omega)];exact eK λ_=>rfl
 refine eI (A:=λs=>s=true->(y5 && !y7)=true/\∀(i:Nat) n c,p.Limits[i]?=some n->b.Consumers[i]?=some c->(0<=n/\n<=c.Load)/\(Br b.Breakers p.Closed i).length<=1) (B:=λ(_:Unit)=>False) ?_ (λs hs=>?_) eN
 .refine c8 (I:=λj s=>s=true->(y5 && !y7)=true/\∀(i:Nat) n c,i<j->p.Limits[i]?=some n->b.Consumers[i]?=some c->(0<=n/\n<=c.Load)/\(Br b.Breakers p.Closed i).length<=1) (λe=>⟨e,λi n c hi=>by omega⟩) (λj x s hx hI=>?_) (λ_ hI e=>⟨(hI e).1,λi n c hn hc=>(hI e).2 i n c (ab.1 hn).1 hn hc⟩);have hj:=(ab.1 hx).1;obtain⟨c,hc⟩:∃c,b.Consumers[j]?=some c:=⟨_,af (by omega)⟩;unfold Aeo;rw[Bf,Al hc];refine eJ (P:=λv=>s=true->v=c) (c9 (λ_=>eK λ_=>rfl) λhg e=>(hg ⟨e,trivial⟩).elim) λy9 hy9=>?_;refine eJ (P:=λv=>(s&&F79 x 0 y9.Load)=true->v=(((Br b.Breakers p.Closed j).length:Nat):Int)) (c9 (λ_=>?_) λhg e=>(hg ⟨e,trivial⟩).elim) λy11 hy11=>c7 λe=>?_
  .rw[yX h h1];exact eK λ_=>rfl
  .rw[ac,dF]at e;have e11:=hy11 e.1;have e1:=e.1;rw[ac,B_]at e1;have e9:=hy9 e1.1;refine⟨(hI e1.1).1,λi n c' hi hn hc'=>?_⟩;by_cases q:i=j
   .subst q;rw[hx]at hn;cases hn;rw[hc]at hc';cases hc';rw[e9]at e1;exact⟨e1.2,by omega⟩
   .exact(hI e1.1).2 i n c' (by omega) hn hc'
 .refine c6 (λ_=>eK ⟨λe=>by omega,.inr rfl⟩) λe=>eK ⟨λ_=>?_,.inl rfl⟩;rw[aL]at e;obtain⟨e1,e2⟩:=hs e;rw[ac,aS]at e1;have e7:=(hy7 e1.1).symm.trans e1.2;rw[bq]at e7;refine⟨h1,h2,h3,λx hx=>?_,λi n c hn hc=>(e2 i n c hn hc).1,λi hi=>?_,hy5 e1.1⟩
  .have:=e7 x hx;exact(Af5 x).1 (by simpa using this)
  .exact(e2 i _ _ (af (by omega)) (af hi)).2
theorem Amg(h:Ad b)(hl:Ak2 b p)(hb:p.Broken.length<=1000):Ok (F54 b p) λe=>(e=0->Aa b p)/\(e=0\/e=11):=by
 have h1:=hl.ncl;have h2:=hl.nso;have h3:=hl.nli;have h4:=h.col;have h5:=h.sol;have h6:=h.brl;have bad:∀y:Int,y=11->Ok (some y) λe=>(e=0->Aa b p)/\(e=0\/e=11):=λy hy=>eK ⟨λe=>by omega,.inr hy⟩;unfold F54;rw[Je h];have c0:Mu b p=false:=by simp[Mu,h1,h2,h3]
 have c1:((0:Int) != 0)=false:=rfl;simp only[aa];rw[c1,c0];simp only[eQ];refine eI (A:=λ_=>∀x,x∈p.Sources->B7 x) (B:=λy=>y=11) ?_ (λ_ hrun=>?_) bad
 .refine c8 (I:=λj _=>∀x,x∈p.Sources.take j->B7 x) (λx hx=>by simp at hx) (λj x _ hx hI=>?_) (λ_ hI=>by rwa [am]at hI);unfold Aes;refine c6 (λ_=>Ok.ret rfl) λhq=>c7 λy hy=>?_;rw[An hx,ao,aF]at hy;rcases hy with hy|rfl
  .exact hI y hy
  .simp only[Akk,aA,aL,C5]at hq;unfold B7;omega
 refine eI (A:=λ_=>∀(i:Nat) n c,p.Limits[i]?=some n->b.Consumers[i]?=some c->0<=n/\n<=c.Load) (B:=λy=>y=11) ?_ (λ_ hlim=>?_) bad
 .refine c8 (I:=λj _=>∀(i:Nat) n c,i<j->p.Limits[i]?=some n->b.Consumers[i]?=some c->0<=n/\n<=c.Load) (λi n c hi=>by omega) (λj x _ hx hI=>?_) (λ_ hI i n c hn hc=>hI i n c (ab.1 hn).1 hn hc);have hj:=(ab.1 hx).1;obtain⟨c,hc⟩:∃c,b.Consumers[j]?=some c:=⟨_,af (by omega)⟩;unfold Aer;rw[Bf,Al hc];simp only[aa];refine c6 (λ_=>Ok.ret rfl) λhq=>c7 λi n c' hi hn hc'=>?_;by_cases q:i=j
  .subst q;rw[hx]at hn;cases hn;rw[hc]at hc';cases hc'
   rwa [aL,C5]at hq
  .exact hI i n c' (by omega) hn hc'
 refine c6 (λ_=>bad _ rfl) λhlen=>?_;rw[dG]at hlen;refine eI (Akr h hb) (λ_ hbrk=>?_) bad;refine eI (A:=λ_=>∀i,i<b.Consumers.length->(Br b.Breakers p.Closed i).length<=1) (B:=λy=>y=11) ?_ (λ_ hone=>eK ⟨λ_=>⟨h1,h2,h3,hrun,hlim,hone,hbrk.ok (by omega)⟩,.inl rfl⟩) bad;refine d6 (λs=>(0<=s/\s<=(b.Consumers.length:Int))/\∀i:Nat,(i:Int)<s->(Br b.Breakers p.Closed i).length<=1) (λs=>((b.Consumers.length:Int)-s).toNat) _ (0:Int) ⟨by omega,λi hi=>by omega⟩ (by omega) ?_;rintro i ⟨⟨g1,g2⟩,g3⟩;unfold Aeq Aki;refine c6 (λhq=>?_) (λhq=>db λk hk=>g3 k (by rw[dG]at hq;omega));simp only[dF]at hq;obtain⟨n,rfl⟩:∃n:Nat,i=(n:Int):=⟨i.toNat,by omega⟩;rw[S7 h];simp only[aa];have hz:ofL b (λx=>Gr 3 (n:Int) x)=((b.Breakers.zipIdx.filter λz=>z.1.Kind==3&&z.1.B==(n:Int)).map λz=>(z.2:Int)):=by unfold ofL;congr 1;exact bX λz _=>Xf 3 (by decide) n z.1
 have hzf:=Si n p.Closed b.Breakers p.Closed 0 rfl (by omega);rw[hz];have hin:∀z,z∈(b.Breakers.zipIdx.filter λz=>z.1.Kind==3&&z.1.B==(n:Int))->z.2<p.Closed.length:=by rintro⟨x,j⟩ hm;have:=(ar.1 hm).1;rw[cm]at this;have:=(ab.1 this).1;dsimp only;omega
 have hsz:(b.Breakers.zipIdx.filter λz=>z.1.Kind==3&&z.1.B==(n:Int)).length<=24:=aG (bk _ _) (by simpa using h6);generalize hm:(b.Breakers.zipIdx.filter λz=>z.1.Kind==3&&z.1.B==(n:Int))=m at hin hsz hzf;refine(c8 (xs:=m.map λz=>(z.2:Int)) (I:=λj s=>s=(((m.take j).filter λz=>p.Closed.getD z.2 false).length:Int)) (A:=λs=>s=((m.filter λz=>p.Closed.getD z.2 false).length:Int)) (B:=λ(_:Unit)=>False) rfl (λj x s hx hs=>?_) λs hs=>?_).inner (λs hs=>?_) eN
 .rw[aD,Option.map_eq_some_iff]at hx;obtain⟨z,hz,rfl⟩:=hx;have hzl:=hin z (ae hz);obtain⟨v,hv⟩:∃v,p.Closed[z.2]?=some v:=⟨_,af hzl⟩;have hg:p.Closed.getD z.2 false=v:=by simp[List.getD,hv]
  have hle:((m.take j).filter λz=>p.Closed.getD z.2 false).length<=24:=aG (bk _ _) (by simp;omega);unfold Aep;rw[Al hv,An hz,aX];simp only[aa];refine c6 (λhq=>c7 ?_) (λhq=>c7 ?_)
  .rw[hs,Ah,bt,hg,eT hq];simp
  .rw[hs,bt,hg,eU (ff hq)];simp
 .rw[au,am]at hs;exact hs
 .refine c6 (λ_=>Ok.ret rfl) λhq2=>c7 ⟨⟨⟨by rw[Ah];omega,by rw[Ah];omega⟩,λk hk=>?_⟩,by rw[Ah];omega⟩;rw[Ah]at hk;rw[dG]at hq2;by_cases e:k=n
  .rw[e];omega
  .exact g3 k (by omega)
theorem Od(hN:Ji b)(hb:p.Broken.length<=1000):∃e,F56 b p=some e/\F54 b p=some e/\(e=0->Ad b/\Aa b p):=by
 obtain⟨e,e1,e2,e3⟩:=zF hN;by_cases he:e=0
 .have hB:=e3 he;by_cases hL:Ak2 b p
  .by_cases hS:Aa b p
   .exact⟨0,A8 hB hS,Bi hB hS,λ_=>⟨hB,hS⟩⟩
   .obtain⟨x,x1,x2,x3⟩:=Aiw hB hL hb;obtain⟨y,y1,y2,y3⟩:=Amg hB hL hb;have hx:x=11:=x3.resolve_left λq=>hS (x2 q);have hy:y=11:=y3.resolve_left λq=>hS (y2 q);subst hx;subst hy;exact⟨11,x1,y1,λe=>by omega⟩
  .have hc:Mu b p=true:=by
    cases hc:Mu b p with
    |true=>rfl
    |false=>simp only[Mu,aA,dM]at hc;exact absurd ⟨by omega,by omega,by omega⟩ hL
   refine⟨8,?_,?_,λe=>by omega⟩
   .unfold F56;rw[K1 hB];show (bif Mu b p then _ else _)=_;rw[hc];rfl
   .unfold F54;rw[Je hB];show (bif Mu b p then _ else _)=_;rw[hc];rfl
 .refine⟨e,?_,?_,λq=>absurd q he⟩
  .unfold F56;rw[e1];simp only[aa,dR.2 he,eO]
  .unfold F54;rw[e2];simp only[aa,dR.2 he,eO]
set_option linter.unusedVariables false
set_option linter.unusedSimpArgs false
theorem Ao3(l m:fe)(h:l.length<=1000):Ok (F33 l m) λy=>y=true->l=m:=by
 unfold F33;refine c6 (λ_=>eK λe=>by cases e) λhc=>?_;simp only[dM]at hc;refine eI (A:=λ_=>∀j:Nat,j<l.length->l[j]?=m[j]?) (B:=λy=>y=false) ?_ (λ_ hA=>eK λ_=>bj λi=>?_) (λy hy=>eK λe=>by rw[hy]at e;cases e)
 .refine c8 (I:=λk _=>∀j:Nat,j<k->l[j]?=m[j]?) (λj hj=>by omega) (λj x z hx hI=>?_) λ_ hI=>hI;have hj:=(ab.1 hx).1;unfold Ae0;rw[Bf];obtain⟨y,hy⟩:∃y,m[j]?=some y:=⟨_,af (by omega)⟩;rw[Al hy];refine c6 (λ_=>Ok.ret rfl) λhq=>c7 λk hk=>?_;by_cases e:k=j
  .subst e;rw[hx,hy];simp at hq;rw[hq]
  .exact hI k (by omega)
 .by_cases hi:i<l.length
  .exact hA i hi
  .rw[bg (by omega),bg (by omega)]
theorem Aru(l m:fb)(h:l.length<=1000):Ok (F31 l m) λy=>y=true->l=m:=by
 unfold F31;refine c6 (λ_=>eK λe=>by cases e) λhc=>?_;simp only[dM]at hc;refine eI (A:=λ_=>∀j:Nat,j<l.length->l[j]?=m[j]?) (B:=λy=>y=false) ?_ (λ_ hA=>eK λ_=>bj λi=>?_) (λy hy=>eK λe=>by rw[hy]at e;cases e)
 .refine c8 (I:=λk _=>∀j:Nat,j<k->l[j]?=m[j]?) (λj hj=>by omega) (λj x z hx hI=>?_) λ_ hI=>hI;have hj:=(ab.1 hx).1;unfold Ae1;rw[Bf];obtain⟨y,hy⟩:∃y,m[j]?=some y:=⟨_,af (by omega)⟩;rw[Al hy];refine c6 (λ_=>Ok.ret rfl) λhq=>c7 λk hk=>?_;by_cases e:k=j
  .subst e;rw[hx,hy];simp at hq;rw[hq]
  .exact hI k (by omega)
 .by_cases hi:i<l.length
  .exact hA i hi
  .rw[bg (by omega),bg (by omega)]
theorem Yp(h:Mi p)(q:dZ):Ok (F26 p q) λy=>y=true->p=q:=by
 have h1:=h.c;have h2:=h.s;have h3:=h.l;have h4:=h.k;have bad:∀y:Bool,y=false->Ok (some y) λy=>y=true->p=q:=λy hy=>eK λe=>by rw[hy]at e;cases e
 have ext:∀{α:Type}{l m:List α},l.length=m.length->(∀j:Nat,j<l.length->l[j]?=m[j]?)->l=m:=@λα l m hl hA=>bj λi=>by
  by_cases hi:i<l.length
  .exact hA i hi
  .rw[bg (by omega),bg (by omega)]
 unfold F26;refine(Ao3 _ _ (by omega)).bind λy1 hy1=>eJ (P:=λv=>v=true->y1=true->p.Limits=q.Limits) (c9 (λ_=>(Aru _ _ (by omega)).mono λv hv e _=>hv e) λhg _ e=>(hg ⟨by rw[e];rfl,trivial⟩).elim) λy3 hy3=>c6 (λ_=>bad _ rfl) λhc=>?_;simp only[Ako,aA,dM,aL]at hc;refine eI (A:=λ_=>∀j:Nat,j<p.Sources.length->p.Sources[j]?=q.Sources[j]?) (B:=λy=>y=false) ?_ (λ_ hA=>eI (A:=λ_=>∀j:Nat,j<p.Broken.length->p.Broken[j]?=q.Broken[j]?) (B:=λy=>y=false) ?_ (λ_ hB=>eK λ_=>?_) bad) bad
 .refine d6 (λs=>(0<=s/\s<=(p.Sources.length:Int))/\∀j:Nat,(j:Int)<s->p.Sources[j]?=q.Sources[j]?) (λs=>((p.Sources.length:Int)-s).toNat) _ (0:Int) ⟨by omega,λj hj=>by omega⟩ (by omega) ?_;rintro i ⟨⟨h5,h6⟩,h7⟩;unfold Ae4 Akn;refine c6 (λhq=>?_) (λhq=>db λk hk=>h7 k (by rw[dG]at hq;omega));simp only[dF]at hq;refine(d7 h5 hq).bind λu hu=>(d7 h5 (by omega)).bind λv hv=>c6 (λ_=>Ok.ret rfl) λhq2=>c7 ⟨⟨⟨?_,?_⟩,λk hk=>?_⟩,?_⟩
  .rw[Ah];omega
  .rw[Ah];omega
  .rw[Ah]at hk;by_cases e:k=i.toNat
   .rw[e,hu,hv];simp only[Akm,bl,aL,ac,dH]at hq2;cases u;cases v;simp only at hq2;rw[hq2.1,hq2.2.1,hq2.2.2.1,hq2.2.2.2]
   .exact h7 k (by omega)
  .rw[Ah];omega
 .refine d6 (λs=>(0<=s/\s<=(p.Broken.length:Int))/\∀j:Nat,(j:Int)<s->p.Broken[j]?=q.Broken[j]?) (λs=>((p.Broken.length:Int)-s).toNat) _ (0:Int) ⟨by omega,λj hj=>by omega⟩ (by omega) ?_;rintro i ⟨⟨h5,h6⟩,h7⟩;unfold Ae3 Akl;refine c6 (λhq=>?_) (λhq=>db λk hk=>h7 k (by rw[dG]at hq;omega));simp only[dF]at hq;refine(d7 h5 hq).bind λu hu=>(d7 h5 (by omega)).bind λv hv=>c6 (λ_=>Ok.ret rfl) λhq2=>c7 ⟨⟨⟨?_,?_⟩,λk hk=>?_⟩,?_⟩
  .rw[Ah];omega
  .rw[Ah];omega
  .rw[Ah]at hk;by_cases e:k=i.toNat
   .rw[e,hu,hv];simp only[Ac6,bl,aL,ac,dH]at hq2;cases u;cases v;simp only at hq2;rw[hq2.1,hq2.2]
   .exact h7 k (by omega)
  .rw[Ah];omega
 .have e1:=hy1 hc.1.1.1;have e2:=ext (by omega) hA;have e3:=hy3 hc.1.1.2 hc.1.1.1;have e4:=ext (by omega) hB;cases p;cases q;simp only at e1 e2 e3 e4;rw[e1,e2,e3,e4]
theorem Af6{p:dY}{l:List d_}(h:l.length<=1000):Ok (Wg l p) λy=>y.1=false->∀x,x∈l->Ds p.Time x:=by
 unfold Wg Aav;refine eJ (P:=λy=>y.1<0->∀x,x∈l->Ds p.Time x) ?_ (λy hy=>eK λe=>hy (by rw[dG]at e;omega));refine eI (A:=λ_=>∀x,x∈l->Ds p.Time x) (B:=λy=>0<=y.1) ?_ (λs hs=>eK λ_=>hs) (λy hy=>eK λe=>by omega);refine c8 (I:=λj s=>s=(p.Time,p.Power.Closed,p.Power.Sources,p.Power.Limits,p.Power.Broken,p.Rosters,p.Events)/\∀x,x∈l.take j->Ds p.Time x) ⟨rfl,λx hx=>by simp at hx⟩ (λj x s hx hI=>?_) λs hI=>by rw[am]at hI;exact hI.2
 obtain⟨hs,hI⟩:=hI;have hj:=(ab.1 hx).1;subst hs;unfold X7;refine c6 (λ_=>Ok.ret ?_) (λhc=>c7 ⟨rfl,λy hy=>?_⟩)
 .rw[Bf];show (0:Int)<=(j:Int);omega
 .rw[An hx,ao,aF]at hy;rcases hy with hy|rfl
  .exact hI y hy
  .simp only[uK,G5,Wh,aA,aL,ac,dF]at hc;unfold Ds;omega
theorem vY(y:eo):F44 y=true↔Dw y:=by
 unfold F44;simp only[ac,dF];constructor
 .intro h;exact⟨by omega,by omega,by omega⟩
 .rintro⟨h1,h2,h3⟩;omega
theorem Ob(y:eo):F48 y=F44 y:=rfl
theorem yI(hN:Ji b){p:dY}(hb:p.Power.Broken.length<=1000)(hr:p.Rosters.length<=1000):∃e,F17 b y p=some e/\F18 b y p=some e/\(e=0->Ad b/\Dw y/\Iu b y p):=by
 obtain⟨e,e1,e2,e3⟩:=Od hN hb;by_cases he:e=0
 .obtain⟨hB,hS⟩:=e3 he;by_cases hP:Dw y/\Iu b y p
  .exact⟨0,Sd hB hP.1 hP.2,Ahy hB hP.1 hP.2,λ_=>⟨hB,hP⟩⟩
  have hbu:=hB.buses;unfold F17 F18;rw[Jp hB hS,Bi hB hS,I3 hB hS];simp only[aa];show ∃e,(bif V7 y p then _ else _)=some e/\(bif V7 y p then _ else _)=some e/\_;cases hc:V7 y p with
  |true=>exact⟨1,rfl,rfl,λe=>by omega⟩
  |false=>
  simp only[eQ];cases hn:((p.Rosters.length:Int) != b.Buses) with
  |true=>exact⟨8,rfl,rfl,λe=>by omega⟩
  |false=>
  simp only[V7,aA,dG,aL,Ob,vY]at hc;simp only[dM]at hn;have hno:¬(C1 b p.Power=p.Power.Sources/\∀x,x∈p.Rosters->Ds p.Time x):=λq=>hP ⟨hc.1.1,hS,q.1,by omega,by omega,q.2⟩;have hL:=hS.lens hB;have hLq:Mi (⟨p.Power.Closed,C1 b p.Power,p.Power.Limits,p.Power.Broken⟩:dZ):=⟨hL.c,by show (C1 b p.Power).length<=1000;rw[G9];exact hL.s,hL.l,hL.k⟩;refine⟨11,?_,?_,λe=>by omega⟩
  .refine de ?_;obtain⟨s1,s2⟩:=qG hL ⟨p.Power.Closed,C1 b p.Power,p.Power.Limits,p.Power.Broken⟩;rw[s1];simp only[eQ,aa];refine eJ (P:=λv=>v.1=false->G2 p.Power ⟨p.Power.Closed,C1 b p.Power,p.Power.Limits,p.Power.Broken⟩=true->∀x,x∈p.Rosters->Ds p.Time x) (c9 (λ_=>(Af6 hr).mono λv hv e _=>hv e) λhg _ e=>(hg ⟨by rw[e];rfl,trivial⟩).elim) λy8 hy8=>?_;refine c6 (λ_=>eK rfl) λq=>?_;rw[aA,aL]at q;exact(hno ⟨(congrArg dZ.Sources (s2 q.1)).symm,hy8 q.2 q.1⟩).elim
  .refine de ?_;refine eI (A:=λ_=>∀x,x∈p.Rosters->Ds p.Time x) (B:=λy=>y=11) ?_ (λ_ hA=>?_) (λy hy=>eK hy)
   .refine c8 (I:=λj _=>∀x,x∈p.Rosters.take j->Ds p.Time x) (λx hx=>by simp at hx) (λj x _ hx hI=>?_) λ_ hI=>by rwa [am]at hI
    unfold Afi;refine c6 (λ_=>Ok.ret rfl) λhq=>c7 λz hz=>?_;rw[An hx,ao,aF]at hz;rcases hz with hz|rfl
    .exact hI z hz
    .simp only[Akp,aA,dG]at hq;unfold Ds;omega
   .refine(Yp hLq p.Power).bind λv hv=>c6 (λ_=>eK rfl) λq=>?_;rw[aL]at q;exact(hno ⟨congrArg dZ.Sources (hv q),hA⟩).elim
 .refine⟨e,?_,?_,λq=>absurd q he⟩
  .unfold F17 F49;rw[e1];simp only[aa,dR.2 he,eO]
  .unfold F18;rw[e2];simp only[aa,dR.2 he,eO]
set_option linter.unusedVariables false
set_option linter.unusedSimpArgs false
theorem Aqv(hp:Mi p)(hq:Mi q):F26 p q=some (G2 q p):=by
 obtain⟨y,e1,e2⟩:=Yp hp q;obtain⟨s1,s2⟩:=qG hq p;by_cases e:p=q
 .subst e;rw[J4 hp];have:=yE hp;rw[s1]at this;exact this.symm
 .rw[e1];cases hy:y with
  |true=>exact(e (e2 hy)).elim
  |false=>
   cases hs:G2 q p with
   |true=>exact(e (s2 hs).symm).elim
   |false=>rfl
theorem Ahu(h:Ad b){p:dY}(hp:Aa b p.Power)(he:p.Events.length<=5000000)(a:a_) :
  F28 b p a=some (⟨p.Time,doP b p.Power p.Time a,p.Rosters,p.Events++doE b p.Power p.Time a⟩,doS b p.Power p.Time a,0):=by
 refine de ?_;have hact:=(uO h hp p.Time a).1;unfold F28;rw[Bi h hp,aa];refine c6 (λhc=>by simp at hc) λ_=>?_;have hm0:∃q:dZ,Ae2 b p a=some (.next (K0 b p.Power p.Time a,q.Closed,q.Sources,q.Limits,q.Broken))/\(K0 b p.Power p.Time a=0->q=Md b p.Power p.Time a):=by
  unfold Ae2 K0;cases hk:(a.Kind != 7) with
  |true=>rw[dR]at hk;rw[eU hk,eO,Ao9 h hp,hact];exact⟨_,rfl,λ_=>rfl⟩
  |false=>rw[dM]at hk;rw[eT hk];exact⟨⟨[],[],[],[]⟩,rfl,λe=>by omega⟩
 obtain⟨q,hm0,hq0⟩:=hm0;rw[hm0];simp only[andThen];rw[Am2 (by omega),aa];refine c6 (λhc=>eK ?_) λhc=>?_
 .simp only[dR,ne_eq]at hc;unfold doP doE doS;rw[eU hc,eU hc,eU hc]
 .simp only[dM]at hc;have hq:=hq0 hc;obtain⟨ho2,_,_⟩:=P0 h hp hc;have hdP:doP b p.Power p.Time a=J5 b q:=by unfold doP;rw[eT hc,hq]
  have hdE:doE b p.Power p.Time a=⟨p.Time,a,0⟩::(B3 b q).map (λx=>⟨p.Time,x,0⟩):=by unfold doE;rw[eT hc,hc,hq]
  have hdS:doS b p.Power p.Time a=[q]++Ea (B3 b q) q++(if G2 ((B3 b q).foldl ap q) (J5 b q)=true then [] else [J5 b q]):=by unfold doS On;rw[eT hc,hdP,←hq]
  rw[hdP,hdE,hdS,hc];rw[←hq]at ho2;have hpl:=(Hc h ho2).2.2;have hpo:=(Hc h ho2).2.1;obtain⟨_,htr⟩:=Abk h ho2;rw[Abj h ho2,aa];dsimp only;refine eI (A:=λz=>∃w,w=(B3 b q).foldl ap q/\z=(p.Time,p.Power.Closed,p.Power.Sources,p.Power.Limits,p.Power.Broken,p.Rosters,p.Events++[⟨p.Time,a,0⟩]++(B3 b q).map (λx=>⟨p.Time,x,0⟩),[q]++Ea (B3 b q) q,w.Closed,w.Sources,w.Limits,w.Broken)) (B:=λ(_:Unit)=>False) ?_ (λz hz=>?_) eN
  .refine c8 (I:=λj z=>∃w,w=((B3 b q).take j).foldl ap q/\z=(p.Time,p.Power.Closed,p.Power.Sources,p.Power.Limits,p.Power.Broken,p.Rosters,p.Events++[⟨p.Time,a,0⟩]++((B3 b q).take j).map (λx=>⟨p.Time,x,0⟩),[q]++Ea ((B3 b q).take j) q,w.Closed,w.Sources,w.Limits,w.Broken)) ⟨q,by simp,by simp[Ea]⟩ (λj x z ha hz=>?_) λz hz=>?_
   .obtain⟨w,hw,rfl⟩:=hz;have hj:=(ab.1 ha).1;have hain:=htr x (ae ha);have hok:Aa b w:=by rw[hw];exact Pg _ ho2 λx hx=>htr x (be hx)
    have hfo:((B3 b q).take (j+1)).foldl ap q=ap w x:=by rw[An ha,aN,←hw];rfl
    have hmp:((B3 b q).take (j+1)).map (λx=>(⟨p.Time,x,0⟩:dW))=((B3 b q).take j).map (λx=>⟨p.Time,x,0⟩)++[⟨p.Time,x,0⟩]:=by rw[An ha,bh];rfl
    have hint:Ea ((B3 b q).take (j+1)) q=Ea ((B3 b q).take j) q++[ap w x]:=by rw[An ha,Q9,←hw]
    have htl:((B3 b q).take j).length<=j:=by rw[aT];omega
    rw[hfo,hmp,hint];unfold Apz;dsimp only;rw[Dv h (p:=⟨w.Closed,w.Sources,w.Limits,w.Broken⟩) hok,aa];refine eI (A:=λz2=>z2=((ap w x).Closed,(ap w x).Limits)) (B:=λ(_:Unit)=>False) ?_ (λz2 hz2=>?_) eN
    .unfold Apy;have h1:=hok.ncl;have h2:=hok.nli;dsimp only;rcases hain with⟨k1,k2,k3⟩|⟨k1,⟨k2,k3⟩,_⟩
     .rw[dH.2 k1];refine(d7 k2 (by omega)).bind λ_ _=>(da k2).bind λc hc=>dj ?_;rw[hc];unfold ap;rw[eT k1];rfl
     .rw[dJ.2 (by omega:x.Kind≠2)];refine(d7 k2 (by omega)).bind λ_ _=>(da k2).bind λc hc=>dj ?_;rw[hc];unfold ap;rw[eU (by omega)];rfl
    .subst hz2;have hS:(ap w x).Sources=w.Sources/\(ap w x).Broken=w.Broken:=by unfold ap;split <;> exact⟨rfl,rfl⟩
     refine(d8 (by simp[H_];omega)).bind λs2 hs2=>?_;have hnote:=Am2 (p:=⟨p.Time,⟨p.Power.Closed,p.Power.Sources,p.Power.Limits,p.Power.Broken⟩,p.Rosters,p.Events++[⟨p.Time,a,0⟩]++((B3 b q).take j).map (λx=>⟨p.Time,x,0⟩)⟩) (by dsimp only;rw[aw,aw,au,cz];omega) x 0;have hnote2:Zy ⟨p.Time,⟨p.Power.Closed,p.Power.Sources,p.Power.Limits,p.Power.Broken⟩,p.Rosters,p.Events++[⟨p.Time,a,0⟩]++((B3 b q).take j).map (λx=>⟨p.Time,x,0⟩)⟩ x 0=_:=hnote;rw[hnote2,aa];refine c7 ⟨ap w x,rfl,?_⟩;dsimp only;have e3:(⟨(ap w x).Closed,w.Sources,(ap w x).Limits,w.Broken⟩:dZ)=ap w x:=by rw[←hS.1,←hS.2]
     rw[hs2,e3,hS.1,hS.2,aP (p.Events++_),aP [q]]
   .rw[am]at hz;exact hz
  .obtain⟨w,hw,rfl⟩:=hz;have hwok:Aa b w:=by rw[hw];exact Pg _ ho2 htr
   have hst:=Aqv (hpo.lens h) (hwok.lens h);refine eJ (P:=λy=>y=G2 w (J5 b q)) (d9 hst rfl) λy hy=>?_;subst hy;rw[←hw];have hil:=H_ (B3 b q) q;cases G2 w (J5 b q) with
   |true=>exact eK (by simp)
   |false=>exact(d8 (by simp[hil];omega)).bind λu hu=>eK (by rw[hu];simp)
theorem Asa(b:c_)(p:dY)(a:a_):Aa1 b p a=F28 b p a:=rfl
set_option linter.unusedVariables false
set_option linter.unusedSimpArgs false
def Ha(q:Nat->Bool)(m:Nat)(v:Int×Bool):Prop:=∃j:Nat,j<m/\q j=true/\(∀k,k<j->q k=false)/\v=((j:Int),true)
variable{q:Nat->Bool}
theorem Ha.unique{w:Int×Bool}(h:Ha q m v)(k:Ha q m w):v=w:=by
 obtain⟨i,h1,h2,h3,rfl⟩:=h;obtain⟨j,k1,k2,k3,rfl⟩:=k;have:i=j:=by
  rcases bM i j with e|e|e
  .rw[k3 i e]at h2;cases h2
  .exact e
  .rw[h3 j e]at k2;cases k2
 rw[this]
theorem Ha.not(h:Ha q m v)(k:∀j,j<m->q j=false):False:=by obtain⟨i,h1,h2,_⟩:=h;rw[k i h1]at h2;cases h2
theorem Aiu{f:Int->Option (Ctl Int (Int×Bool))}(hm:m<=1000000)(hf:∀j:Nat,j<m->f (j:Int)=bif q j then some (.ret ((j:Int),true)) else some (.next (w64 ((j:Int)+1))))(he:f (m:Int)=some (.brk (m:Int))) :
  Ok (whileN f 1152921504606846976 0) (Bh (λ_=>∀j,j<m->q j=false) (Ha q m)):=by
 refine d6 (λs=>∃j:Nat,s=(j:Int)/\j<=m/\∀k,k<j->q k=false) (λs=>m-s.toNat) _ (0:Int) ⟨0,rfl,by omega,λk hk=>by omega⟩ (by omega) ?_;rintro s ⟨j,rfl,h1,h2⟩;by_cases e:j=m
 .rw[e,he];exact db (by rw[←e];exact h2)
 .rw[hf j (by omega)];refine c6 (λhq=>Ok.ret ⟨j,by omega,hq,h2,rfl⟩) λhq=>c7 ?_;rw[Ah];exact⟨⟨j+1,by omega,by omega,λk hk=>by
   rcases Nat.lt_or_eq_of_le (Nat.le_of_lt_succ hk) with hk|rfl
   .exact h2 k hk
   .exact hq⟩,by omega⟩
theorem Anm{f:Nat->α->Unit->Option (Ctl Unit (Int×Bool))}{l:List α}(hf:∀(j:Nat) x,l[j]?=some x->f j x ()=bif q j then some (.ret ((j:Int),true)) else some (.next ())) :
  Ok (foldI f l 0 ()) (Bh (λ_=>∀j,j<l.length->q j=false) (Ha q l.length)):=by
 refine c8 (I:=λj _=>∀k,k<j->q k=false) (λk hk=>by omega) (λj x s hx hI=>?_) λs hs=>hs;have hj:=(ab.1 hx).1;rw[show f j x s=_ from hf j x hx];refine c6 (λhq=>Ok.ret ⟨j,hj,hq,hI,rfl⟩) λhq=>c7 λk hk=>?_;rcases Nat.lt_or_eq_of_le (Nat.le_of_lt_succ hk) with hk|rfl
 .exact hI k hk
 .exact hq
def Wd(q:Int->Bool)(l:fb)(v:Int×Bool):Prop:=∃(j:Nat)(s:Int),l[j]?=some s/\q s=true/\(∀(k:Nat) x,j<k->l[k]?=some x->q x=false)/\v=(s,true)
theorem Wd.unique{q:Int->Bool}{l:fb}{w:Int×Bool}(h:Wd q l v)(k:Wd q l w):v=w:=by
 obtain⟨i,s,h1,h2,h3,rfl⟩:=h;obtain⟨j,t,k1,k2,k3,rfl⟩:=k;have:i=j:=by
  rcases bM i j with e|e|e
  .rw[h3 j t e k1]at k2;cases k2
  .exact e
  .rw[k3 i s e h1]at h2;cases h2
 subst this;rw[h1]at k1;cases k1;rfl
theorem Ary(h:Ad b)(hp:Aa b p)(y:eo)(hn:n<b.Buses.toNat):∃v,Yd b y p (n:Int)=some v/\Afq b y p (n:Int)=some v:=by
 obtain⟨l1,_⟩:=Io h hp hn;obtain⟨r1,_⟩:=Gv h hp hn;have e:Afq b y p (n:Int)=Yd b y p (n:Int):=by unfold Yd Afq;rw[l1,r1,Pr h hp hn,Tc h hp hn,O0 h hp hn,Lv h hp hn];rfl
 obtain⟨v,hv,_⟩:=Ahn h hp y hn;exact⟨v,hv,by rw[e,hv]⟩
def Hw(b:c_)(y:eo)(p:dZ)(n:Nat)(s:Int):Bool:=!brk p.Broken 2 (Et b s)&&decide (w64 (100*Bg b p n)<=w64 (y.Stop*w64 (Db b p n-(b.Sources.getD s.toNat default).Rating)))
theorem Ag1(h:0<=s/\s<b.Sources.length):getI b.Sources s=some (b.Sources.getD s.toNat default):=by
 have:=Al (Aqn (b:=b) (i:=s.toNat) (by omega))
 rwa [ba h.1]at this
theorem Ave(h:Ad b)(hp:Aa b p)(y:eo)(hn:n<b.Buses.toNat) :
  ∃v,Ye b y p (n:Int)=some v/\Alg b y p (n:Int)=some v/\(v.2=true->0<=v.1/\v.1<b.Sources.length):=by
 have hbr:=hp.brk.len;have hsl:=(Nm h p (Av b p n)).2;obtain⟨l1,_⟩:=Io h hp hn;obtain⟨r1,_⟩:=Gv h hp hn;have l2:=Tc h hp hn;have r2:=O0 h hp hn;have hc2:Aoo y (isl b p (Av b p n),true)=Ada y (isl b p (Av b p n),true):=rfl;have hof:Ii b p (n:Int)=some (isl b p (Av b p n),true):=Il h hp hn;unfold Ye Alg;rw[Aah h hp hn,hof];simp only[aa,hc2];cases hc:Ada y (isl b p (Av b p n),true) with
 |true=>exact⟨(0,false),rfl,rfl,λe=>by cases e⟩
 |false=>
 simp only[eQ];generalize hl:(isl b p (Av b p n)).Sources=l at hsl;have hin:∀s,s∈l->0<=s/\s<b.Sources.length:=λs hs=>Kx (by rw[hl];exact hs);have hP:Ok (foldE (M6 b y p (n:Int)) (bw l) ()) (Bh (λ_=>∀s,s∈l->Hw b y p n s=false) (Wd (Hw b y p n) l)):=by
  refine Ok.foldE (λj _=>∀(k:Nat) x,l.length<=k+j->l[k]?=some x->Hw b y p n x=false) _ 0 _ (λk x hk hx=>?_) (λj x s hx hI=>?_) (λs hs=>?_)
  .rw[bg (by omega)]at hx;cases hx
  .rw[aH]at hI ⊢;have hj:j<l.length:=by
    have:=(ab.1 hx).1;unfold bw Fo at this;simpa using this
   have hxe:∃t,l[l.length-1-j]?=some t/\x=(((l.length-1-j:Nat):Int),t):=by refine⟨l[l.length-1-j]'(by omega),af (by omega),?_⟩;unfold bw Fo at hx;rw[aD,bT hj]at hx;rw[←bI hx];simp[List.getElem?_eq_getElem (show l.length-1-j<l.length by omega)]
   obtain⟨t,ht,rfl⟩:=hxe;have hti:=hin t (ae ht);have step:∀v,Hw b y p n t=false->v=(():Unit)->∀(k:Nat) x,l.length<=k+(j+1)->l[k]?=some x->Hw b y p n x=false:=λ_ hq _ k x hk hx=>by
    by_cases e:k=l.length-1-j
    .rw[e,ht]at hx;cases hx;exact hq
    .exact hI k x (by omega) hx
   unfold M6;rw[F0 h,aa,C3 (by omega),aa];refine c6 (λhb=>c7 (step _ ?_ rfl)) (λhb=>?_)
   .unfold Hw;rw[hb];rfl
   .rw[l1,r1,Ag1 hti];simp only[aa];refine c6 (λhc=>Ok.ret ⟨_,t,ht,?_,λk x hk hx=>hI k x (by omega) hx,rfl⟩) (λhc=>c7 (step _ ?_ rfl))
    .unfold Hw;rw[hb];exact hc
    .unfold Hw;rw[hb];exact hc
  .rw[aH]at hs;intro x hx;obtain⟨k,hk,e⟩:=List.mem_iff_getElem.1 hx;have hbl:(bw l).length=l.length:=by unfold bw Fo;simp
   exact hs k x (by omega) (by rw[af hk,e])
 have hR:Ok (whileN (vB b y p (n:Int) (isl b p (Av b p n),true)) 1152921504606846976 (w64 ((l.length:Int)-1))) (Bh (λ_=>∀s,s∈l->Hw b y p n s=false) (Wd (Hw b y p n) l)):=by
  rw[Ah];refine d6 (λs:Int=>(-1<=s/\s<l.length)/\∀(k:Nat) x,s<k->l[k]?=some x->Hw b y p n x=false) (λs=>(s+1).toNat) _ _ ⟨by omega,λk x hk hx=>?_⟩ (by omega) ?_
  .rw[bg (by omega)]at hx;cases hx
  rintro s ⟨⟨h1,h2⟩,hI⟩;unfold vB;rw[hl];refine c6 (λhc=>?_) (λhc=>db λx hx=>?_)
  .simp only[dF]at hc;obtain⟨t,ht⟩:∃t,l[s.toNat]?=some t:=⟨_,af (by omega)⟩;have hti:=hin t (ae ht);have hg:=Al ht;rw[ba (by omega)]at hg;obtain⟨F,f1,f2⟩:=Jq h hti.1 hti.2;have step:Hw b y p n t=false->((-1<=w64 (s-1)/\w64 (s-1)<l.length)/\∀(k:Nat) x,w64 (s-1)<k->l[k]?=some x->Hw b y p n x=false)/\(w64 (s-1)+1).toNat<(s+1).toNat:=λhq=>by
    rw[Ah];refine⟨⟨by omega,λk x hk hx=>?_⟩,by omega⟩;by_cases e:k=s.toNat
    .rw[e,ht]at hx;cases hx;exact hq
    .exact hI k x (by omega) hx
   rw[hg,aa,f1,aa,f2,aa,E5,aa];refine c6 (λhb=>c7 (step ?_)) (λhb=>?_)
   .unfold Hw;rw[hb];rfl
   .rw[l2,r2,Ag1 hti];simp only[aa];refine c6 (λhc=>Ok.ret ⟨_,t,ht,?_,λk x hk hx=>hI k x (by omega) hx,rfl⟩) (λhc=>c7 (step ?_))
    .unfold Hw;rw[hb];exact hc
    .unfold Hw;rw[hb];exact hc
  .simp only[dG]at hc;obtain⟨k,hk,e⟩:=List.mem_iff_getElem.1 hx;exact hI k x (by omega) (by rw[af hk,e])
 obtain⟨u,u1,u2⟩:=hP;obtain⟨w,w1,w2⟩:=hR;rw[u1,w1];have none1:(∀s,s∈l->Hw b y p n s=false)->∀v,¬Wd (Hw b y p n) l v:=λha v hv=>by obtain⟨j,s,h1,h2,_⟩:=hv;rw[ha s (ae h1)]at h2;cases h2
 match u,w,u2,w2 with
 |.ret v,.ret v',k1,k2=>have:=k1.unique k2;subst this;obtain⟨j,s,g1,_,_,rfl⟩:=k1;exact⟨(s,true),rfl,rfl,λ_=>hin s (ae g1)⟩
 |.ret v,.next _,k1,k2=>exact(none1 k2 v k1).elim
 |.ret v,.brk _,k1,k2=>exact(none1 k2 v k1).elim
 |.next _,.ret v,k1,k2=>exact(none1 k1 v k2).elim
 |.brk _,.ret v,k1,k2=>exact(none1 k1 v k2).elim
 |.next _,.next _,_,_=>exact⟨(0,false),rfl,rfl,λe=>by cases e⟩
 |.next _,.brk _,_,_=>exact⟨(0,false),rfl,rfl,λe=>by cases e⟩
 |.brk _,.next _,_,_=>exact⟨(0,false),rfl,rfl,λe=>by cases e⟩
 |.brk _,.brk _,_,_=>exact⟨(0,false),rfl,rfl,λe=>by cases e⟩
def Aal(b:c_)(p:dZ)(n i:Nat):Bool:=
 ((!brk p.Broken 1 (i:Int) && !brk p.Broken 2 (Et b (i:Int))) && !brk p.Broken 3 (b.Breakers.getD (brN b i) default).A)&&((isl b p (Av b p n)).Buses.any (· == (b.Breakers.getD (brN b i) default).A) && !(isl b p (Av b p n)).Sources.any (· == (i:Int)))
def I6(b:c_)(p:dZ)(n:Nat)(s:Int)(i:Nat):Bool:=(p.Sources.getD i default).State==s&&Aal b p n i
theorem Nf(h:i<p.Sources.length):p.Sources[i]?=some (p.Sources.getD i default):=by rw[af h];simp[List.getD,h]
theorem Ar0(h:Ad b)(hp:Aa b p)(hn:n<b.Buses.toNat)(hi:i<b.Sources.length) :
  Ut b p (isl b p (Av b p n)) (i:Int)=some (Aal b p n i&&(p.Sources.getD i default).State != 3):=by
 have hbr:=hp.brk.len;have hns:=hp.nso;obtain⟨e,hlt,_,_,hg⟩:=N0 h hi;have hl:=Nm h p (Av b p n);unfold Ut Aal;rw[F0 h,aa,e,Al hg,aa];simp only[C3 (show p.Broken.length<=1000 by omega),aa];rw[(Vv _ _ (by omega)).1,(Vv _ _ (by omega)).1,Al (Nf (p:=p) (i:=i) (by omega))];generalize brk p.Broken 1 (i:Int)=a1;generalize brk p.Broken 2 ((brN b i:Nat):Int)=a2;generalize brk p.Broken 3 (b.Breakers.getD (brN b i) default).A=a3;generalize (isl b p (Av b p n)).Buses.any (· == (b.Breakers.getD (brN b i) default).A)=a4;generalize (isl b p (Av b p n)).Sources.any (· == (i:Int))=a5;generalize (p.Sources.getD i default)=x;cases a1 <;> cases a2 <;> cases a3 <;> cases a4 <;> cases a5 <;> first|rfl|simp [Ag,C9]
theorem Awr(h:Ad b)(hp:Aa b p)(hn:n<b.Buses.toNat)(hi:i<b.Sources.length)(ha:(isl b p (Av b p n)).Buses.any (· == (b.Breakers.getD (brN b i) default).A)=true) :
  (isl b p (Av b p n)).Sources.any (· == (i:Int))=(Cd (Cy b p (i:Int))).2:=by
 rw[bv]at ha;obtain⟨a,ha,hae⟩:=ha;rw[dH]at hae;subst hae;obtain⟨k,hk,e⟩:=an.1 ha;obtain⟨_,h2⟩:=ar.1 hk;rw[dH]at h2;have hc:=T4 h hp hi;rw[aU,bv];constructor
 .rintro⟨m,hm,e2⟩;rw[dH]at e2;subst e2;obtain⟨j,e3,_,e4⟩:=Ph.1 hm;have:i=j:=by omega
  subst this;cases hh:Cy b p (i:Int) with
  |none=>rw[hh]at e4;cases e4
  |some c=>rfl
 .intro hf;refine⟨(i:Int),Ph.2 ⟨i,rfl,hi,?_⟩,by simp⟩;cases hh:Cy b p (i:Int) with
  |none=>rw[hh]at hf;cases hf
  | some c=>
   rw[hh]at hc;have hca:c=(b.Breakers.getD (brN b i) default).A:=by
    split at hc
    .exact bI hc
    .cases hc
   unfold Ff;rw[bF,hca,←e,aq,h2]
theorem Ard(h:Ad b)(hp:Aa b p)(hn:n<b.Buses.toNat) :
  ∃v,uX b p (n:Int)=some v/\Alf b p (n:Int)=some v/\(v.2=true->0<=v.1/\v.1<b.Sources.length):=by
 have hbr:=hp.brk.len;have hns:=hp.nso;have hsl:=h.sol;have hil:=Nm h p (Av b p n);have hof:Ii b p (n:Int)=some (isl b p (Av b p n),true):=Il h hp hn;unfold uX Alf;rw[Aah h hp hn,hof];simp only[aa,aC,eQ];have hP:∀s:Int,s≠3->Ok (foldI (Qi b p (isl b p (Av b p n),true) s) p.Sources 0 ()) (Bh (λ_=>∀j,j<p.Sources.length->I6 b p n s j=false) (Ha (I6 b p n s) p.Sources.length)):=λs hs=>Anm λj x hx=>by
  have hj:=(ab.1 hx).1;have hxe:p.Sources.getD j default=x:=by simp[List.getD,hx]
  unfold Qi I6;rw[Bf,hxe];cases hst:(x.State==s) with
  |false=>rfl
  |true=>rw[dH]at hst;have:Ag [(true,true)] (Ut b p (isl b p (Av b p n)) (j:Int)) default=Ut b p (isl b p (Av b p n)) (j:Int):=rfl;rw[this,Ar0 h hp hn (by omega),hxe,aa,hst,(dR (a:=s) (b:=3)).2 hs,bl,aZ]
 have hR:∀(s:Int)(j:Nat),j<p.Sources.length->∀(x:ee),p.Sources[j]?=some x->∃l br,I1 b 2 (j:Int)=some l/\getI l 0=some (Et b (j:Int))/\getI b.Breakers (Et b (j:Int))=some br /\
   (∀K:Bool->Option (Ctl Int (Int×Bool)),((Ag [((x.State==s&&(!(Cd (Cy b p (j:Int))).2)),true)] (Ep p 1 (j:Int)) default).bind λy15=>(Ag [((((x.State==s)&&(!(Cd (Cy b p (j:Int))).2))&&(!y15)),true)] (Ep p 2 (Et b (j:Int))) default).bind λy17=>(Ag [(((((x.State==s)&&(!(Cd (Cy b p (j:Int))).2))&&(!y15))&&(!y17)),true)] (Ep p 3 br.A) default).bind λy19=>(Ag [((((((x.State==s)&&(!(Cd (Cy b p (j:Int))).2))&&(!y15))&&(!y17))&&(!y19)),true)] (K6 (isl b p (Av b p n)).Buses br.A) default).bind λy21=>K ((((((x.State==s)&&(!(Cd (Cy b p (j:Int))).2))&&(!y15))&&(!y17))&&(!y19))&&y21))=K (I6 b p n s j)):=by
  intro s j hj x hx;obtain⟨l,f1,f2⟩:=Jq h (i:=(j:Int)) (by omega) (by omega);obtain⟨e,hlt,_,_,hg⟩:=N0 h (i:=j) (by omega);refine⟨l,_,f1,f2,by rw[e];exact Al hg,λK=>?_⟩;have hxe:p.Sources.getD j default=x:=by simp[List.getD,hx]
  have ho:=Awr h hp hn (i:=j) (by omega);unfold I6 Aal;rw[hxe,e];simp only[E5];rw[(Vv _ _ (by omega)).2];generalize brk p.Broken 1 (j:Int)=a1;generalize brk p.Broken 2 ((brN b j:Nat):Int)=a2;generalize brk p.Broken 3 (b.Breakers.getD (brN b j) default).A=a3;generalize (isl b p (Av b p n)).Buses.any (· == (b.Breakers.getD (brN b j) default).A)=a4 at ho;generalize (isl b p (Av b p n)).Sources.any (· == (j:Int))=a5 at ho;generalize (Cd (Cy b p (j:Int))).2=a6 at ho;generalize (x.State==s)=a7;cases a4 with
  |false=>cases a1 <;> cases a2 <;> cases a3 <;> cases a5 <;> cases a6 <;> cases a7 <;> rfl
  |true=>rw[ho rfl];cases a1 <;> cases a2 <;> cases a3 <;> cases a6 <;> cases a7 <;> rfl
 have key:∀(s:Int)(f:Int->Option (Ctl Int (Int×Bool))),(∀j:Nat,j<p.Sources.length->f (j:Int)=bif I6 b p n s j then some (.ret ((j:Int),true)) else some (.next (w64 ((j:Int)+1))))->f (p.Sources.length:Int)=some (.brk (p.Sources.length:Int)) ->
   Ok (whileN f 1152921504606846976 0) (Bh (λ_=>∀j,j<p.Sources.length->I6 b p n s j=false) (Ha (I6 b p n s) p.Sources.length)):=λs f h1 h2=>Aiu (by omega) h1 h2
 have g0:=key 2 (Wl b p (isl b p (Av b p n),true)) (λj hj=>by
  obtain⟨x,hx⟩:∃x,p.Sources[j]?=some x:=⟨_,Nf hj⟩;obtain⟨l,br,e1,e2,e3,e4⟩:=hR 2 j hj x hx;unfold Wl;have hc:Add p (j:Int)=true:=dK (by omega);rw[hc,eO,Al hx,aa,e1,aa,e2,aa,e3,aa,Gd h hp,aa];exact e4 λz=>bif z then some (.ret ((j:Int),true)) else some (.next (w64 ((j:Int)+1)))) (by
  unfold Wl;rw[show Add p (p.Sources.length:Int)=false from dL (by omega)];rfl)
 have g1:=key 1 (Wk b p (isl b p (Av b p n),true)) (λj hj=>by
  obtain⟨x,hx⟩:∃x,p.Sources[j]?=some x:=⟨_,Nf hj⟩;obtain⟨l,br,e1,e2,e3,e4⟩:=hR 1 j hj x hx;unfold Wk;have hc:Adc p (j:Int)=true:=dK (by omega);rw[hc,eO,Al hx,aa,e1,aa,e2,aa,e3,aa,Gd h hp,aa];exact e4 λz=>bif z then some (.ret ((j:Int),true)) else some (.next (w64 ((j:Int)+1)))) (by
  unfold Wk;rw[show Adc p (p.Sources.length:Int)=false from dL (by omega)];rfl)
 have g2:=key 0 (Wj b p (isl b p (Av b p n),true)) (λj hj=>by
  obtain⟨x,hx⟩:∃x,p.Sources[j]?=some x:=⟨_,Nf hj⟩;obtain⟨l,br,e1,e2,e3,e4⟩:=hR 0 j hj x hx;unfold Wj;have hc:uL p (j:Int)=true:=dK (by omega);rw[hc,eO,Al hx,aa,e1,aa,e2,aa,e3,aa,Gd h hp,aa];exact e4 λz=>bif z then some (.ret ((j:Int),true)) else some (.next (w64 ((j:Int)+1)))) (by
  unfold Wj;rw[show uL p (p.Sources.length:Int)=false from dL (by omega)];rfl)
 have pr:∀(s:Int)(o o':Option (Ctl Unit (Int×Bool)))(w:Option (Ctl Int (Int×Bool))),Ok o (Bh (λ_=>∀j,j<p.Sources.length->I6 b p n s j=false) (Ha (I6 b p n s) p.Sources.length))->Ok w (Bh (λ_=>∀j,j<p.Sources.length->I6 b p n s j=false) (Ha (I6 b p n s) p.Sources.length)) ->
   (∃i:Nat,i<p.Sources.length/\o=some (.ret ((i:Int),true))/\w=some (.ret ((i:Int),true)))\/((o=some (.next ())\/o=some (.brk ()))/\∃z,w=some (.next z)\/w=some (.brk z)):=by
  rintro s o o' w ⟨u,rfl,hu⟩ ⟨v,rfl,hv⟩
  match u,v,hu,hv with
  |.ret a,.ret c,k1,k2=>have:=k1.unique k2;subst this;obtain⟨i,hi,_,_,rfl⟩:=k1;exact .inl ⟨i,hi,rfl,rfl⟩
  |.ret a,.next _,k1,k2=>exact(k1.not k2).elim
  |.ret a,.brk _,k1,k2=>exact(k1.not k2).elim
  |.next _,.ret a,k1,k2=>exact(Ha.not k2 k1).elim
  |.brk _,.ret a,k1,k2=>exact(Ha.not k2 k1).elim
  |.next _,.next z,_,_=>exact .inr ⟨.inl rfl,z,.inl rfl⟩
  |.next _,.brk z,_,_=>exact .inr ⟨.inl rfl,z,.inr rfl⟩
  |.brk _,.next z,_,_=>exact .inr ⟨.inr rfl,z,.inl rfl⟩
  |.brk _,.brk z,_,_=>exact .inr ⟨.inr rfl,z,.inr rfl⟩
 have hl0:∀s z,uW b p (isl b p (Av b p n),true) z s ()=Go.SL.andThen (foldI (Qi b p (isl b p (Av b p n),true) s) p.Sources 0 ()) (λv=>some (.ret v)) λ_=>some (.next ()):=λ_ _=>rfl;simp only[foldI,hl0];rcases pr 2 _ none _ (hP 2 (by omega)) g0 with⟨i,hi,e1,e2⟩|⟨e1,z,e2⟩
 .rw[e1,e2];exact⟨((i:Int),true),rfl,rfl,λ_=>by dsimp only;omega⟩
 rcases pr 1 _ none _ (hP 1 (by omega)) g1 with⟨i,hi,f1,f2⟩|⟨f1,z2,f2⟩
 .rcases e1 with e1|e1 <;> rcases e2 with e2|e2 <;> rw[e1,e2,f1,f2] <;> exact⟨((i:Int),true),rfl,rfl,λ_=>by dsimp only;omega⟩
 rcases pr 0 _ none _ (hP 0 (by omega)) g2 with⟨i,hi,k1,k2⟩|⟨k1,z3,k2⟩
 .rcases e1 with e1|e1 <;> rcases e2 with e2|e2 <;> rcases f1 with f1|f1 <;> rcases f2 with f2|f2 <;> rw[e1,e2,f1,f2,k1,k2] <;> exact⟨((i:Int),true),rfl,rfl,λ_=>by dsimp only;omega⟩
 .rcases e1 with e1|e1 <;> rcases e2 with e2|e2 <;> rcases f1 with f1|f1 <;> rcases f2 with f2|f2 <;> rcases k1 with k1|k1 <;> rcases k2 with k2|k2 <;> rw[e1,e2,f1,f2,k1,k2] <;> exact⟨(0,false),rfl,rfl,λe=>by cases e⟩
end Go.Proofs.YtkcebipolafapaaGreat
