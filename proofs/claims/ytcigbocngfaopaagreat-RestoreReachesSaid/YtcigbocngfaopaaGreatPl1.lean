import Derived.Test.YtcigbocngfaopaaGreatPl0
namespace Go.Proofs.YtcigbocngfaopaaGreat
open Go.SL
theorem A22 (x:Int):Jo x=Fe x:=by
 have hr:=Mr (x:=x) (n:=3600) (by omega)
 unfold Jo Fe
 rw [A5 (by omega)]
 by_cases h:Int.tmod x 3600<0
 ·rw [dC h,cond_true,cF (by omega)]
  omega
 ·rw [dD h,cond_false,cF (by omega)]
  omega
theorem Agl {α:Type} {l:List α} {x:α} {j:Nat} (h:l[j]? = some x):l.set j x=l:=by
 obtain⟨hj,e⟩:=aa.1 h
 rw [←e];exact List.set_getElem_self hj
def Da (x:Ag):Ag:=if x.State=2 then ⟨x.State,x.Since,x.Ar,Fe (w64 (x.Phase+w64 (36*w64 (x.Ar-5000))))⟩ else x
theorem Amn {α:Type} {l m:List α} {x:α} {v:α} {j:Nat} (h:m[j]? = some x) (hl:l.length=m.length):(l.take j++m.drop j).set j v=l.take j++v::m.drop (j+1):=by
 have hj:=(aa.1 h).1
 rw [List.set_append_right _ _ (by simp;omega),cK hj]
 have:j-(l.take j).length=0:=by simp;omega
 rw [this];rfl
theorem A4a {α:Type} (f:α->α) {l:List α} {x:α} {j:Nat} (h:l[j]? = some x):(((l.map f).take j++l.drop j)[j]? = some x)/\(l.map f).take (j+1)++l.drop (j+1)=((l.map f).take j++l.drop j).set j (f x):=by
 have hj:=(aa.1 h).1
 constructor
 ·rw [aD (by simp;omega)]
  have:j-((l.map f).take j).length=0:=by simp;omega
  rw [this,ar];exact h
 ·rw [Amn h (by simp),Bi (x:=f x) (by simp [h]),aY];rfl
theorem A2c {b:Aa} (h:Ap b) {p:Ab} (hp:Ao b p):Z4 b p=some (⟨p.Ae,p.Ac.map Da,p.Am,p.Ai⟩,0):=by
 have hs:=h.sol
 have hn:=hp.nso
 refine d5 ?_
 unfold Z4
 rw [B4 h hp,C3 h hp]
 simp only [ab]
 refine c4 (λ hc=>by simp at hc) (λ _=>?_)
 refine Ok.andThen (A:=λ s=>s=p.Ac.map Da) (B:=λ (_:Unit)=>False) ?_ (λ s hs=>Ok.pure (by rw [hs])) (λ _ h=>h.elim)
 refine c6 (I:=λ j s=>s=(p.Ac.map Da).take j++p.Ac.drop j) rfl (λ j x s hx hs=>?_) λ s hs=>?_
 ·obtain⟨m1,m2⟩:=A4a Da hx
  have hj:=(aa.1 hx).1
  subst hs
  unfold Xv
  rw [Co (by omega),m2]
  refine c4 (λ hc=>?_) (λ hc=>c5 ?_)
  ·rw [A8 m1]
   simp only [ab]
   rw [Ns (by simp;omega)]
   refine c5 ?_
   unfold Da
   rw [if_pos (by simpa using hc)]
  ·unfold Da
   rw [if_neg (by simpa using hc)]
   exact (Agl m1).symm
 ·rw [hs,List.drop_length,aH,bS (by simp)]
def Ig (b:Aa) (C:List Bool) (i:Nat):Bool:=!C.getD (Fl b (i:Int)).toNat false
def E_ (b:Aa) (C:List Bool) (t:Int) (x:Ag) (i:Nat):Ag:=
 if (x.State=1/\Ig b C i=true)/\w64 (x.Since+(b.Ac.getD i default).Start)<=w64 (t+1) then ⟨2,x.Since,x.Ar,x.Phase⟩ else x
def Li (b:Aa) (C:List Bool) (t:Int) (l:List Ag) (j:Nat):List Ag:=((l.zipIdx.map λ z=>E_ b C t z.1 z.2).take j)++l.drop j
theorem Aoo {b:Aa} {C:List Bool} {t:Int} {l:List Ag} {j:Nat} {x:Ag} (h:l[j]? = some x):(Li b C t l j)[j]? = some x/\Li b C t l (j+1)=(Li b C t l j).set j (E_ b C t x j)/\(Li b C t l j).length=l.length:=by
 have hj:=(aa.1 h).1
 unfold Li
 refine⟨?_,?_,by simp;omega⟩
 ·rw [aD (by simp;omega)]
  have:j-((l.zipIdx.map λ z=>E_ b C t z.1 z.2).take j).length=0:=by simp;omega
  rw [this,ar];exact h
 ·rw [Amn h (by simp),Bi (x:=E_ b C t x j) (by simp [h]),aY];rfl
def wtS (b:Aa) (p:Ab) (t:Int):Ab:=⟨p.Ae,Li b p.Ae t (p.Ac.map Da) (p.Ac.map Da).length,p.Am,p.Ai⟩
theorem Yq {b:Aa} {i:Nat} (h:i<b.Ac.length):b.Ac[i]? = some (b.Ac.getD i default):=by
 rw [af h];simp [List.getD,List.getElem?_eq_getElem h]
theorem zA {b:Aa} (h:Ap b) {p:Ab} (hc:p.Ae.length=b.Ad.length) (t:Int) {i:Nat} (hi:i<b.Ac.length):Jc ⟨b,p,t⟩ (i:Int)=some (Ig b p.Ae i):=by
 obtain⟨j,x,e,hx,_⟩:=Kl h (i:=(i:Int)) (by omega) (by omega)
 have hj:=(aa.1 hx).1
 unfold Jc Ig
 rw [I0 h,e,ah]
 simp only [ab]
 have hg:p.Ae[j]? = some (p.Ae.getD j false):=by
  rw [af (by omega)];simp [List.getD,List.getElem?_eq_getElem (show j<p.Ae.length by omega)]
 rw [A8 hg];rfl
theorem Amg {b:Aa} (h:Ap b) {p:Ab} (hp:Ao b p) (t:Int):Ko ⟨b,p,t⟩=some ⟨b,wtS b p t,t⟩:=by
 have hs:=h.sol
 have hn:=hp.nso
 refine d5 ?_
 unfold Ko
 rw [A2c h hp]
 simp only [ab]
 refine Ok.andThen (A:=λ s=>s.2=Li b p.Ae t (p.Ac.map Da) (p.Ac.map Da).length) (B:=λ (_:Unit)=>False) ?_ (λ s hs=>Ok.pure (by rw [hs];rfl)) (λ _ h=>h.elim)
 refine c8 (λ s=>∃ j:Nat,s.1=(j:Int)/\j<=p.Ac.length/\s.2=Li b p.Ae t (p.Ac.map Da) j) (λ s=>(100-s.1).toNat) _ _ ⟨0,rfl,by omega,rfl⟩ (by dsimp only;omega) ?_
 rintro⟨z,s⟩ ⟨j,hz,hj,hsr⟩
 dsimp only at hz hsr
 subst hz
 unfold Pm Zd
 dsimp only
 refine c4 (λ hq=>?_) (λ hq=>cX ?_)
 ·simp only [dx,ax] at hq
  have hlt:j<p.Ac.length:=by omega
  obtain⟨x,hx⟩:∃ x,(p.Ac.map Da)[j]? = some x:=⟨_,af (by simp;omega)⟩
  obtain⟨r1,r2,r3⟩:=Aoo (b:=b) (C:=p.Ae) (t:=t) hx
  rw [←hsr] at r1 r2 r3
  simp only [ax] at r3
  rw [A8 r1]
  simp only [ab]
  have ho:=zA h (p:=⟨p.Ae,s,p.Am,p.Ai⟩) hp.ncl t (i:=j) (by omega)
  have e1:w64 ((j:Int)+1)=((j+1:Nat):Int):=by rw [A5 (by omega)];omega
  rw [e1]
  have nxt:∀ v,v=E_ b p.Ae t x j->(∃ k:Nat,((j+1:Nat):Int)=(k:Int)/\k<=p.Ac.length/\s.set j v=Li b p.Ae t (p.Ac.map Da) k):=λ v hv=>⟨j+1,rfl,by omega,by rw [hv,r2]⟩
  have stay:x=E_ b p.Ae t x j->s=s.set j (E_ b p.Ae t x j):=λ hv=>by
   rw [←hv];exact (Agl r1).symm
  cases hs1:(x.State==1) with
  | false=>
   have hno:x=E_ b p.Ae t x j:=by
    unfold E_;rw [if_neg (λ hh=>by simp [hh.1.1] at hs1)]
   refine Ok.bind (P:=λ _=>True) (d6 (λ hg=>absurd hg.1 (by simp)) λ _=>trivial) λ _ _=>?_
   refine Ok.bind (P:=λ _=>True) (d6 (λ hg=>absurd hg.1 (by simp)) λ _=>trivial) λ _ _=>?_
   refine c4 (λ hc=>by simp [Oa,hs1] at hc) (λ _=>c5 ⟨?_,by dsimp only;omega⟩)
   dsimp only
   rw [stay hno]
   exact nxt _ rfl
  | true=>
   refine Ok.bind (P:=λ v=>v=Ig b p.Ae j) (c7 ho rfl) λ v hv=>?_
   subst hv
   cases ho1:Ig b p.Ae j with
   | false=>
    have hno:x=E_ b p.Ae t x j:=by
     unfold E_;rw [if_neg (λ hh=>by simp [hh.1.2] at ho1)]
    refine Ok.bind (P:=λ _=>True) (d6 (λ hg=>absurd hg.1 (by simp)) λ _=>trivial) λ _ _=>?_
    refine c4 (λ hc=>by simp [Oa] at hc) (λ _=>c5 ⟨?_,by dsimp only;omega⟩)
    dsimp only
    rw [stay hno]
    exact nxt _ rfl
   | true=>
    refine Ok.bind (P:=λ v=>v=b.Ac.getD j default) (c7 (A8 (Yq (by omega))) rfl) λ v hv=>?_
    subst hv
    refine c4 (λ hc=>?_) (λ hc=>c5 ⟨?_,by dsimp only;omega⟩)
    ·simp only [Oa,hs1,bA,aM,dx] at hc
     rw [Ns (by omega)]
     refine c5 ⟨?_,by dsimp only;omega⟩
     exact nxt _ (by unfold E_;rw [if_pos ⟨⟨by simpa using hs1,ho1⟩,hc⟩])
    ·simp only [Oa,hs1,bA,aM,dy] at hc
     have hno:x=E_ b p.Ae t x j:=by
      unfold E_;rw [if_neg (λ hh=>hc hh.2)]
     dsimp only
     rw [stay hno]
     exact nxt _ rfl
 ·simp only [dy,ax] at hq
  have:j=(p.Ac.map Da).length:=by simp;omega
  dsimp only
  rw [hsr,this]
theorem A3y {b:Aa} (h:Ap b) {P:Ab} (hp:Ao b P) {T:Int} (hT:0<=T/\T<=2147483648):wtP b P T=wtS b P T:=by
 obtain⟨_,_,w,hw,e⟩:=Afc h hp hT
 rw [Amg h hp] at hw
 cases hw
 exact e.symm
def brN (b:Aa) (i:Nat):Nat:=(Fl b (i:Int)).toNat
theorem Dv {b:Aa} (h:Ap b) {i:Nat} (hi:i<b.Ac.length):Fl b (i:Int)=(brN b i:Int)/\brN b i<b.Ad.length/\(b.Ad.getD (brN b i) default).Kind=2/\(b.Ad.getD (brN b i) default).B=(i:Int)/\b.Ad[brN b i]? = some (b.Ad.getD (brN b i) default):=by
 obtain⟨j,x,e,hx,hk,hB,_⟩:=Kl h (i:=(i:Int)) (by omega) (by omega)
 have hj:=(aa.1 hx).1
 have:brN b i=j:=by unfold brN;omega
 rw [this,Cc hx]
 exact⟨e,hj,hk,hB,hx⟩
theorem Sx {b:Aa} (h:Ap b) {i j:Nat} (hi:i<b.Ac.length) {x:Ah} (hx:b.Ad[j]? = some x) (hk:x.Kind=2) (hB:x.B=(i:Int)):j=brN b i:=by
 obtain⟨e,hlt,k2,kB,hg⟩:=Dv h hi
 have hm:∀ {m:Nat} {y:Ah},b.Ad[m]? = some y->y.Kind=2->y.B=(i:Int)->(y,m)∈ofZ b 2 (i:Int):=fun {m y} hy h1 h2=>ao.2 ⟨by rw [bH];exact hy,by simp [h1,h2]⟩
 have hlen:(ofZ b 2 (i:Int)).length=1:=by
  have:=Afa (λ x:Ah=>x.Kind==2&&x.B==(i:Int)) b.Ad 0
  rw [←h.one i hi]
  exact this
 have m1:=hm hx hk hB
 have m2:=hm hg k2 kB
 match hz:ofZ b 2 (i:Int),hlen,m1,m2 with
 | [v],_,m1,m2=>
  rw [aP] at m1 m2
  rw [←m2] at m1
  exact (Prod.mk.inj m1).2
theorem D5 {b:Aa} (h:Ap b) {p:Ab} (hp:Ao b p) {i:Nat} (hi:i<b.Ac.length):Ce b p (i:Int)=if (p.Ac.getD i default).State=2/\p.Ae.getD (brN b i) false=true then some (b.Ad.getD (brN b i) default).A else none:=by
 obtain⟨e,hlt,k2,kB,hg⟩:=Dv h hi
 have hn:=hp.nso
 have hz:∀ z,z∈ofZ b 2 (i:Int)->z.2=brN b i/\z.1=b.Ad.getD (brN b i) default:=λ z hz=>by
  have h1:=Qc hz
  have h2:=(ao.1 hz).2
  simp only [ac,dz] at h2
  have:=Sx h hi h1 h2.1 h2.2
  rw [this] at h1
  rw [hg] at h1
  exact⟨this,(bg h1).symm⟩
 have hin:(b.Ad.getD (brN b i) default,brN b i)∈ofZ b 2 (i:Int):=ao.2 ⟨by rw [bH];exact hg,by
  rw [ac,dz,dz];exact⟨k2,kB⟩⟩
 have hled:B1 b p 2 (i:Int)=if p.Ae.getD (brN b i) false=true then some (b.Ad.getD (brN b i) default).A else none:=by
  rw [U4 hp.ncl]
  by_cases hc:p.Ae.getD (brN b i) false=true
  ·rw [if_pos hc]
   cases hf:(ofZ b 2 (i:Int)).find? λ z=>p.Ae.getD z.2 false with
   | none=>
    rw [List.find?_eq_none] at hf
    exact absurd hc (hf _ hin)
   | some z=>
    rw [(hz z (cH hf)).2.symm];rfl
  ·rw [if_neg hc]
   cases hf:(ofZ b 2 (i:Int)).find? λ z=>p.Ae.getD z.2 false with
   | none=>rfl
   | some z=>
    have h1:=List.find?_some hf
    rw [(hz z (cH hf)).1] at h1
    exact absurd h1 hc
 unfold Ce
 rw [ah,hled]
 by_cases hs:(p.Ac.getD i default).State=2
 ·rw [if_pos ⟨by omega,by omega,hs⟩]
  simp only [hs,true_and]
 ·rw [if_neg (λ hh=>hs hh.2.2),if_neg (λ hh=>hs hh.1)]
def tog (b:Aa) (p:Ab) (i j:Nat):Prop:=∃ a c:Int,Ce b p (i:Int)=some a/\Ce b p (j:Int)=some c/\(groups b p).getD a.toNat 0=(groups b p).getD c.toNat 0
def B0 (x y:Ag):Prop:=x.Ar=y.Ar/\x.Phase=y.Phase
theorem A2f {b:Aa} (h:Ap b) {p:Ab} {i j:Nat} (hi:i<b.Ac.length) (hj:j<b.Ac.length) (t:tog b p i j):∃ f,isl b p f∈Bg b p/\(i:Int)∈(isl b p f).Ac/\(j:Int)∈(isl b p f).Ac:=by
 obtain⟨a,c,h1,h2,h3⟩:=t
 have ha:=Fb h h1
 have hg:=E6 h p (n:=a.toNat) (by omega)
 refine⟨((groups b p).getD a.toNat 0).toNat,?_,Gw.2 ⟨i,rfl,hi,?_⟩,Gw.2 ⟨j,rfl,hj,?_⟩⟩
 ·rw [Gb h]
  exact an.2 ⟨_,ao.2 ⟨aI.2 (by omega),Iv h p (by omega)⟩,rfl⟩
 ·rw [h1];show some _=some _;rw [hg.2.2]
 ·rw [h2];show some ((groups b p).getD c.toNat 0)=some _;rw [←h3,hg.2.2]
theorem And {b:Aa} {p:Ab} {f:Nat} {i j:Int} (hi:i∈(isl b p f).Ac) (hj:j∈(isl b p f).Ac):tog b p i.toNat j.toNat:=by
 obtain⟨k,rfl,_,e1⟩:=Gw.1 hi
 obtain⟨m,rfl,_,e2⟩:=Gw.1 hj
 rw [ah,ah]
 unfold Dw at e1 e2
 rw [cG] at e1 e2
 obtain⟨a,h1,h2⟩:=e1
 obtain⟨c,h3,h4⟩:=e2
 exact⟨a,c,h1,h3,by rw [h2,h4]⟩
theorem Mc {b:Aa} (h:Ap b) {p:Ab}:Di b p↔∀ i j,i<b.Ac.length->j<b.Ac.length->tog b p i j->B0 (p.Ac.getD i default) (p.Ac.getD j default):=by
 constructor
 ·intro ha i j hi hj t
  obtain⟨f,hf,h1,h2⟩:=A2f h hi hj t
  have:=ha _ hf _ _ h1 h2
  rw [ah,ah] at this
  exact this
 ·intro ha x hx i j hi hj
  unfold Bg at hx
  obtain⟨f,_,rfl⟩:=an.1 (ao.1 hx).1
  have b1:=Jw hi
  have b2:=Jw hj
  exact ha _ _ (by omega) (by omega) (And hi hj)
structure Sub (b:Aa) (q p:Ab):Prop where
 con:∀ i,i<b.Ac.length->(q.Ac.getD i default).State=2->q.Ae.getD (brN b i) false=true->(p.Ac.getD i default).State=2/\p.Ae.getD (brN b i) false=true
 tie:∀ (k:Nat) x,b.Ad[k]? = some x->x.Kind=1->q.Ae.getD k false=true->p.Ae.getD k false=true
theorem Ma {L M:Dg} (h:∀ i j,Tie L i j->Tie M i j) {i j:Nat} (c:Bm L i j):Bm M i j:=by
 obtain⟨r,c⟩:=c
 induction c with
 | refl=>exact .refl M i
 | stay _ ih=>exact ih
 | step _ t ih=>exact ih.tie (h _ _ t)
theorem Ae9 {α:Type}:∀ {l:List α} {c:List Bool} {z:α×Bool},z∈l.zip c->∃ k:Nat,l[k]? = some z.1/\c[k]? = some z.2
 | [],_,_,h=>by simp at h
 | _::_,[],_,h=>by simp at h
 | x::l,v::c,z,h=>by
  rw [bF,aj] at h
  rcases h with rfl | h
  ·exact⟨0,rfl,rfl⟩
  ·obtain⟨k,h1,h2⟩:=Ae9 h
   exact⟨k+1,h1,h2⟩
theorem Aja {α:Type}:∀ {l:List α} {c:List Bool} {k:Nat} {x:α} {v:Bool},l[k]? = some x->c[k]? = some v->(x,v)∈l.zip c
 | [],_,_,_,_,h,_=>by simp at h
 | _::_,[],_,_,_,_,h=>by simp at h
 | y::l,w::c,0,x,v,h1,h2=>by
  simp at h1 h2
  rw [bF,←h1,←h2];exact ag
 | y::l,w::c,k+1,x,v,h1,h2=>by
  rw [bF]
  exact ai _ (Aja (k:=k) (by simpa using h1) (by simpa using h2))
theorem D0 {b:Aa} {p:Ab} (hp:p.Ae.length=b.Ad.length) {i j:Nat}:Tie (Bb b p) i j↔∃ (k:Nat) (x:Ah),b.Ad[k]? = some x/\x.Kind=1/\p.Ae.getD k false=true/\((x.A.toNat=i/\x.B.toNat=j)\/(x.A.toNat=j/\x.B.toNat=i)):=by
 constructor
 ·rintro⟨z,hz,h1,h2,h3⟩
  obtain⟨k,g1,g2⟩:=Ae9 hz
  exact⟨k,z.1,g1,h1,by rw [List.getD,g2,h2];rfl,h3⟩
 ·rintro⟨k,x,h1,h2,h3,h4⟩
  have hk:=(aa.1 h1).1
  refine⟨(x,true),Aja h1 ?_,h2,rfl,h4⟩
  rw [af (by omega)]
  simp only [List.getD,af (show k<p.Ae.length by omega),bQ] at h3
  rw [h3]
theorem Sub.conn {b:Aa} {q p:Ab} (hq:q.Ae.length=b.Ad.length) (hp:p.Ae.length=b.Ad.length) (s:Sub b q p) {i j:Nat} (c:Bm (Bb b q) i j):Bm (Bb b p) i j:=by
 refine Ma (λ i j t=>?_) c
 obtain⟨k,x,h1,h2,h3,h4⟩:=(D0 hq).1 t
 exact (D0 hp).2 ⟨k,x,h1,h2,s.tie k x h1 h2 h3,h4⟩
theorem Sub.tog {b:Aa} (h:Ap b) {q p:Ab} (hq:Ao b q) (hp:Ao b p) (s:Sub b q p) {i j:Nat} (hi:i<b.Ac.length) (hj:j<b.Ac.length) (t:tog b q i j):tog b p i j:=by
 obtain⟨a,c,h1,h2,h3⟩:=t
 have ha:=Fb h h1
 have hc:=Fb h h2
 have cc:=s.conn hq.ncl hp.ncl ((Ef h q (by omega) (by omega)).1 h3)
 have lift:∀ {m:Nat} {v:Int},m<b.Ac.length->Ce b q (m:Int)=some v->Ce b p (m:Int)=some v:=fun {m v} hm e=>by
  rw [D5 h hq hm] at e
  rw [D5 h hp hm]
  by_cases hh:(q.Ac.getD m default).State=2/\q.Ae.getD (brN b m) false=true
  ·rw [if_pos hh] at e
   rw [if_pos (s.con m hm hh.1 hh.2)];exact e
  ·rw [if_neg hh] at e;cases e
 exact⟨a,c,lift hi h1,lift hj h2,(Ef h p (by omega) (by omega)).2 cc⟩
theorem Afe {b:Aa} {q p:Ab} (hs:∀ i:Nat,(q.Ac.getD i default).State=(p.Ac.getD i default).State) (hc:∀ k:Nat,q.Ae.getD k false=true->p.Ae.getD k false=true):Sub b q p:=
 ⟨λ i _ h1 h2=>⟨by rw [←hs];exact h1,hc _ h2⟩,λ k _ _ _ h=>hc k h⟩
theorem Vt {b:Aa} (h:Ap b) {q p:Ab} (hq:Ao b q) (hp:Ao b p) (s:Sub b q p) (ha:Di b p) (hl:∀ i j,i<b.Ac.length->j<b.Ac.length->tog b q i j->B0 (p.Ac.getD i default) (p.Ac.getD j default)->B0 (q.Ac.getD i default) (q.Ac.getD j default)):Di b q:=
 (Mc h).2 λ i j hi hj t=>hl i j hi hj t ((Mc h).1 ha i j hi hj (s.tog h hq hp hi hj t))
theorem Q0 (b:Aa) (C:List Bool) (q:Ah->Bool) (hC:C.length=b.Ad.length) (k:Nat) (h:(acC b C q).getD k false=true):C.getD k false=true:=by
 by_cases hk:k<b.Ad.length
 ·rw [I1 b C q hk,ac] at h;exact h.1
 ·have hl:(acC b C q).length=C.length:=Js _ _
  simp [List.getD,List.getElem?_eq_none (show (acC b C q).length<=k by omega)] at h
theorem Afd {b:Aa} (p:Ab) (n:Nat):∀ (l:List Int) (z:List Bool×List Ak),z.1.length=b.Ad.length->(Ed b p n l z).1.length=b.Ad.length/\∀ k,(Ed b p n l z).1.getD k false=true->z.1.getD k false=true
 | [],_,hz=>⟨hz,λ _ h=>h⟩
 | c::l,z,hz=>by
  have hl:(Fi b p n z c).1.length=b.Ad.length/\∀ k,(Fi b p n z c).1.getD k false=true->z.1.getD k false=true:=by
   unfold Fi
   split
   ·exact⟨by show (acC b z.1 (isC c)).length=_;unfold acC;rw [Js];exact hz,λ k h=>Q0 b z.1 (isC c) hz k h⟩
   ·exact⟨hz,λ _ h=>h⟩
  obtain⟨h1,h2⟩:=Afd p n l (Fi b p n z c) hl.1
  exact⟨h1,λ k h=>hl.2 k (h2 k h)⟩
theorem Aha {b:Aa}:∀ (l:List Aj) (z:Ab×List Ak),z.1.Ae.length=b.Ad.length->(F1 b l z).1.Ac=z.1.Ac/\(F1 b l z).1.Ai=z.1.Ai/\∀ k,(F1 b l z).1.Ae.getD k false=true->z.1.Ae.getD k false=true
 | [],_,_=>⟨rfl,rfl,λ _ h=>h⟩
 | x::l,z,hz=>by
  have hs:(Gy b z x).1.Ac=z.1.Ac/\(Gy b z x).1.Ai=z.1.Ai/\(Gy b z x).1.Ae.length=b.Ad.length/\∀ k,(Gy b z x).1.Ae.getD k false=true->z.1.Ae.getD k false=true:=by
   unfold Gy
   split
   ·obtain⟨h1,h2⟩:=Afd (Bj z.1 (H9 b x z).1) (Ea x) (F3 b x) (z.1.Ae,(H9 b x z).2) hz
    exact⟨rfl,rfl,h1,h2⟩
   ·exact⟨rfl,rfl,hz,λ _ h=>h⟩
  obtain⟨g1,g2,g3⟩:=Aha l (Gy b z x) hs.2.2.1
  exact⟨g1.trans hs.1,g2.trans hs.2.1,λ k h=>hs.2.2.2 k (g3 k h)⟩
theorem A2v {b:Aa} {p:Ab} (hp:Ao b p):(F2 b p).Ac=(Gs b p).Ac/\(F2 b p).Ai=p.Ai/\∀ k,(F2 b p).Ae.getD k false=true->(Gs b p).Ae.getD k false=true:=by
 have:=Aha (Bg b (Gs b p)) (Gs b p,Aai b p) (J1 hp).ncl
 exact⟨this.1,this.2.1,this.2.2⟩
theorem At7 {b:Aa} (h:Ap b) {p:Ab} (hp:Ao b p):Di b (F2 b p):=by
 obtain⟨h1,_,h3⟩:=A2v hp
 exact Vt h (Mu h hp).2.1 (J1 hp) (Afe (λ i=>by rw [h1]) h3) (Apv h hp) λ i j _ _ _ hl=>by rw [h1];exact hl
def Par {α:Type} (o:Option α) (P:α->Prop):Prop:=∀ r,o=some r->P r
theorem Par.pure {α:Type} {x:α} {P:α->Prop} (h:P x):Par (some x) P:=λ r e=>by cases e;exact h
theorem Par.none {α:Type} {P:α->Prop}:Par (none:Option α) P:=λ _ e=>by cases e
theorem Par.bind {α β:Type} {o:Option α} {f:α->Option β} {P:β->Prop} (h:∀ x,o=some x->Par (f x) P):Par (o.bind f) P:=by
 cases o with
 | none=>exact Par.none
 | some x=>exact h x rfl
theorem Par.cond {α:Type} {c:Bool} {x y:Option α} {P:α->Prop} (h:Par x P) (k:Par y P):Par (bif c then x else y) P:=by
 cases c with
 | true=>exact h
 | false=>exact k
theorem Par.andThen {σ τ α:Type} {c:Option (Ctl σ τ)} {g:τ->Option α} {f:σ->Option α} {P:α->Prop} (h:∀ s,Par (f s) P) (k:∀ v,Par (g v) P):Par (andThen c g f) P:=by
 cases c with
 | none=>exact Par.none
 | some r=>
  cases r with
  | next s=>exact h s
  | brk s=>exact h s
  | ret v=>exact k v
def cl (C:List Bool):Nat:=C.count true
theorem Ad3 {b:Aa} (h:Ap b) (p:Ab):(Bg b p).Pairwise λ x y=>∀ c,¬(Dk x c=true/\Dk y c=true):=by
 rw [Gb h,List.pairwise_map]
 refine ((ci.1 List.nodup_range).sublist cN).imp ?_
 rintro f g hfg c ⟨hx,hy⟩
 obtain⟨i,hi,e1⟩:=ch.1 hx
 obtain⟨j,hj,e2⟩:=ch.1 hy
 obtain⟨k,hk,rfl⟩:=an.1 hi
 obtain⟨m,hm,rfl⟩:=an.1 hj
 have g1:=(ao.1 hk).2
 have g2:=(ao.1 hm).2
 simp only [dz] at e1 e2 g1 g2
 have:k=m:=by omega
 subst this
 rw [g1] at g2
 simp only [al] at g2
 omega
theorem Aef (C:List Bool):cl C<=C.length:=List.count_le_length
theorem G8 {α:Type} {l y:List α} {i:Int} {x:α} (h:setI l i x=some y):y=l.set i.toNat x/\0<=i/\i<l.length:=by
 unfold setI at h
 cases hd:(decide (0<=i)&&decide (i<(l.length:Int))) with
 | false=>rw [hd] at h;cases h
 | true=>
  rw [hd] at h
  simp only [ac,dx] at hd
  cases h
  exact⟨rfl,hd⟩
def M6 (b:Aa) (p q:Ab):Prop:=(∀ k,q.Ae.getD k false=true->p.Ae.getD k false=true)/\∀ i,i<b.Ac.length->(q.Ac.getD i default).State=2->q.Ae.getD (brN b i) false=true->(p.Ac.getD i default).State=2
theorem M6.sub {b:Aa} {p q:Ab} (s:M6 b p q):Sub b q p:=⟨λ i hi h1 h2=>⟨s.2 i hi h1 h2,s.1 _ h2⟩,λ k _ _ _ h=>s.1 k h⟩
theorem Jq {b:Aa} {p q:Ab} (hc:q.Ae=p.Ae) (hs:∀ i,(q.Ac.getD i default).State=2->(p.Ac.getD i default).State=2):M6 b p q:=⟨λ k h=>by rw [hc] at h;exact h,λ i _ h _=>hs i h⟩
theorem Ls {ss:List Ag} {n:Nat} {y:Ag} (hy:y.State≠2) (i:Nat) (h:((ss.set n y).getD i default).State=2):(ss.getD i default).State=2:=by
 rw [Jl] at h
 split at h
 ·exact absurd h hy
 ·exact h
def Vu (b:Aa) (p:Ab) (y:Int×A0):Prop:=y.1≠0\/M6 b p y.2.Aq
theorem A7g {b:Aa} (h:Ap b) {p:Ab} (hp:Ao b p) (i:Int):Par (P2 b p i) λ y=>y.2≠0\/M6 b p y.1:=by
 unfold P2
 rw [B4 h hp,C3 h hp]
 simp only [ab,dF,cond_false]
 refine Par.cond (Par.pure (.inl (by simp))) (Par.bind λ _ _=>Par.bind λ _ _=>Par.cond (Par.pure (.inl (by simp))) (Par.bind λ _ _=>Par.bind λ y hy=>Par.pure (.inr ?_)))
 have e:=(G8 hy).1
 subst e
 refine⟨λ k hk=>?_,λ _ _ hs _=>hs⟩
 simp only [List.getD,am] at hk ⊢
 split at hk
 ·split at hk <;> simp at hk
 ·exact hk
theorem A39 {b:Aa} (h:Ap b) {p:Ab} (hp:Ao b p) (i n:Int):Ok (Z8 b p i n) λ y=>y.2≠0\/M6 b p y.1:=by
 have hn:=hp.nso
 unfold Z8
 rw [B4 h hp,C3 h hp]
 simp only [ab]
 refine c4 (λ hc=>by simp at hc) (λ _=>c4 (λ _=>Ok.pure (.inl (by simp))) (λ hr=>?_))
 simp only [Ai5,bk,dy] at hr
 refine (O8 h hp n).bind λ y hy=>?_
 refine Ok.bind (P:=λ _=>True) (d6 (λ _=>d8 (by omega) (by omega)) λ _=>trivial) λ u _=>?_
 refine c4 (λ _=>Ok.pure (.inl (by simp))) (λ hc=>?_)
 simp only [bk,cg] at hc
 have hy:=hy hc.1
 unfold Alg
 rw [B4 h hp,N8 h hp]
 simp only [ab,dF,cond_false]
 refine c4 (λ _=>?_) (λ _=>?_)
 ·refine (Aov h hp _).bind λ z hz=>(c9 hy.1 hy.2).bind λ w hw=>?_
  rw [Um hz]
  exact Ok.pure (.inr (Jq rfl λ j hj=>by rw [Mt] at hj;exact hj))
 ·refine (c9 hy.1 hy.2).bind λ w hw=>?_
  have hz:∀ k,k∈[i]->0<=k/\k<p.Ac.length:=λ k hk=>by
   simp only [aP] at hk
   subst hk;omega
  rw [Um hz]
  exact Ok.pure (.inr (Jq rfl λ j hj=>by rw [Mt] at hj;exact hj))
theorem A31 {b:Aa} (h:Ap b) {p:Ab} (hp:Ao b p) (t:Int) (i:Int):Par (Jd ⟨b,p,t⟩ i) (Vu b p):=by
 have hn:=hp.nso
 unfold Jd
 refine Par.bind λ _ _=>Par.bind λ _ _=>Par.cond (Par.pure (.inl (by simp))) (Par.bind λ s _=>Par.bind λ v hv=>?_)
 cases hq:((s.Start==0)&&v) with
 | false=>
  refine Par.bind λ y hy=>Par.pure (.inr (Jq rfl λ j hj=>?_))
  rw [(G8 hy).1] at hj
  exact Ls (by dsimp only;decide) j hj
 | true=>
  refine Par.bind λ y hy=>Par.pure (.inr ⟨λ _ hk=>hk,λ j hj h1 h2=>?_⟩)
  obtain⟨e,b0,b1⟩:=G8 hy
  rw [e] at h1
  have b1:i<(p.Ac.length:Int):=b1
  simp only [ac] at hq
  rw [hq.1] at hv
  have ho:=zA h hp.ncl t (i:=i.toNat) (by omega)
  rw [az b0] at ho
  have hv2:Jc ⟨b,p,t⟩ i=some v:=hv
  rw [ho] at hv2
  have hop:Ig b p.Ae i.toNat=true:=by rw [bg hv2];exact hq.2
  rw [Jl] at h1
  split at h1
  ·rename_i hh
   exfalso
   rw [←hh.1] at h2
   have h2:p.Ae.getD (brN b i.toNat) false=true:=h2
   unfold Ig at hop
   have:brN b i.toNat=(Fl b (i.toNat:Int)).toNat:=rfl
   rw [←this,h2] at hop
   cases hop
  ·exact h1
theorem A7e {b:Aa} (p:Ab) (t:Int) (i:Int):Par (Oi ⟨b,p,t⟩ i) (Vu b p):=by
 unfold Oi
 refine Par.bind λ _ _=>Par.bind λ _ _=>Par.cond (Par.pure (.inl (by simp))) (Par.bind λ y hy=>Par.pure (.inr (Jq rfl λ j hj=>?_)))
 rw [(G8 hy).1] at hj
 exact Ls (by dsimp only;decide) j hj
theorem A4c {b:Aa} (p:Ab) (t:Int) (i v:Int):Par (Oh ⟨b,p,t⟩ i v) (Vu b p):=by
 unfold Oh
 exact Par.bind λ _ _=>Par.cond (Par.pure (.inl (by simp))) (Par.bind λ _ _=>Par.bind λ _ _=>Par.pure (.inr (Jq rfl λ _ hj=>hj)))
theorem A5g {b:Aa} (p:Ab) (t:Int) (x:As) (v:Bool):Par (G7 ⟨b,p,t⟩ x v) (Vu b p):=by
 unfold G7
 refine Par.bind λ _ _=>Par.cond (Par.pure (.inl (by simp))) (Par.cond (Par.pure (.inl (by simp))) (Par.andThen (λ _=>Par.cond (Par.bind λ _ _=>Par.bind λ y hy=>Par.cond (Par.bind λ _ _=>Par.bind λ z hz=>Par.pure (.inr (Jq rfl λ j hj=>?_))) (Par.pure (.inr (Jq rfl λ j hj=>?_)))) (Par.pure (.inr (Jq rfl λ _ hj=>hj)))) (λ _=>Par.none)))
 ·rw [(G8 hz).1,(G8 hy).1] at hj
  exact Ls (by dsimp only;decide) j (Ls (by dsimp only;decide) j hj)
 ·rw [(G8 hy).1] at hj
  exact Ls (by dsimp only;decide) j hj
theorem A9x {b:Aa} (h:Ap b) {p:Ab} (hp:Ao b p) (t:Int) {a:Ak} (ha:a.Kind≠1/\a.Kind≠7):Par (Kn ⟨b,p,t⟩ a) (Vu b p):=by
 unfold Kn
 rw [dA.2 ha.1,dA.2 ha.2]
 simp only [cond_false]
 exact Par.cond (Par.bind λ y hy=>Par.pure (A7g h hp _ y hy)) (Par.cond (Par.bind λ y hy=>Par.pure ((A39 h hp _ _).get hy)) (Par.cond (Par.bind λ y hy=>Par.pure (A31 h hp t _ y hy)) (Par.cond (Par.bind λ y hy=>Par.pure (A7e p t _ y hy)) (Par.cond (Par.bind λ y hy=>Par.pure (A4c p t _ _ y hy)) (Par.bind λ y hy=>Par.pure (A5g p t _ _ y hy))))))
theorem A9y {b:Aa} (h:Ap b) {p:Ab} (hp:Ao b p) (t:Int) {a:Ak} (ha:a.Kind≠1/\a.Kind≠7):(Fy b p t a).2≠0\/M6 b p (Fy b p t a).1:=by
 have key:Par (F27 b p t a) λ y=>y.2≠0\/M6 b p y.1:=by
  unfold F27
  rw [B4 h hp,C3 h hp]
  simp only [ab,dF,cond_false]
  refine (Par.cond (Par.pure (.inl (by simp))) (Par.bind λ _ _=>Par.cond (Par.pure (.inl (by simp))) (Par.bind λ y hy=>?_)))
  have hd:=A9x h hp t ha y hy
  cases hq:(y.1 != 0) with
  | true=>exact Par.pure (.inl (by simpa using hq))
  | false=>
   refine Par.pure ?_
   rcases hd with e | e
   ·simp at hq;exact absurd hq e
   ·exact .inr e
 exact key _ (Xi h hp t a).1
theorem Arw {x y:Ag} (hx:x.State=2) (hy:y.State=2) (h:B0 x y):B0 (Da x) (Da y):=by
 unfold Da
 rw [if_pos hx,if_pos hy]
 exact⟨h.1,by dsimp only;rw [h.1,h.2]⟩
theorem Gf (x:Ag):(Da x).State=x.State:=by unfold Da;split <;> rfl
theorem jA {b:Aa} {p:Ab} (t:Int) {i:Nat} (hi:i<p.Ac.length):(wtS b p t).Ac.getD i default=E_ b p.Ae t (Da (p.Ac.getD i default)) i:=by
 unfold wtS Li
 simp only [ax]
 rw [List.drop_of_length_le (by simp),aH]
 have hl:((p.Ac.map Da).zipIdx.map λ z=>E_ b p.Ae t z.1 z.2).length=p.Ac.length:=by simp
 rw [bS (by omega)]
 simp [List.getD,List.getElem?_eq_getElem hi]
theorem Mq {b:Aa} {p:Ab} (hp:Ao b p) (t:Int):M6 b p (wtS b p t):=by
 have hn:=hp.nso
 refine⟨λ _ hk=>hk,λ i hi h1 h2=>?_⟩
 rw [jA t (by omega)] at h1
 have h2:p.Ae.getD (brN b i) false=true:=h2
 unfold E_ at h1
 split at h1
 ·rename_i hh
  exfalso
  have:=hh.1.2
  unfold Ig at this
  have e:brN b i=(Fl b (i:Int)).toNat:=rfl
  rw [←e,h2] at this
  cases this
 ·rw [Gf] at h1;exact h1
theorem Aod {b:Aa} (h:Ap b) {p:Ab} (hp:Ao b p) (ha:Di b p) {t:Int} (hq:Ao b (wtS b p t)):Di b (wtS b p t):=by
 have hn:=hp.nso
 refine Vt h hq hp (Mq hp t).sub ha λ i j hi hj tg hl=>?_
 obtain⟨a,c,h1,h2,_⟩:=tg
 rw [D5 h hq hi] at h1
 rw [D5 h hq hj] at h2
 have k1:(wtS b p t).Ae.getD (brN b i) false=true/\(p.Ac.getD i default).State=2:=by
  split at h1
  ·rename_i hh;exact⟨hh.2,(Mq hp t).2 i hi hh.1 hh.2⟩
  ·cases h1
 have k2:(wtS b p t).Ae.getD (brN b j) false=true/\(p.Ac.getD j default).State=2:=by
  split at h2
  ·rename_i hh;exact⟨hh.2,(Mq hp t).2 j hj hh.1 hh.2⟩
  ·cases h2
 have stay:∀ m,(p.Ac.getD m default).State=2->E_ b p.Ae t (Da (p.Ac.getD m default)) m=Da (p.Ac.getD m default):=λ m hm=>by
  unfold E_
  rw [if_neg (λ hh=>by have:=hh.1.1;rw [Gf,hm] at this;omega)]
 rw [jA t (by omega),jA t (by omega),stay i k1.2,stay j k2.2]
 exact Arw k1.2 k2.2 hl
theorem zE {z:Int} (h:-3599<=z/\z<=3599):Fe z=if z<0 then z+3600 else z:=by
 unfold Fe
 have e:Int.tmod z 3600=z:=by
  rcases Int.lt_or_le z 0 with hz | hz
  ·have:z = -(-z):=by omega
   rw [this,Int.neg_tmod,cF (by omega)];omega
  ·rw [cF hz];omega
 rw [e]
 by_cases hz:z<0
 ·rw [dC hz,cond_true,if_pos hz,A5 (by omega)]
 ·rw [dD hz,cond_false,if_neg hz]
def nrm (z:Int):Int:=if z<0 then z+3600 else z
def dif (x y:Int):Int:=if nrm (y-x)>1800 then nrm (y-x)-3600 else nrm (y-x)
theorem Ahk {x y:Int} (hx:0<=x/\x<=3599) (hy:0<=y/\y<=3599):0<=nrm (y-x)/\nrm (y-x)<=3599:=by unfold nrm;split <;> omega
theorem Ank {x y:Int} (hx:0<=x/\x<=3599) (hy:0<=y/\y<=3599):Aav x y=dif x y/\Z9 x y=dif x y:=by
 have e1:Fe x=x:=by rw [zE (by omega),if_neg (by omega)]
 have e2:Fe y=y:=by rw [zE (by omega),if_neg (by omega)]
 have e3:Fe (w64 (y-x))=nrm (y-x):=by rw [A5 (by omega),zE (by omega)];rfl
 have hn:=Ahk hx hy
 have key:(bif decide (nrm (y-x)>1800) then w64 (nrm (y-x)-3600) else nrm (y-x))=dif x y:=by
  unfold dif
  by_cases h:nrm (y-x)>1800
  ·rw [dC h,cond_true,if_pos h,A5 (by omega)]
  ·rw [dD h,cond_false,if_neg h]
 constructor
 ·unfold Aav Avu
  rw [e1,e2,e3];exact key
 ·unfold Z9 Av0
  simp only [A22]
  rw [e1,e2,e3];exact key
theorem Ac0 {b:Aa} (h:Ap b) {x y:Ag} (hx:C4 x) (hy:C4 y) (ha:Tp b x y=true):F54 b x y=true/\F54 b y x=true:=by
 obtain⟨_,_,x1,x2⟩:=hx
 obtain⟨_,_,y1,y2⟩:=hy
 have hph:=h.phase
 have hfr:=h.freq
 have d1:=Ank x2 y2
 have d2:=Ank y2 x2
 have n1:=Ahk x2 y2
 have n2:=Ahk y2 x2
 have b1:-1800<=dif x.Phase y.Phase/\dif x.Phase y.Phase<=1800:=by unfold dif;split <;> omega
 have b2:dif y.Phase x.Phase = - dif x.Phase y.Phase\/(dif y.Phase x.Phase=1800/\dif x.Phase y.Phase=1800):=by
  unfold dif nrm
  split <;> split <;> split <;> split <;> omega
 unfold Tp at ha
 cases hc:Avv x y with
 | true=>rw [hc] at ha;cases ha
 | false=>
  rw [hc,d1.1] at ha
  simp only [cond_false,ac,dx] at ha
  rw [A5 (n:=x.Ar-y.Ar) (by omega),A5 (n:=y.Ar-x.Ar) (by omega),A5 (n:=0-dif x.Phase y.Phase) (by omega)] at ha
  have ref:∀ u v:Ag,(0<=u.Ar/\u.Ar<=6000)->(0<=v.Ar/\v.Ar<=6000)->Z9 u.Phase v.Phase=dif u.Phase v.Phase->(u.Ar-v.Ar >= -b.Ar/\u.Ar-v.Ar<=b.Ar)->(dif u.Phase v.Phase >= -b.Phase/\dif u.Phase v.Phase<=b.Phase)->F54 b u v=true:=by
   intro u v hu hv hd hf hp
   unfold F54
   have c0:Aeh u=false:=by
    rw [cf];intro e
    simp only [Aeh,aB,dx] at e
    omega
   have c1:Aeg v=false:=by
    rw [cf];intro e
    simp only [Aeg,aB,dx] at e
    omega
   rw [c0,c1,hd]
   simp only [cond_false,ac,dx]
   rw [A5 (n:=u.Ar-v.Ar) (by omega),A5 (n:=0-b.Ar) (by omega),A5 (n:=0-b.Phase) (by omega)]
   omega
  exact⟨ref x y x1 y1 d1.2 (by omega) (by omega),ref y x y1 x1 d2.2 (by omega) (by omega)⟩
def agr (b:Aa) (x y:Ag):Prop:=F54 b x y=true
theorem S4 {b:Aa} {x y x' y':Ag} (hx:B0 x x') (hy:B0 y y') (h:agr b x y):agr b x' y':=by
 unfold agr at h ⊢
 unfold F54 Aeh Aeg at h ⊢
 rw [←hx.1,←hx.2,←hy.1,←hy.2];exact h
theorem O9 {b:Aa} (h:Ap b) {p:Ab} (hp:Ao b p) {n:Nat} (hn:n<b.Al.toNat) {k:Int} (hk:k∈(isl b p (Bc b p n)).Ac):∃ s:Nat,Mn b p (n:Int)=some ((s:Int),true)/\(s:Int)∈(isl b p (Bc b p n)).Ac/\s<b.Ac.length:=by
 unfold Mn
 rw [Aow h hp hn]
 cases hs:(isl b p (Bc b p n)).Ac with
 | nil=>rw [hs] at hk;cases hk
 | cons s l=>
  have hin:=Jw (b:=b) (p:=p) (f:=Bc b p n) (i:=s) (by rw [hs];exact ag)
  refine⟨s.toNat,?_,by rw [az hin.1];exact ag,by omega⟩
  rw [az hin.1]
  simp only [ab,hs,aS]
  have e:(((l.length+1:Nat):Int)==0)=false:=by rw [dA];omega
  rw [e];rfl
theorem Ng {b:Aa} (h:Ap b) {p:Ab} {k n:Nat} {c:Int} (hk:k<b.Ac.length) (hc:Ce b p (k:Int)=some c) (hn:n<b.Al.toNat) (hg:(groups b p).getD c.toNat 0=(groups b p).getD n 0):(k:Int)∈(isl b p (Bc b p n)).Ac:=by
 have hgn:=E6 h p hn
 refine Gw.2 ⟨k,rfl,hk,?_⟩
 rw [hc]
 show some ((groups b p).getD c.toNat 0)=some ((Bc b p n:Nat):Int)
 unfold Bc
 rw [hg,hgn.2.2]
theorem Yp {p:Ab} {s:Nat} (hs:s<p.Ac.length):getI p.Ac (s:Int)=some (p.Ac.getD s default):=A8 (by
 rw [af hs];simp [List.getD,List.getElem?_eq_getElem hs])
theorem Yu {b:Aa} {p:Ab} (hp:Ao b p) {s:Nat} (hs:s<b.Ac.length):C4 (p.Ac.getD s default):=Y4 hp.run (by have:=hp.nso;omega)
theorem Y2 {b:Aa} (h:Ap b) {p:Ab} (ha:Di b p) {n:Nat} (hn:n<b.Al.toNat) {i j:Nat} (hi:(i:Int)∈(isl b p (Bc b p n)).Ac) (hj:(j:Int)∈(isl b p (Bc b p n)).Ac):B0 (p.Ac.getD i default) (p.Ac.getD j default):=by
 have h1:=Jw hi
 have h2:=Jw hj
 exact (Mc h).1 ha i j (by omega) (by omega) (And hi hj)
theorem Re {b:Aa} (h:Ap b) {p:Ab} (hp:Ao b p) (ha:Di b p) {x:Ah} (hx:x∈b.Ad) (hs:Jn b p x=some true) :
  (x.Kind=2->∀ k:Nat,(k:Int)∈(isl b p (Bc b p x.A.toNat)).Ac->agr b (p.Ac.getD k default) (p.Ac.getD x.B.toNat default)/\agr b (p.Ac.getD x.B.toNat default) (p.Ac.getD k default)) /\
  (x.Kind=1->∀ k m:Nat,(k:Int)∈(isl b p (Bc b p x.A.toNat)).Ac->(m:Int)∈(isl b p (Bc b p x.B.toNat)).Ac->agr b (p.Ac.getD k default) (p.Ac.getD m default)/\agr b (p.Ac.getD m default) (p.Ac.getD k default)):=by
 have hbr:=h.br x hx
 have hn:=hp.nso
 have hA:=hbr.1
 have eA:((x.A.toNat:Nat):Int)=x.A:=az hA.1
 constructor
 ·intro hk k hkm
  have hB:0<=x.B/\x.B<b.Ac.length:=by
   rcases hbr.2 with⟨e,_⟩ | ⟨_,e⟩ | ⟨e,_⟩
   ·omega
   ·exact e
   ·omega
  obtain⟨s,e1,e2,e3⟩:=O9 h hp (n:=x.A.toNat) (by omega) hkm
  rw [eA] at e1
  unfold Jn at hs
  rw [e1,hk] at hs
  have eB:((x.B.toNat:Nat):Int)=x.B:=az hB.1
  have g1:=Yp (p:=p) (s:=s) (by omega)
  have g2:=Yp (p:=p) (s:=x.B.toNat) (by omega)
  rw [eB] at g2
  simp only [ab,g1,g2] at hs
  have hag:Tp b (p.Ac.getD s default) (p.Ac.getD x.B.toNat default)=true:=bg hs
  obtain⟨r1,r2⟩:=Ac0 h (Yu hp e3) (Yu hp (by omega)) hag
  have hl:=Y2 h ha (by omega) e2 hkm
  exact⟨S4 hl ⟨rfl,rfl⟩ r1,S4 ⟨rfl,rfl⟩ hl r2⟩
 ·intro hk k m hkm hmm
  have hB:0<=x.B/\x.B<b.Al:=by
   rcases hbr.2 with⟨_,e⟩ | ⟨e,_⟩ | ⟨e,_⟩
   ·omega
   ·omega
   ·omega
  obtain⟨s,e1,e2,e3⟩:=O9 h hp (n:=x.A.toNat) (by omega) hkm
  obtain⟨u,f1,f2,f3⟩:=O9 h hp (n:=x.B.toNat) (by omega) hmm
  have eB:((x.B.toNat:Nat):Int)=x.B:=az hB.1
  rw [eA] at e1
  rw [eB] at f1
  unfold Jn at hs
  rw [e1,f1,hk] at hs
  have g1:=Yp (p:=p) (s:=s) (by omega)
  have g2:=Yp (p:=p) (s:=u) (by omega)
  simp only [ab,g1,g2] at hs
  have hag:Tp b (p.Ac.getD s default) (p.Ac.getD u default)=true:=bg hs
  obtain⟨r1,r2⟩:=Ac0 h (Yu hp e3) (Yu hp f3) hag
  have hl:=Y2 h ha (by omega) e2 hkm
  have hl2:=Y2 h ha (by omega) f2 hmm
  exact⟨S4 hl hl2 r1,S4 hl2 hl r2⟩
theorem Ayy {b:Aa} (h:Ap b) {p:Ab} (hp:Ao b p) {j:Int} (e:Tr b p j=some 0):0<=j/\∃ x,b.Ad[j.toNat]? = some x/\((x.Kind=1/\(isl b p (Bc b p x.A.toNat)).Al.any (x.B == ·)=true)\/Jn b p x=some true):=by
 unfold Tr at e
 rw [B4 h hp] at e
 simp only [ab,dF,cond_false] at e
 cases hc:Vm b j with
 | true=>rw [hc] at e;simp at e
 | false=>
  rw [hc] at e
  simp only [cond_false] at e
  simp only [Vm,bk,dy] at hc
  rw [bX] at e
  obtain⟨y5,_,e⟩:=e
  cases y5 with
  | false=>simp at e
  | true=>
   simp only [bi,cond_false] at e
   rw [bX] at e
   obtain⟨x,hx,e⟩:=e
   have hx2:b.Ad[j.toNat]? = some x:=by
    obtain⟨v,hv,hv2⟩:=c9 (l:=b.Ad) (n:=j) (by omega) (by omega)
    rw [hv] at hx;cases hx;exact hv2
   have hA:=(h.br x (ae hx2)).1
   have hof:=Aow h hp (n:=x.A.toNat) (by omega)
   rw [az hA.1] at hof
   have hlen:=(Azh h p (Bc b p x.A.toNat)).1
   rw [hof] at e
   simp only [ab] at e
   rw [Eh _ _ (by omega)] at e
   refine⟨by omega,x,hx2,?_⟩
   cases hw:((x.Kind==1)&&(isl b p (Bc b p x.A.toNat)).Al.any (x.B == ·)) with
   | true=>
    rw [ac,dz] at hw
    exact .inl hw
   | false=>
    right
    cases hk:(x.Kind==1) with
    | false=>
     rw [hk] at e
     have e':(Jn b p x).bind (λ y14=>bif ((!(false&&(default:Bool)))&&(!y14)) then some (12:Int) else some 0)=some 0:=e
     rw [bX] at e'
     obtain⟨y,hy,hy2⟩:=e'
     cases y with
     | true=>exact hy
     | false=>simp at hy2
    | true=>
     rw [hk] at e hw
     simp only [aM] at hw
     rw [hw] at e
     have e':(Jn b p x).bind (λ y14=>bif ((!(true&&false))&&(!y14)) then some (12:Int) else some 0)=some 0:=e
     rw [bX] at e'
     obtain⟨y,hy,hy2⟩:=e'
     cases y with
     | true=>exact hy
     | false=>simp at hy2
def Ji (b:Aa) (p q:Ab):Prop:=∀ i k,i<b.Ac.length->k<b.Ac.length->i≠k->tog b q i k->tog b p i k\/agr b (p.Ac.getD i default) (p.Ac.getD k default)
theorem Sub.nobad {b:Aa} (h:Ap b) {q p:Ab} (hq:Ao b q) (hp:Ao b p) (s:Sub b q p):Ji b p q:=λ _ _ hi hk _ t=>.inl (s.tog h hq hp hi hk t)
theorem Su {L M:Dg} {A B:Nat} (h:∀ i j,Tie L i j->Tie M i j\/(i=A/\j=B)\/(i=B/\j=A)) {i j:Nat} (c:Bm L i j):Bm M i j\/(Bm M i A/\Bm M B j)\/(Bm M i B/\Bm M A j):=by
 obtain⟨r,c⟩:=c
 induction c with
 | refl=>exact .inl (.refl M i)
 | stay _ ih=>exact ih
 | step _ t ih=>
  rcases h _ _ t with t | ⟨rfl,rfl⟩ | ⟨rfl,rfl⟩
  ·rcases ih with c | ⟨c1,c2⟩ | ⟨c1,c2⟩
   ·exact .inl (c.tie t)
   ·exact .inr (.inl ⟨c1,c2.tie t⟩)
   ·exact .inr (.inr ⟨c1,c2.tie t⟩)
  ·rcases ih with c | ⟨c1,c2⟩ | ⟨c1,c2⟩
   ·exact .inr (.inl ⟨c,.refl _ _⟩)
   ·exact .inr (.inl ⟨c1,.refl _ _⟩)
   ·exact .inl c1
  ·rcases ih with c | ⟨c1,c2⟩ | ⟨c1,c2⟩
   ·exact .inr (.inr ⟨c,.refl _ _⟩)
   ·exact .inl c1
   ·exact .inr (.inr ⟨c1,.refl _ _⟩)
theorem El {C:List Bool} {j k:Nat} (hne:k≠j) (v:Bool):(C.set j v).getD k false=C.getD k false:=by
 simp only [List.getD,am,if_neg (λ e:j=k=>hne e.symm)]
theorem Az6 {b:Aa} (h:Ap b) {p:Ab} (hp:Ao b p) (ha:Di b p) {j:Int} {y:Ab×Int} (e:P3 b p j=some y) (he:y.2=0):Ji b p y.1:=by
 have hn:=hp.ncl
 have hns:=hp.nso
 unfold P3 at e
 rw [C3 h hp] at e
 rw [bX] at e
 obtain⟨m,hm,e⟩:=e
 cases hm0:(m != 0) with
 | true=>
  rw [hm0] at e
  simp only [cond_true,al] at e
  rw [←e] at he
  simp at hm0
  exact absurd he hm0
 | false=>
  have hm1:m=0:=by simpa using hm0
  subst hm1
  rw [hm0] at e
  simp only [cond_false,ab] at e
  obtain⟨h0,x,hx,hcase⟩:=Ayy h hp hm
  have hj:=(aa.1 hx).1
  have hxm:=ae hx
  have hbr:=h.br x hxm
  have hmo:=(Auf h hp j).get hm
  have hf:x.Kind=3->B1 b p 3 x.B=none:=by
   rcases hmo with g | ⟨_,g⟩
   ·exact absurd rfl g
   ·exact g x hx
  rw [bX] at e
  obtain⟨_,_,e⟩:=e
  rw [bX] at e
  obtain⟨C,hC,e⟩:=e
  have hC1:=(G8 hC).1
  subst hC1
  have hq:=Vk hp hx hf
  rw [Pa h hq] at e
  simp only [ab,al] at e
  have hqo:Ao b ⟨p.Ae.set j.toNat true,Cr b ⟨p.Ae.set j.toNat true,p.Ac,p.Am,p.Ai⟩,p.Am,p.Ai⟩:=H0 hq (Ft _ _) (My hq)
  rw [←e]
  show Ji b p ⟨p.Ae.set j.toNat true,Cr b ⟨p.Ae.set j.toNat true,p.Ac,p.Am,p.Ai⟩,p.Am,p.Ai⟩
  have hst:∀ i:Nat,((Cr b ⟨p.Ae.set j.toNat true,p.Ac,p.Am,p.Ai⟩).getD i default).State=(p.Ac.getD i default).State:=λ i=>Mj b _ i
  have con:∀ i:Nat,i<b.Ac.length->brN b i≠j.toNat->∀ a,Ce b ⟨p.Ae.set j.toNat true,Cr b ⟨p.Ae.set j.toNat true,p.Ac,p.Am,p.Ai⟩,p.Am,p.Ai⟩ (i:Int)=some a->Ce b p (i:Int)=some a:=λ i hi hne a hc=>by
   rw [D5 h hqo hi] at hc
   rw [D5 h hp hi]
   dsimp only at hc
   rw [hst,El hne] at hc
   exact hc
  have tie:x.Kind≠1->∀ u v,Bm (Bb b ⟨p.Ae.set j.toNat true,Cr b ⟨p.Ae.set j.toNat true,p.Ac,p.Am,p.Ai⟩,p.Am,p.Ai⟩) u v->Bm (Bb b p) u v:=λ hk u v c=>by
   refine Ma (λ u v t=>?_) c
   obtain⟨k,z,g1,g2,g3,g4⟩:=(D0 hqo.ncl).1 t
   have hne:k≠j.toNat:=λ e=>by rw [e,hx] at g1;cases g1;exact hk g2
   dsimp only at g3
   rw [El hne] at g3
   exact (D0 hn).2 ⟨k,z,g1,g2,g3,g4⟩
  intro i k hi hk hik t
  obtain⟨a,c,h1,h2,h3⟩:=t
  have ba:=Fb h h1
  have bc:=Fb h h2
  have hcc:=(Ef h _ (by omega) (by omega)).1 h3
  have pg:∀ {u v:Nat},u<b.Al.toNat->v<b.Al.toNat->Bm (Bb b p) u v->(groups b p).getD u 0=(groups b p).getD v 0:=λ hu hv c=>(Ef h p hu hv).2 c
  by_cases hk1:x.Kind=1
  ·
   have nb:∀ m:Nat,m<b.Ac.length->brN b m≠j.toNat:=λ m hm e=>by
    obtain⟨_,_,k2,_,hg⟩:=Dv h hm
    rw [e,hx] at hg
    rw [e,←bg hg] at k2
    omega
   have c1:=con i hi (nb i hi) a h1
   have c2:=con k hk (nb k hk) c h2
   have hB:0<=x.B/\x.B<b.Al:=by
    rcases hbr.2 with⟨_,e⟩ | ⟨e,_⟩ | ⟨e,_⟩
    ·have:=hbr.1;omega
    ·omega
    ·omega
   have hA:=hbr.1
   have hadd:=Su (M:=Bb b p) (A:=x.A.toNat) (B:=x.B.toNat) (λ u v t=>by
    obtain⟨m,z,g1,g2,g3,g4⟩:=(D0 hqo.ncl).1 t
    by_cases hm:m=j.toNat
    ·rw [hm,hx] at g1
     cases g1
     rcases g4 with⟨g5,g6⟩ | ⟨g5,g6⟩
     ·exact .inr (.inl ⟨g5.symm,g6.symm⟩)
     ·exact .inr (.inr ⟨g6.symm,g5.symm⟩)
    ·dsimp only at g3
     rw [El hm] at g3
     exact .inl ((D0 hn).2 ⟨m,z,g1,g2,g3,g4⟩)) hcc
   have within:(isl b p (Bc b p x.A.toNat)).Al.any (x.B == ·)=true->Bm (Bb b p) x.A.toNat x.B.toNat:=λ hw=>by
    have hb:=Vn (b:=b) (p:=p) (n:=x.B.toNat) (f:=Bc b p x.A.toNat) (by omega)
    rw [az hB.1] at hb
    rw [hb,dz] at hw
    have hg:=E6 h p (n:=x.A.toNat) (by omega)
    have:(groups b p).getD x.A.toNat 0=(groups b p).getD x.B.toNat 0:=by rw [hw];unfold Bc;exact hg.2.2.symm
    exact (Ef h p (by omega) (by omega)).1 this
   have done:Bm (Bb b p) a.toNat c.toNat->tog b p i k:=λ cc=>⟨a,c,c1,c2,pg (by omega) (by omega) cc⟩
   rcases hadd with cc | ⟨d1,d2⟩ | ⟨d1,d2⟩
   ·exact .inl (done cc)
   ·rcases hcase with⟨_,hw⟩ | hsy
    ·exact .inl (done ((d1.trans (within hw)).trans d2))
    ·right
     exact ((Re h hp ha hxm hsy).2 hk1 i k (Ng h hi c1 (by omega) (pg (by omega) (by omega) d1)) (Ng h hk c2 (by omega) (pg (by omega) (by omega) d2.symm))).1
   ·rcases hcase with⟨_,hw⟩ | hsy
    ·exact .inl (done ((d1.trans (within hw).symm).trans d2))
    ·right
     exact ((Re h hp ha hxm hsy).2 hk1 k i (Ng h hk c2 (by omega) (pg (by omega) (by omega) d2.symm)) (Ng h hi c1 (by omega) (pg (by omega) (by omega) d1))).2
  ·have cc:=tie hk1 _ _ hcc
   have hA:=hbr.1
   by_cases ei:brN b i=j.toNat
   ·
    have hbi:=Dv h hi
    rw [ei,Cc hx] at hbi
    obtain⟨_,_,k2,kB,_⟩:=hbi
    have ek:brN b k≠j.toNat:=λ e=>by
     have hbk:=Dv h hk
     rw [e,Cc hx] at hbk
     omega
    have c2:=con k hk ek c h2
    have ea:a=x.A:=by
     rw [D5 h hqo hi,ei,Cc hx] at h1
     split at h1
     ·exact (bg h1).symm
     ·cases h1
    have hsy:Jn b p x=some true:=by
     rcases hcase with⟨g,_⟩ | g
     ·omega
     ·exact g
    right
    have:=((Re h hp ha hxm hsy).1 k2 k (Ng h hk c2 (by omega) (by rw [←ea];exact pg (by omega) (by omega) cc.symm))).2
    rw [kB,ah] at this
    exact this
   ·have c1:=con i hi ei a h1
    by_cases ek:brN b k=j.toNat
    ·have hbk:=Dv h hk
     rw [ek,Cc hx] at hbk
     obtain⟨_,_,k2,kB,_⟩:=hbk
     have ec:c=x.A:=by
      rw [D5 h hqo hk,ek,Cc hx] at h2
      split at h2
      ·exact (bg h2).symm
      ·cases h2
     have hsy:Jn b p x=some true:=by
      rcases hcase with⟨g,_⟩ | g
      ·omega
      ·exact g
     right
     have:=((Re h hp ha hxm hsy).1 k2 i (Ng h hi c1 (by omega) (by rw [←ec];exact pg (by omega) (by omega) cc))).1
     rw [kB,ah] at this
     exact this
    ·exact .inl ⟨a,c,c1,con k hk ek c h2,pg (by omega) (by omega) cc⟩
theorem A61 {b:Aa} (h:Ap b) {p:Ab} (hp:Ao b p) (ha:Di b p) {t:Int} {a:Ak} (he:Aab b p t a=0):Ji b p (Aoy b p t a):=by
 obtain⟨h1,h2,h3⟩:=Ava h hp he
 by_cases hk:a.Kind=1
 ·have hact:=(Xi h hp t a).1
  have key:Par (F27 b p t a) λ y=>y.2≠0\/Ji b p y.1:=by
   unfold F27
   rw [B4 h hp,C3 h hp]
   simp only [ab,dF,cond_false]
   refine (Par.cond (Par.pure (.inl (by simp))) (Par.bind λ _ _=>Par.cond (Par.pure (.inl (by simp))) (Par.bind λ y hy=>?_)))
   have hd:y.1≠0\/Ji b p y.2.Aq:=by
    unfold Kn at hy
    rw [dz.2 hk] at hy
    simp only [cond_true] at hy
    rw [bX] at hy
    obtain⟨z,hz,e⟩:=hy
    have e:=bg e
    rw [←e]
    by_cases hz0:z.2=0
    ·exact .inr (Az6 h hp ha hz hz0)
    ·exact .inl hz0
   cases hq:(y.1 != 0) with
   | true=>exact Par.pure (.inl (by simpa using hq))
   | false=>
    refine Par.pure ?_
    rcases hd with e | e
    ·simp at hq;exact absurd hq e
    ·exact .inr e
  rcases key _ hact with e | e
  ·exact absurd h2 e
  ·exact e
 ·rcases A9y h hp t ⟨hk,h3⟩ with e | e
  ·exact absurd h2 e
  ·exact e.sub.nobad h h1 hp
def H4 (b:Aa):Ab->List Ab->Ab->Prop
 | p,[],q=>p=q
 | p,x::l,q=>(Ji b p x/\Ao b x)/\H4 b x l q
theorem Ap6 {b:Aa} {p:Ab} {n f:Nat} (hn:n<b.Al.toNat):(isl b p f).Al.any (· == (n:Int))=((groups b p).getD n 0==(f:Int)):=by
 rw [←Vn hn]
 congr 1
 funext x
 rw [aZ,dz,dz]
 exact⟨λ e=>e.symm,λ e=>e.symm⟩
theorem Anf {b:Aa} (h:Ap b) {p:Ab} {a c:Int} (ha:0<=a/\a<b.Al) (hc:0<=c/\c<b.Al):(isl b p ((groups b p).getD a.toNat 0).toNat).Al.any (· == c)=((groups b p).getD a.toNat 0==(groups b p).getD c.toNat 0):=by
 have hg:=E6 h p (n:=a.toNat) (by omega)
 have:=Ap6 (b:=b) (p:=p) (n:=c.toNat) (f:=((groups b p).getD a.toNat 0).toNat) (by omega)
 rw [az hc.1,hg.2.2] at this
 rw [this,aZ,dz,dz]
 exact⟨λ e=>e.symm,λ e=>e.symm⟩
theorem Am7 {b:Aa} (h:Ap b) {p:Ab} (hp:Ao b p) {a:Int} (ha:0<=a/\a<b.Al):F50 b p a=some (isl b p ((groups b p).getD a.toNat 0).toNat,true):=by
 have:=Qd h hp (n:=a.toNat) (by omega)
 rwa [az ha.1] at this
theorem A6y {b:Aa} (h:Ap b) {p q:Ab} (hp:Ao b p) (hq:Ao b q) (hn:Ji b p q):F20 b p q=some false:=by
 have hsl:=h.sol
 have hns:=hp.nso
 refine d5 ?_
 unfold F20
 rw [Hc h hp,Hc h hq]
 simp only [ab]
 refine Ok.bind (P:=λ v=>v=0) (Ok.pure rfl) λ v hv=>?_
 subst hv
 refine c4 (λ hc=>by simp at hc) (λ _=>?_)
 refine Ok.andThen (A:=λ _=>True) (B:=λ _=>False) ?_ (λ _ _=>Ok.pure rfl) (λ _ h=>h.elim)
 refine c8 (λ z=>∃ i:Nat,z=(i:Int)/\i<=b.Ac.length) (λ z=>(100-z).toNat) _ _ ⟨0,rfl,by omega⟩ (by omega) ?_
 rintro z ⟨i,rfl,hi⟩
 unfold Ald A1w
 refine c4 (λ hq1=>?_) (λ _=>cX trivial)
 simp only [dx] at hq1
 have hil:i<b.Ac.length:=by omega
 have ei:w64 ((i:Int)+1)=((i+1:Nat):Int):=by rw [A5 (by omega)];omega
 rw [ei]
 refine Ok.inner (A:=λ _=>True) (B:=λ _=>False) ?_ (λ _ _=>c5 ⟨⟨i+1,rfl,by omega⟩,by omega⟩) (λ _ h=>h.elim)
 refine c8 (λ z=>∃ k:Nat,z=(k:Int)/\k<=i) (λ z=>(100-z).toNat) _ _ ⟨0,rfl,by omega⟩ (by omega) ?_
 rintro z ⟨k,rfl,hk⟩
 unfold Alc
 refine c4 (λ hq2=>?_) (λ _=>cX trivial)
 simp only [dx] at hq2
 have hkl:k<b.Ac.length:=by omega
 have ek:w64 ((k:Int)+1)=((k+1:Nat):Int):=by rw [A5 (by omega)];omega
 have nxt:Ok (some (Ctl.next ((k+1:Nat):Int)):Option (Ctl Int Bool)) (Ge (λ s'=>(∃ k:Nat,s'=(k:Int)/\k<=i)/\(100-s').toNat<(100-(k:Int)).toNat) (λ _=>True) (λ _=>False)):=c5 ⟨⟨k+1,rfl,by omega⟩,by omega⟩
 rw [G5 h hp,G5 h hp,G5 h hq,G5 h hq,ek]
 simp only [ab]
 cases e1:Ce b q (i:Int) with
 | none=>exact c4 (λ _=>nxt) (λ hc=>by simp [Dt] at hc)
 | some a=>
 cases e2:Ce b q (k:Int) with
 | none=>exact c4 (λ _=>nxt) (λ hc=>by simp [Dt] at hc)
 | some c=>
 refine c4 (λ hc=>by simp [Dt] at hc) (λ _=>?_)
 have ba:=Fb h e1
 have bc:=Fb h e2
 simp only [Dt]
 rw [Am7 h hq ba]
 simp only [ab]
 rw [Qn,Anf h ba bc]
 simp only [ab]
 refine c4 (λ _=>nxt) (λ hg=>?_)
 have hg:(groups b q).getD a.toNat 0=(groups b q).getD c.toNat 0:=by simpa using hg
 have hcase:=hn i k hil hkl (by omega) ⟨a,c,e1,e2,hg⟩
 have g1:=Yp (p:=p) (s:=i) (by omega)
 have g2:=Yp (p:=p) (s:=k) (by omega)
 have fin:¬tog b p i k->Ok ((getI p.Ac (i:Int)).bind λ y33=>(getI p.Ac (k:Int)).bind λ y35=>bif !(F54 b y33 y35) then (some (Ctl.ret true):Option (Ctl Int Bool)) else some (.next ((k+1:Nat):Int))) (Ge (λ s'=>(∃ k:Nat,s'=(k:Int)/\k<=i)/\(100-s').toNat<(100-(k:Int)).toNat) (λ _=>True) (λ _=>False)):=λ ht=>by
  have hag:F54 b (p.Ac.getD i default) (p.Ac.getD k default)=true:=by
   rcases hcase with t | t
   ·exact absurd t ht
   ·exact t
  rw [g1,g2]
  simp only [ab,hag]
  exact nxt
 cases f1:Ce b p (i:Int) with
 | none=>
  exact c4 (λ hc=>by simp [Dt] at hc) (λ _=>fin λ t=>by
   obtain⟨u,v,t1,_⟩:=t
   rw [f1] at t1;cases t1)
 | some u=>
 cases f2:Ce b p (k:Int) with
 | none=>
  exact c4 (λ hc=>by simp [Dt] at hc) (λ _=>fin λ t=>by
   obtain⟨u,v,_,t2,_⟩:=t
   rw [f2] at t2;cases t2)
 | some v=>
 refine c4 (λ _=>?_) (λ hc=>by simp [Dt] at hc)
 have bu:=Fb h f1
 have bv:=Fb h f2
 simp only [Dt]
 rw [Am7 h hp bu]
 simp only [ab]
 rw [Qn,Anf h bu bv]
 simp only [ab]
 refine c4 (λ _=>nxt) (λ hg2=>fin λ t=>?_)
 obtain⟨u',v',t1,t2,t3⟩:=t
 rw [f1] at t1
 rw [f2] at t2
 cases t1;cases t2
 rw [t3] at hg2
 simp at hg2
structure Fd (b:Aa) (c q:Ab):Prop where
 src:q.Ac=c.Ac
 cl:∀ (k:Nat) x,b.Ad[k]? = some x->x.Kind≠3->q.Ae.getD k false=c.Ae.getD k false
theorem Fd.refl (b:Aa) (c:Ab):Fd b c c:=⟨rfl,λ _ _ _ _=>rfl⟩
theorem Fd.trans {b:Aa} {c q r:Ab} (s:Fd b c q) (t:Fd b q r):Fd b c r:=⟨t.src.trans s.src,λ k x h1 h2=>(t.cl k x h1 h2).trans (s.cl k x h1 h2)⟩
theorem U9:∀ (l:List Ah) (c d:List Bool) (s:List Int),c.length=l.length->d.length=l.length->(∀ (k:Nat) x,l[k]? = some x->x.Kind=1->c.getD k false=d.getD k false)->Cq (l.zip c) s=Cq (l.zip d) s
 | [],_,_,_,_,_,_=>rfl
 | _::_,[],_,_,h,_,_=>by simp at h
 | _::_,_::_,[],_,_,h,_=>by simp at h
 | x::l,v::c,w::d,s,h1,h2,h3=>by
  show Cq (l.zip c) (D9 s (x,v))=Cq (l.zip d) (D9 s (x,w))
  have e:D9 s (x,v)=D9 s (x,w):=by
   by_cases hk:x.Kind=1
   ·have:v=w:=h3 0 x rfl hk
    rw [this]
   ·unfold D9
    rw [if_neg (λ hh=>hk hh.1),if_neg (λ hh=>hk hh.1)]
  rw [e]
  exact U9 l c d _ (by simpa using h1) (by simpa using h2) λ k y hy hk=>h3 (k+1) y hy hk
theorem Fd.groups {b:Aa} {c q:Ab} (hc:c.Ae.length=b.Ad.length) (hq:q.Ae.length=b.Ad.length) (s:Fd b c q):groups b q=groups b c:=by
 unfold Go.Proofs.YtcigbocngfaopaaGreat.groups
 have key:∀ (xs:List Nat) (t:List Int),xs.foldl (λ s _=>Cq (b.Ad.zip q.Ae) s) t=xs.foldl (λ s _=>Cq (b.Ad.zip c.Ae) s) t:=by
  intro xs
  induction xs with
  | nil=>intro t;rfl
  | cons x xs ih=>
   intro t
   simp only [aU]
   rw [U9 b.Ad q.Ae c.Ae t hq hc λ k x hx hk=>s.cl k x hx (by omega)]
   exact ih _
 exact key _ _
theorem Fd.con {b:Aa} (h:Ap b) {c q:Ab} (hc:Ao b c) (hq:Ao b q) (s:Fd b c q) {i:Nat} (hi:i<b.Ac.length):Ce b q (i:Int)=Ce b c (i:Int):=by
 obtain⟨_,_,k2,_,hg⟩:=Dv h hi
 rw [D5 h hq hi,D5 h hc hi,s.src,s.cl _ _ hg (by omega)]
theorem Fd.sources {b:Aa} (h:Ap b) {c q:Ab} (hc:Ao b c) (hq:Ao b q) (s:Fd b c q) (f:Nat):(isl b q f).Ac=(isl b c f).Ac:=by
 show Ez b q b.Ac.length f=Ez b c b.Ac.length f
 unfold Ez
 congr 1
 refine cy λ i hi=>?_
 rw [s.con h hc hq (aI.1 hi)]
 unfold Dw
 rw [s.groups hc.ncl hq.ncl]
def fg (b:Aa) (q:Ab) (m:Nat):Option Int:=Dw b q (B1 b q 3 (m:Int))
theorem Ei {b:Aa} {q:Ab} {f:Nat} {m:Int}:m∈(isl b q f).Af↔∃ k:Nat,m=(k:Int)/\k<b.Af.length/\fg b q k=some (f:Int):=by
 constructor
 ·intro h
  obtain⟨k,hk,e⟩:=an.1 h
  obtain⟨h1,h2⟩:=ao.1 hk
  exact⟨k,e.symm,aI.1 h1,by rwa [dz] at h2⟩
 ·rintro⟨k,e,h1,h2⟩
  exact an.2 ⟨k,ao.2 ⟨aI.2 h1,by rw [dz];exact h2⟩,e.symm⟩
theorem M1 (b:Aa) (q:Ab) (f:Nat):(isl b q f).Af.Nodup:=by
 show (Gj b q b.Af.length f).Nodup
 unfold Gj
 rw [ci,List.pairwise_map]
 exact ((ci.1 List.nodup_range).sublist cN).imp λ h e=>h (by omega)
theorem Ah1 {x:Aj} {m:Int}:Dk x m=true↔m∈x.Af:=by
 unfold Dk
 rw [ch]
 constructor
 ·rintro⟨y,hy,e⟩
  rw [dz] at e;rw [e];exact hy
 ·intro h;exact⟨m,h,by simp⟩
theorem A4d {b:Aa} {q:Ab} (hq:Ao b q) (m:Nat) (n:Nat):B1 b (Ba q (acC b q.Ae (isC (m:Int)))) 3 (n:Int)=if n=m then none else B1 b q 3 (n:Int):=by
 have hq2:=Q1 hq (isC (m:Int))
 rw [U4 (p:=Ba q (acC b q.Ae (isC (m:Int)))) hq2.ncl,U4 hq.ncl]
 have hz:∀ z,z∈ofZ b 3 (n:Int)->(acC b q.Ae (isC (m:Int))).getD z.2 false=(q.Ae.getD z.2 false && !decide (n=m)):=λ z hz=>by
  have h1:=Qc hz
  have h2:=(ao.1 hz).2
  simp only [ac,dz] at h2
  have hk:=(aa.1 h1).1
  rw [I1 b q.Ae _ hk,Cc h1]
  congr 2
  unfold isC
  rw [h2.1,h2.2,aZ]
  simp only [ac,dz,dx,true_and,beq_self_eq_true]
  omega
 by_cases e:n=m
 ·rw [if_pos e]
  have:(ofZ b 3 (n:Int)).find? (λ z=>(Ba q (acC b q.Ae (isC (m:Int)))).Ae.getD z.2 false)=none:=by
   rw [List.find?_eq_none]
   intro z hz2
   have:=hz z hz2
   show ¬(acC b q.Ae (isC (m:Int))).getD z.2 false=true
   rw [this,dC e];simp
  rw [this];rfl
 ·rw [if_neg e]
  congr 1
  have:∀ l:List (Ah×Nat),(∀ z,z∈l->z∈ofZ b 3 (n:Int))->l.find? (λ z=>(Ba q (acC b q.Ae (isC (m:Int)))).Ae.getD z.2 false)=l.find? λ z=>q.Ae.getD z.2 false:=by
   intro l
   induction l with
   | nil=>intro _;rfl
   | cons z l ih=>
    intro hl
    have h1:(Ba q (acC b q.Ae (isC (m:Int)))).Ae.getD z.2 false=q.Ae.getD z.2 false:=by
     show (acC b q.Ae (isC (m:Int))).getD z.2 false=_
     rw [hz z (hl z ag),dD e];simp
    simp only [cu,h1]
    rw [ih λ y hy=>hl y (ai _ hy)]
  exact this _ λ z hz=>hz
theorem Ajc {b:Aa} {q:Ab} (m:Nat):Fd b q (Ba q (acC b q.Ae (isC (m:Int)))):=⟨rfl,λ k x hx hk=>by
 have hlt:=(aa.1 hx).1
 show (acC b q.Ae (isC (m:Int))).getD k false=_
 rw [I1 b q.Ae _ hlt,Cc hx]
 have:isC (m:Int) x=false:=by unfold isC;rw [dA.2 hk];rfl
 rw [this];simp⟩
theorem A7w {b:Aa} {q:Ab} (hq:Ao b q) (m n:Nat):fg b (Ba q (acC b q.Ae (isC (m:Int)))) n=if n=m then none else fg b q n:=by
 unfold fg
 rw [A4d hq]
 by_cases e:n=m
 ·rw [if_pos e,if_pos e];rfl
 ·rw [if_neg e,if_neg e]
  unfold Dw
  have:Go.Proofs.YtcigbocngfaopaaGreat.groups b (Ba q (acC b q.Ae (isC (m:Int))))=Go.Proofs.YtcigbocngfaopaaGreat.groups b q:=(Ajc (b:=b) (q:=q) m).groups hq.ncl (Q1 hq (isC (m:Int))).ncl
  show Option.map (λ (a:Int)=>(Go.Proofs.YtcigbocngfaopaaGreat.groups b (Ba q (acC b q.Ae (isC (m:Int))))).getD a.toNat 0) _=_
  rw [this]
def sm (g:Int->Int) (l:List Int):Int:=l.foldr (λ m s=>g m+s) 0
theorem A2l (g:Int->Int) {l m:List Int} (p:l.Perm m):sm g l=sm g m:=by
 induction p with
 | nil=>rfl
 | cons x _ ih=>show g x+sm g _=g x+sm g _;rw [ih]
 | swap x y l=>show g y+(g x+sm g l)=g x+(g y+sm g l);omega
 | trans _ _ i1 i2=>exact i1.trans i2
theorem Aml (L:List Int) (l:List Int):I3 L l=sm (λ m=>L.getD m.toNat 0) l:=by
 have key:∀ (l:List Int) (s:Int),l.foldl (λ s c=>s+L.getD c.toNat 0) s=s+sm (λ m=>L.getD m.toNat 0) l:=by
  intro l
  induction l with
  | nil=>intro s;simp [sm]
  | cons x l ih=>
   intro s
   rw [aU,ih]
   show _=s+(L.getD x.toNat 0+sm _ l)
   omega
 have:=key l 0
 unfold I3
 rw [this];omega
theorem Agi {g g':Int->Int}:∀ {l:List Int},(∀ m,m∈l->g m=g' m)->sm g l=sm g' l
 | [],_=>rfl
 | x::l,h=>by
  show g x+sm g l=g' x+sm g' l
  rw [h x ag,Agi λ m hm=>h m (ai _ hm)]
theorem Aoi {g:Int->Int}:∀ {l:List Int},(∀ m,m∈l->0<=g m)->0<=sm g l
 | [],_=>by simp [sm]
 | x::l,h=>by
  have h1:=h x ag
  have h2:=Aoi (l:=l) λ m hm=>h m (ai _ hm)
  show 0<=g x+sm g l
  omega
theorem Amm {g:Int->Int}:∀ {l:List Int},(∀ m,m∈l->g m=0)->sm g l=0
 | [],_=>rfl
 | x::l,h=>by
  show g x+sm g l=0
  rw [h x ag,Amm λ m hm=>h m (ai _ hm)];omega
theorem A32 {g g':Int->Int} {x:Int} {l:List Int} (hn:l.Nodup) (hx:x∈l) (h:∀ m,m∈l->m≠x->g m=g' m):sm g l=sm g' l+(g x-g' x):=by
 induction l with
 | nil=>cases hx
 | cons y l ih=>
  obtain⟨n1,n2⟩:=List.nodup_cons.1 hn
  show g y+sm g l=g' y+sm g' l+(g x-g' x)
  by_cases e:y=x
  ·subst e
   rw [Agi λ m hm=>h m (ai _ hm) λ e=>n1 (by rw [←e];exact hm)]
   omega
  ·have hxl:x∈l:=by
    rcases aj.1 hx with e2 | e2
    ·exact absurd e2.symm e
    ·exact e2
   rw [h y ag e,ih n2 hxl λ m hm=>h m (ai _ hm)]
   omega
theorem A2y {b:Aa} (h:Ap b) {m:Int}:m∈Cs b↔0<=m/\m<b.Af.length:=by
 constructor
 ·exact qH h
 ·intro hm
  have hs:=(K0 h).2
  obtain⟨k,hk,e⟩:=hs.mem m.toNat (by omega)
  have hl:=hs.len
  have:(Cs b)[k]? = some m:=by
   rw [af (by omega)]
   simp only [List.getD,af (show k<(Cs b).length by omega),bQ] at e
   rw [e];congr 1;omega
  exact ae this
def Sd (b:Aa) (m:Int):Int:=(b.Af.getD m.toNat default).Least
abbrev Fw (b:Aa) (q:Ab) (n:Nat):List Int:=(isl b q (Bc b q n)).Af
theorem Iu (b:Aa) (q:Ab) (n:Nat) (hs:0<(isl b q (Bc b q n)).Ac.length):Bp b q n=sm (λ m=>q.Am.getD m.toNat 0) (Fw b q n):=by
 unfold Bp;rw [if_pos hs,Aml]
theorem zY {b:Aa} {q:Ab} {n:Nat} (he:0<Bn b q n):0<(isl b q (Bc b q n)).Ac.length:=by
 by_cases hs:0<(isl b q (Bc b q n)).Ac.length
 ·exact hs
 ·exfalso
  have e1:(isl b q (Bc b q n)).Ac=[]:=List.length_eq_zero_iff.1 (by omega)
  unfold Bn Bp Ci at he
  rw [if_neg hs,e1] at he
  simp [I3] at he
theorem A3g {b:Aa} {q:Ab} {n:Nat} {L:List Int} {a v:Int} (ha:a∈Fw b q n) (hl:a.toNat<L.length) (hs:0<(isl b q (Bc b q n)).Ac.length) :
  Bp b (Bj q (L.set a.toNat v)) n=Bp b (Bj q L) n-(L.getD a.toNat 0-v):=by
 have h0:=G2 ha
 rw [Iu b (Bj q (L.set a.toNat v)) n hs,Iu b (Bj q L) n hs]
 show sm (λ m=>(L.set a.toNat v).getD m.toNat 0) (Fw b q n)=sm (λ m=>L.getD m.toNat 0) (Fw b q n)-_
 have e:(L.set a.toNat v).getD a.toNat 0=v:=by rw [Jy,if_pos ⟨rfl,hl⟩]
 rw [A32 (l:=Fw b q n) (g:=λ m=>(L.set a.toNat v).getD m.toNat 0) (g':=λ m=>L.getD m.toNat 0) (M1 b q _) ha λ m hm hne=>?_]
 ·rw [e];omega
 ·have h1:=G2 hm
  simp only [Jy]
  rw [if_neg λ e=>hne (by omega)]
structure Aj8 (b:Aa) (q:Ab) (n:Nat) (l:List Int) (j:Nat) (L:List Int):Prop where
 ok:Ao b (Bj q L)
 le:∀ m:Nat,L.getD m 0<=q.Am.getD m 0
 out:∀ m:Nat,(m:Int)∉l.take j->L.getD m 0=q.Am.getD m 0
 low:0<Bn b (Bj q L) n->∀ m,m∈l.take j->L.getD m.toNat 0<=Sd b m
 ord:∀ (i:Nat) k,i<j->l[i]? = some k->L.getD k.toNat 0≠q.Am.getD k.toNat 0->∀ (i':Nat) m,i'<i->l[i']? = some m->L.getD m.toNat 0<=Sd b m
theorem Nm {l:List Int} {j:Nat} {m:Int}:m∈l.take j↔∃ i,i<j/\l[i]? = some m:=by
 rw [List.mem_iff_getElem?]
 constructor
 ·rintro⟨i,hi⟩
  rw [ap] at hi
  split at hi
  ·exact⟨i,by omega,hi⟩
  ·cases hi
 ·rintro⟨i,hi,h⟩
  exact⟨i,by rw [ap,if_pos hi];exact h⟩
theorem Aj8.step {b:Aa} (h:Ap b) {q:Ab} {n:Nat} {l:List Int} (hn:l.Nodup) (hl:∀ c,c∈l->c∈Fw b q n) {j:Nat} {c:Int} (hc:l[j]? = some c) {z:List Int×List Ak} (hI:Aj8 b q n l j z.1):Aj8 b q n l (j+1) (Ic b q n z c).1:=by
 have hcm:=hl c (ae hc)
 have hin:=G2 hcm
 obtain⟨g1,g2,g3,g4⟩:=Sc h hI.ok hin.1 hin.2
 have hlen:c.toNat<z.1.length:=by
  have:z.1.length=b.Af.length:=hI.ok.nli
  omega
 have hnot:∀ m,m∈l.take j->m≠c:=λ m hm e=>by
  subst e
  obtain⟨i,hi,hm⟩:=Nm.1 hm
  have:=(List.getElem?_inj (aa.1 hm).1 hn).1 (hm.trans hc.symm)
  omega
 have htk:∀ m,m∈l.take (j+1)↔m∈l.take j\/m=c:=λ m=>by
  rw [Bi hc,aq,aP]
 have hok:=Anb (n:=n) h hI.ok hin.1 hin.2
 have hpos:∀ m,m∈l.take j->0<=m:=λ m hm=>(G2 (hl m (aV hm))).1
 by_cases hp:0<Dj b (Bj q z.1) n c
 ·have e:(Ic b q n z c).1=z.1.set c.toNat (z.1.getD c.toNat 0-Dj b (Bj q z.1) n c):=by unfold Ic;rw [if_pos hp]
  rw [e] at hok ⊢
  have hm1:Dj b (Bj q z.1) n c<=Bn b (Bj q z.1) n:=Int.min_le_left _ _
  have hm2:Dj b (Bj q z.1) n c<=z.1.getD c.toNat 0-Sd b c:=cM _ _
  have hm3:Dj b (Bj q z.1) n c=Bn b (Bj q z.1) n\/Dj b (Bj q z.1) n c=z.1.getD c.toNat 0-Sd b c:=by
   have:Dj b (Bj q z.1) n c=min (Bn b (Bj q z.1) n) (z.1.getD c.toNat 0-Sd b c):=rfl
   omega
  have hs:=zY (b:=b) (q:=Bj q z.1) (n:=n) (by omega)
  have hload:=A3g (v:=z.1.getD c.toNat 0-Dj b (Bj q z.1) n c) hcm hlen hs
  have hexc:Bn b (Bj q (z.1.set c.toNat (z.1.getD c.toNat 0-Dj b (Bj q z.1) n c))) n=Bn b (Bj q z.1) n-Dj b (Bj q z.1) n c:=by
   have e1:Bn b (Bj q z.1) n=max 0 (Bp b (Bj q z.1) n-Ci b q n):=rfl
   have e2:∀ L,Bn b (Bj q L) n=max 0 (Bp b (Bj q L) n-Ci b q n):=λ _=>rfl
   rw [e2,hload]
   omega
  have hget:∀ m:Nat,m≠c.toNat->(z.1.set c.toNat (z.1.getD c.toNat 0-Dj b (Bj q z.1) n c)).getD m 0=z.1.getD m 0:=λ m hm=>by
   rw [Jy,if_neg λ e=>hm e.1.symm]
  have hgc:(z.1.set c.toNat (z.1.getD c.toNat 0-Dj b (Bj q z.1) n c)).getD c.toNat 0=z.1.getD c.toNat 0-Dj b (Bj q z.1) n c:=by
   rw [Jy,if_pos ⟨rfl,hlen⟩]
  have hne:∀ m,m∈l.take j->m.toNat≠c.toNat:=λ m hm e=>hnot m hm (by have:=hpos m hm;omega)
  refine⟨hok,λ m=>?_,λ m hm=>?_,λ he m hm=>?_,λ i k hi hk hch i' m hi' hm=>?_⟩
  ·have:=hI.le m
   by_cases em:m=c.toNat
   ·subst em;rw [hgc];omega
   ·rw [hget m em];exact this
  ·have hmc:m≠c.toNat:=λ e=>hm ((htk _).2 (.inr (by omega)))
   rw [hget m hmc]
   exact hI.out m λ hh=>hm ((htk _).2 (.inl hh))
  ·rcases (htk m).1 hm with h1 | rfl
   ·rw [hget _ (hne m h1)]
    exact hI.low (by omega) m h1
   ·rw [hgc];omega
  ·have hm':m∈l.take j:=Nm.2 ⟨i',by omega,hm⟩
   rw [hget _ (hne m hm')]
   by_cases ei:i=j
   ·exact hI.low (by omega) m hm'
   ·have hk':k∈l.take j:=Nm.2 ⟨i,by omega,hk⟩
    rw [hget _ (hne k hk')] at hch
    exact hI.ord i k (by omega) hk hch i' m hi' hm
 ·have e:Ic b q n z c=z:=by unfold Ic;rw [if_neg hp]
  rw [e]
  refine⟨hI.ok,hI.le,λ m hm=>hI.out m λ hh=>hm ((htk _).2 (.inl hh)),λ he m hm=>?_,λ i k hi hk hch i' m hi' hm=>?_⟩
  ·rcases (htk m).1 hm with h1 | rfl
   ·exact hI.low he m h1
   ·have:Dj b (Bj q z.1) n m=min (Bn b (Bj q z.1) n) (z.1.getD m.toNat 0-Sd b m):=rfl
    omega
  ·by_cases ei:i=j
   ·subst ei
    rw [hc] at hk;cases hk
    exfalso
    refine hch (by
     have:=hI.out c.toNat λ hh=>hnot _ hh (by omega)
     exact this)
   ·exact hI.ord i k (by omega) hk hch i' m hi' hm
theorem A25 {b:Aa} (h:Ap b) {q:Ab} (hq:Ao b q) {n:Nat} {l:List Int} (hn:l.Nodup) (hl:∀ c,c∈l->c∈Fw b q n) (acts:List Ak):Aj8 b q n l l.length (G1 b q n l (q.Am,acts)).1:=by
 have key:∀ j,j<=l.length->Aj8 b q n l j (G1 b q n (l.take j) (q.Am,acts)).1:=by
  intro j
  induction j with
  | zero=>intro _;exact⟨hq,λ _=>bB _,λ _ _=>rfl,λ _ m hm=>by simp at hm,λ i _ hi=>by omega⟩
  | succ j ih=>
   intro hj
   have hc:l[j]? = some l[j]:=af (by omega)
   have e:G1 b q n (l.take (j+1)) (q.Am,acts)=Ic b q n (G1 b q n (l.take j) (q.Am,acts)) l[j]:=by
    rw [Bi hc];unfold G1;rw [aN];rfl
   rw [e]
   exact (ih (by omega)).step h hn hl hc
 have:=key l.length (au _)
 rw [ay] at this
 exact this
theorem jZ {g:Int->Int}:∀ {l' l:List Int},l'.Nodup->(∀ m,m∈l'->m∈l)->(∀ m,m∈l->0<=g m)->sm g l'<=sm g l
 | [],l,_,_,h=>Aoi h
 | x::l',l,hn,hs,h=>by
  obtain⟨n1,n2⟩:=List.nodup_cons.1 hn
  have hp:=List.perm_cons_erase (hs x ag)
  have:=jZ (g:=g) (l':=l') (l:=l.erase x) n2 (λ m hm=>by
   rcases aj.1 (hp.mem_iff.1 (hs m (ai _ hm))) with e | e
   ·subst e;exact absurd hm n1
   ·exact e) λ m hm=>h m (List.mem_of_mem_erase hm)
  rw [A2l g hp]
  show g x+sm g l'<=g x+sm g (l.erase x)
  omega
theorem E0 {b:Aa} {q r:Ab} (hq:Ao b q) (hr:Ao b r) (s:Fd b q r) (n:Nat):Bc b r n=Bc b q n:=by
 unfold Bc;rw [s.groups hq.ncl hr.ncl]
theorem Agk {b:Aa} (h:Ap b) {q r:Ab} (hq:Ao b q) (hr:Ao b r) (s:Fd b q r) (n:Nat):Ci b r n=Ci b q n:=by
 unfold Ci;rw [E0 hq hr s,s.sources h hq hr]
theorem qT {b:Aa} (h:Ap b) {q:Ab} (hq:Ao b q) {n:Nat}:∀ m,m∈Fw b q n->0<=q.Am.getD m.toNat 0:=λ m hm=>(Sc h hq (G2 hm).1 (G2 hm).2).2.1
theorem Anh {b:Aa} (h:Ap b) {q r:Ab} (hq:Ao b q) (hr:Ao b r) (s:Fd b q r) (hL:r.Am=q.Am) (n:Nat) (hs:∀ m,m∈Fw b r n->m∈Fw b q n):Bn b r n<=Bn b q n:=by
 unfold Bn
 rw [Agk h hq hr s]
 have key:Bp b r n<=Bp b q n:=by
  by_cases hh:0<(isl b q (Bc b q n)).Ac.length
  ·rw [Iu b q n hh,Iu b r n (by rw [E0 hq hr s,s.sources h hq hr];exact hh),hL]
   exact jZ (M1 b r _) hs (qT h hq)
  ·have e1:Bp b q n=0:=by unfold Bp;rw [if_neg hh]
   have e2:Bp b r n=0:=by unfold Bp;rw [E0 hq hr s,s.sources h hq hr,if_neg hh]
   omega
 omega
structure M5 (b:Aa) (q:Ab) (n:Nat) (l:List Int) (j:Nat) (C:List Bool):Prop where
 ok:Ao b (Ba q C)
 skel:Fd b q (Ba q C)
 mono:∀ k:Nat,C.getD k false=true->q.Ae.getD k false=true
 fgs:∀ k:Nat,fg b (Ba q C) k=fg b q k\/fg b (Ba q C) k=none/\(k:Int)∈l.take j
 pos:0<Bn b (Ba q C) n->∀ m,m∈l.take j->0<q.Am.getD m.toNat 0->fg b (Ba q C) m.toNat=none
 ord:∀ (i:Nat) k,i<j->l[i]? = some k->fg b (Ba q C) k.toNat=none->0<Bn b q n/\∀ (i':Nat) m,i'<i->l[i']? = some m->fg b (Ba q C) m.toNat≠none->q.Am.getD m.toNat 0<=0
theorem M5.sub {b:Aa} {q:Ab} (hq:Ao b q) {n:Nat} {l:List Int} {j:Nat} {C:List Bool} (hI:M5 b q n l j C):∀ m,m∈Fw b (Ba q C) n->m∈Fw b q n:=λ m hm=>by
 obtain⟨k,e,h1,h2⟩:=Ei.1 hm
 rw [E0 hq hI.ok hI.skel] at h2
 refine Ei.2 ⟨k,e,h1,?_⟩
 rcases hI.fgs k with h3 | h3
 ·rw [←h3];exact h2
 ·rw [h3.1] at h2;cases h2
theorem M5.step {b:Aa} (h:Ap b) {q:Ab} (hq:Ao b q) {n:Nat} {l:List Int} (hn:l.Nodup) (hl:∀ c,c∈l->c∈Fw b q n) {j:Nat} {c:Int} (hc:l[j]? = some c) {z:List Bool×List Ak} (hI:M5 b q n l j z.1):M5 b q n l (j+1) (Fi b q n z c).1:=by
 have hcm:=hl c (ae hc)
 have hin:=G2 hcm
 have htk:∀ m,m∈l.take (j+1)↔m∈l.take j\/m=c:=λ m=>by
  rw [Bi hc,aq,aP]
 have hpos:∀ m,m∈l.take j->0<=m:=λ m hm=>(G2 (hl m (aV hm))).1
 have hnot:∀ m,m∈l.take j->m≠c:=λ m hm e=>by
  subst e
  obtain⟨i,hi,hm⟩:=Nm.1 hm
  have:=(List.getElem?_inj (aa.1 hm).1 hn).1 (hm.trans hc.symm)
  omega
 have hexc:=Anh h hq hI.ok hI.skel rfl n (hI.sub hq)
 obtain⟨a,rfl⟩:∃ a:Nat,c=(a:Int):=⟨c.toNat,by omega⟩
 have hfc:fg b q a≠none:=by
  obtain⟨k,e,_,h2⟩:=Ei.1 hcm
  have:k=a:=by omega
  subst this
  rw [h2];intro hh;cases hh
 by_cases hp:0<q.Am.getD (a:Int).toNat 0/\0<Bn b (Ba q z.1) n
 ·have e:(Fi b q n z (a:Int)).1=acC b z.1 (isC (a:Int)):=by unfold Fi;rw [if_pos hp]
  rw [e]
  have hok:Ao b (Ba q (acC b z.1 (isC (a:Int)))):=Q1 hI.ok (isC (a:Int))
  have hfg:∀ k:Nat,fg b (Ba q (acC b z.1 (isC (a:Int)))) k=if k=a then none else fg b (Ba q z.1) k:=λ k=>A7w hI.ok a k
  have hsk:Fd b (Ba q z.1) (Ba q (acC b z.1 (isC (a:Int)))):=Ajc (q:=Ba q z.1) a
  have hsub:∀ m,m∈Fw b (Ba q (acC b z.1 (isC (a:Int)))) n->m∈Fw b (Ba q z.1) n:=λ m hm=>by
   obtain⟨k,e,h1,h2⟩:=Ei.1 hm
   rw [E0 hI.ok hok hsk,hfg] at h2
   split at h2
   ·cases h2
   ·exact Ei.2 ⟨k,e,h1,h2⟩
  have hle:=Anh h hI.ok hok hsk rfl n hsub
  refine⟨hok,hI.skel.trans hsk,λ k hk=>hI.mono k ?_,λ k=>?_,λ he m hm hL=>?_,λ i k hi hk hf=>⟨by omega,λ i' m hi' hm hfm=>?_⟩⟩
  ·by_cases hlt:k<b.Ad.length
   ·rw [I1 b z.1 _ hlt,ac] at hk
    exact hk.1
   ·have:(acC b z.1 (isC (a:Int))).length=b.Ad.length:=hok.ncl
    rw [List.getD,bV (by omega)] at hk
    cases hk
  ·rw [hfg]
   split
   ·rename_i e;subst e
    exact .inr ⟨rfl,(htk _).2 (.inr rfl)⟩
   ·rcases hI.fgs k with h1 | h1
    ·exact .inl h1
    ·exact .inr ⟨h1.1,(htk _).2 (.inl h1.2)⟩
  ·rw [hfg]
   split
   ·rfl
   ·rename_i hne
    rcases (htk m).1 hm with h1 | h1
    ·exact hI.pos (by omega) m h1 hL
    ·exact absurd (by rw [h1];exact ah a) hne
  ·rw [hfg] at hfm
   split at hfm
   ·exact absurd rfl hfm
   ·have hm':m∈l.take j:=Nm.2 ⟨i',by omega,hm⟩
    by_cases h0:0<q.Am.getD m.toNat 0
    ·exact absurd (hI.pos hp.2 m hm' h0) hfm
    ·omega
 ·have e:Fi b q n z (a:Int)=z:=by unfold Fi;rw [if_neg hp]
  rw [e]
  refine⟨hI.ok,hI.skel,hI.mono,λ k=>?_,λ he m hm hL=>?_,λ i k hi hk hf=>?_⟩
  ·rcases hI.fgs k with h1 | h1
   ·exact .inl h1
   ·exact .inr ⟨h1.1,(htk _).2 (.inl h1.2)⟩
  ·rcases (htk m).1 hm with h1 | h1
   ·exact hI.pos he m h1 hL
   ·subst h1;exact absurd ⟨hL,he⟩ hp
  ·by_cases ei:i=j
   ·exfalso
    subst ei
    rw [hc] at hk;cases hk
    rw [ah] at hf
    rcases hI.fgs a with h1 | h1
    ·exact hfc (h1.symm.trans hf)
    ·exact hnot _ h1.2 rfl
   ·exact hI.ord i k (by omega) hk hf
theorem Ax7 {b:Aa} (h:Ap b) {q:Ab} (hq:Ao b q) {n:Nat} {l:List Int} (hn:l.Nodup) (hl:∀ c,c∈l->c∈Fw b q n) (acts:List Ak):M5 b q n l l.length (Ed b q n l (q.Ae,acts)).1:=by
 have key:∀ j,j<=l.length->M5 b q n l j (Ed b q n (l.take j) (q.Ae,acts)).1:=by
  intro j
  induction j with
  | zero=>intro _;exact⟨hq,Fd.refl b q,λ _ hk=>hk,λ _=>.inl rfl,λ _ m hm=>by simp at hm,λ i _ hi=>by omega⟩
  | succ j ih=>
   intro hj
   have hc:l[j]? = some l[j]:=af (by omega)
   have e:Ed b q n (l.take (j+1)) (q.Ae,acts)=Fi b q n (Ed b q n (l.take j) (q.Ae,acts)) l[j]:=by
    rw [Bi hc];unfold Ed;rw [aN];rfl
   rw [e]
   exact (ih (by omega)).step h hq hn hl hc
 have:=key l.length (au _)
 rw [ay] at this
 exact this
theorem M5.none {b:Aa} (h:Ap b) {q:Ab} (hq:Ao b q) {n:Nat} {l:List Int} (hl:∀ c,c∈Fw b q n->c∈l) {C:List Bool} (hI:M5 b q n l l.length C):Bn b (Ba q C) n=0:=by
 have h0:0<=Bn b (Ba q C) n:=Int.le_max_left _ _
 by_cases hp:0<Bn b (Ba q C) n
 ·exfalso
  have hs:=zY hp
  have hz:Bp b (Ba q C) n=0:=by
   rw [Iu b (Ba q C) n hs]
   refine Amm λ m hm=>?_
   have hnn:=qT h hI.ok m hm
   by_cases hL:0<q.Am.getD m.toNat 0
   ·exfalso
    have hf:=hI.pos hp m (by rw [ay];exact hl m (hI.sub hq m hm)) hL
    obtain⟨k,e,_,h2⟩:=Ei.1 hm
    have:m.toNat=k:=by omega
    rw [this,h2] at hf;cases hf
   ·have:(Ba q C).Am=q.Am:=rfl
    rw [this] at hnn ⊢
    omega
  have hr:0<=Ci b (Ba q C) n:=by
   unfold Ci
   rw [Aml]
   refine Aoi λ m hm=>?_
   have hm2:=Jw hm
   have hg:b.Ac[m.toNat]? = some b.Ac[m.toNat]:=af (by omega)
   have e:(Lj b).getD m.toNat 0=b.Ac[m.toNat].Rating:=by simp [Lj,List.getD,hg]
   have hr:=(h.so _ (ae hg)).1
   show 0<=(Lj b).getD m.toNat 0
   rw [e];omega
  unfold Bn at hp
  omega
 ·omega
theorem Ai7 {b:Aa} (h:Ap b) {c:Ab} {f:Nat} (hx:isl b c f∈Bg b c):Bc b c (Ea (isl b c f))=f:=by
 have hm:((Ea (isl b c f):Nat):Int)∈D6 b c b.Al.toNat f:=by
  have hI:=Ql h hx
  have e:(isl b c f).Al=D6 b c b.Al.toNat f:=rfl
  have hne:=hI.ne
  have h0:((Ea (isl b c f):Nat):Int)=(isl b c f).Al.headD 0:=by
   unfold Ea
   cases hl:(isl b c f).Al with
   | nil=>exact absurd hl hne
   | cons y l=>
    have:=(hI.bus y (by rw [hl];exact ag)).1
    show ((y.toNat:Nat):Int)=y
    omega
  rw [h0,←e]
  cases hl:(isl b c f).Al with
  | nil=>exact absurd hl hne
  | cons y l=>exact ag
 obtain⟨k,hk,e⟩:=an.1 hm
 obtain⟨_,h2⟩:=ao.1 hk
 have ek:k=Ea (isl b c f):=by omega
 subst ek
 unfold Bc
 rw [dz] at h2
 rw [h2];exact ah f
theorem A5d {b:Aa} (h:Ap b) {c:Ab} {x:Aj} (hx:x∈Bg b c):x=isl b c (Bc b c (Ea x))/\Ea x<b.Al.toNat:=by
 obtain⟨_,hlt⟩:=Ob (Ql h hx)
 obtain⟨h1,_⟩:=ao.1 hx
 obtain⟨f,hf,rfl⟩:=an.1 h1
 exact⟨by rw [Ai7 h hx],hlt⟩
theorem Azt {b:Aa} (h:Ap b) {q r:Ab} (hq:Ao b q) (hr:Ao b r) (s:Fd b q r) (hL:∀ k:Nat,r.Am.getD k 0<=q.Am.getD k 0) (n:Nat) (hs:∀ m,m∈Fw b r n->m∈Fw b q n):Bn b r n<=Bn b q n:=by
 unfold Bn
 rw [Agk h hq hr s]
 have key:Bp b r n<=Bp b q n:=by
  by_cases hh:0<(isl b q (Bc b q n)).Ac.length
  ·rw [Iu b q n hh,Iu b r n (by rw [E0 hq hr s,s.sources h hq hr];exact hh)]
   have h1:∀ (l:List Int),sm (λ m=>r.Am.getD m.toNat 0) l<=sm (λ m=>q.Am.getD m.toNat 0) l:=by
    intro l
    induction l with
    | nil=>exact bB _
    | cons a l ih=>
     have:=hL a.toNat
     show r.Am.getD a.toNat 0+sm _ l<=q.Am.getD a.toNat 0+sm _ l
     omega
   exact cz (h1 _) (jZ (M1 b r _) hs (qT h hq))
  ·have e1:Bp b q n=0:=by unfold Bp;rw [if_neg hh]
   have e2:Bp b r n=0:=by unfold Bp;rw [E0 hq hr s,s.sources h hq hr,if_neg hh]
   omega
 omega
structure Don (b:Aa) (c q:Ab) (x:Aj):Prop where
 exc:Bn b q (Ea x)=0
 ord:∀ (i:Nat) k,(F3 b x)[i]? = some k->(fg b q k.toNat=none\/q.Am.getD k.toNat 0≠c.Am.getD k.toNat 0)->∀ (i':Nat) m,i'<i->(F3 b x)[i']? = some m->fg b q m.toNat≠none->q.Am.getD m.toNat 0<=Sd b m/\(fg b q k.toNat=none->q.Am.getD m.toNat 0<=0)
structure Aft (b:Aa) (D:List Aj) (q r:Ab):Prop where
 ok:Ao b r
 skel:Fd b q r
 brk:r.Ai=q.Ai
 mono:∀ k:Nat,r.Ae.getD k false=true->q.Ae.getD k false=true
 le:∀ k:Nat,r.Am.getD k 0<=q.Am.getD k 0
 fgs:∀ k:Nat,fg b r k=fg b q k\/fg b r k=none
 out:∀ k:Nat,(∀ x,x∈D->Dk x (k:Int)=false)->fg b r k=fg b q k/\r.Am.getD k 0=q.Am.getD k 0
theorem Aft.refl {b:Aa} {q:Ab} (hq:Ao b q):Aft b [] q q:=⟨hq,Fd.refl b q,rfl,λ _ hk=>hk,λ _=>bB _,λ _=>.inl rfl,λ _ _=>⟨rfl,rfl⟩⟩
theorem Aft.trans {b:Aa} {D E:List Aj} {q r s:Ab} (u:Aft b D q r) (v:Aft b E r s):Aft b (D++E) q s where
 ok:=v.ok
 skel:=u.skel.trans v.skel
 brk:=v.brk.trans u.brk
 mono k hk:=u.mono k (v.mono k hk)
 le k:=cz (v.le k) (u.le k)
 fgs k:=by
  rcases v.fgs k with h1 | h1
  ·rw [h1];exact u.fgs k
  ·exact .inr h1
 out k hk:=by
  obtain⟨a1,a2⟩:=u.out k λ x hx=>hk x (aq.2 (.inl hx))
  obtain⟨b1,b2⟩:=v.out k λ x hx=>hk x (aq.2 (.inr hx))
  exact⟨b1.trans a1,b2.trans a2⟩
theorem Aft.con {b:Aa} {D:List Aj} {q r:Ab} (hq:Ao b q) (u:Aft b D q r) (n:Nat):∀ m,m∈Fw b r n->m∈Fw b q n:=λ m hm=>by
 obtain⟨k,e,h1,h2⟩:=Ei.1 hm
 rw [E0 hq u.ok u.skel] at h2
 refine Ei.2 ⟨k,e,h1,?_⟩
 rcases u.fgs k with h3 | h3
 ·rw [←h3];exact h2
 ·rw [h3] at h2;cases h2
theorem Rz {b:Aa} {x:Aj} {k:Int} (hk:k∈F3 b x):Dk x k=true:=(ao.1 hk).2
theorem Don.aft {b:Aa} (h:Ap b) {c q r:Ab} (hq:Ao b q) {x:Aj} {D:List Aj} (u:Don b c q x) (v:Aft b D q r) (hd:∀ y,y∈D->∀ k,¬(Dk x k=true/\Dk y k=true)):Don b c r x:=by
 have hsame:∀ k,k∈F3 b x->fg b r k.toNat=fg b q k.toNat/\r.Am.getD k.toNat 0=q.Am.getD k.toNat 0:=λ k hk=>by
  refine v.out k.toNat λ y hy=>?_
  have h0:=(Wu h hk).1
  have e:(k.toNat:Int)=k:=by omega
  rw [e]
  cases hy2:Dk y k
  ·rfl
  ·exact absurd ⟨Rz hk,hy2⟩ (hd y hy k)
 refine⟨?_,λ i k hk hch i' m hi hm hf=>?_⟩
 ·have h1:=Azt h hq v.ok v.skel v.le (Ea x) (v.con hq _)
  have h2:0<=Bn b r (Ea x):=Int.le_max_left _ _
  have h3:=u.exc
  omega
 ·obtain⟨a1,a2⟩:=hsame k (ae hk)
  obtain⟨b1,b2⟩:=hsame m (ae hm)
  rw [a1,a2] at hch
  rw [b1] at hf
  rw [a1,b2]
  exact u.ord i k hk hch i' m hi hm hf
theorem Ayh {b:Aa} (h:Ap b) {c q:Ab} (hc:Ao b c) {D:List Aj} (u:Aft b D c q) (hq:Ao b q) {x:Aj} (hx:x∈Bg b c) (hd:∀ y,y∈D->∀ k,¬(Dk y k=true/\Dk x k=true)) (acts:List Ak) :
  Aft b [x] q (Gy b (q,acts) x).1/\Don b c (Gy b (q,acts) x).1 x:=by
 obtain⟨ex,hlt⟩:=A5d h hx
 have hg:Bc b q (Ea x)=Bc b c (Ea x):=E0 hc hq u.skel _
 have hso:(isl b q (Bc b q (Ea x))).Ac=x.Ac:=by rw [hg,u.skel.sources h hc hq,←ex]
 have hsame:∀ k,k∈F3 b x->fg b q k.toNat=fg b c k.toNat/\q.Am.getD k.toNat 0=c.Am.getD k.toNat 0:=λ k hk=>by
  refine u.out k.toNat λ y hy=>?_
  have h0:=(Wu h hk).1
  have e:(k.toNat:Int)=k:=by omega
  rw [e]
  cases hy2:Dk y k
  ·rfl
  ·exact absurd ⟨hy2,Rz hk⟩ (hd y hy k)
 have hnd:(F3 b x).Nodup:=(Aua h).sublist cN
 have hcon:∀ k,k∈F3 b x->k∈Fw b q (Ea x):=λ k hk=>by
  have h1:k∈(isl b c (Bc b c (Ea x))).Af:=by rw [←ex];exact Ah1.1 (Rz hk)
  obtain⟨a,e,h2,h3⟩:=Ei.1 h1
  have h4:=(hsame k hk).1
  have ea:k.toNat=a:=by omega
  rw [ea] at h4
  exact Ei.2 ⟨a,e,h2,by rw [hg,h4];exact h3⟩
 have hrev:∀ k,k∈Fw b q (Ea x)->k∈F3 b x:=λ k hk=>by
  have h1:=u.con hc _ k hk
  have h2:k∈x.Af:=by rw [ex];exact h1
  exact ao.2 ⟨(A2y h).2 (G2 h1),Ah1.2 h2⟩
 unfold Gy
 split
 ·rename_i hs
  have hlow:=A25 h hq hnd hcon acts
  have hq1:=hlow.ok
  have htr:=Ax7 h hq1 (n:=Ea x) hnd hcon (H9 b x (q,acts)).2
  have hex:=htr.none h hq1 hrev
  show Aft b [x] q (Ba (Bj q (H9 b x (q,acts)).1) (Kw b x (q,acts)).1)/\Don b c (Ba (Bj q (H9 b x (q,acts)).1) (Kw b x (q,acts)).1) x
  refine⟨⟨htr.ok,?_,rfl,htr.mono,hlow.le,λ k=>?_,λ k hk=>?_⟩,⟨hex,λ i k hk hch i' m hi hm hf=>?_⟩⟩
  ·exact⟨rfl,htr.skel.cl⟩
  ·rcases htr.fgs k with h1 | h1
   ·exact .inl h1
   ·exact .inr h1.1
  ·have hkx:=hk x ag
   have hno:(k:Int)∉F3 b x:=λ hh=>by rw [Rz hh] at hkx;cases hkx
   refine⟨?_,hlow.out k λ hh=>hno (aV hh)⟩
   rcases htr.fgs k with h1 | h1
   ·exact h1
   ·exact absurd (aV h1.2) hno
  ·have hi2:i<(F3 b x).length:=(aa.1 hk).1
   have hmt:m∈(F3 b x).take (F3 b x).length:=by rw [ay];exact ae hm
   by_cases hn:fg b (Ba (Bj q (H9 b x (q,acts)).1) (Kw b x (q,acts)).1) k.toNat=none
   ·obtain⟨h1,h2⟩:=htr.ord i k hi2 hk hn
    exact⟨hlow.low h1 m hmt,λ _=>h2 i' m hi hm hf⟩
   ·have hch2:(H9 b x (q,acts)).1.getD k.toNat 0≠q.Am.getD k.toNat 0:=by
     rw [(hsame k (ae hk)).2]
     rcases hch with h1 | h1
     ·exact absurd h1 hn
     ·exact h1
    exact⟨hlow.ord i k hi2 hk hch2 i' m hi hm,λ hh=>absurd hh hn⟩
 ·rename_i hs
  have hex:Bn b q (Ea x)=0:=by
   have h0:0<=Bn b q (Ea x):=Int.le_max_left _ _
   by_cases hp:0<Bn b q (Ea x)
   ·have:=zY hp
    rw [hso] at this
    exact absurd this hs
   ·omega
  refine⟨⟨hq,Fd.refl b q,rfl,λ _ hk=>hk,λ _=>bB _,λ _=>.inl rfl,λ _ _=>⟨rfl,rfl⟩⟩,⟨hex,λ i k hk hch=>?_⟩⟩
  exfalso
  obtain⟨a1,a2⟩:=hsame k (ae hk)
  rcases hch with h1 | h1
  ·have h1':fg b q k.toNat=none:=h1
   obtain⟨a,e,_,h3⟩:=Ei.1 (hcon k (ae hk))
   have ea:k.toNat=a:=by omega
   rw [ea,h3] at h1';cases h1'
  ·exact h1 a2
theorem Ahb {b:Aa} (h:Ap b) {c:Ab} (hc:Ao b c) (acts:List Ak):∀ (E D:List Aj) (q:Ab) (as:List Ak),D++E=Bg b c->Aft b D c q->(∀ x,x∈D->Don b c q x) ->
  Aft b (Bg b c) c (F1 b E (q,as)).1/\∀ x,x∈Bg b c->Don b c (F1 b E (q,as)).1 x
 | [],D,q,as,e,u,v=>by
  rw [aH] at e;subst e
  exact⟨u,v⟩
 | x::E,D,q,as,e,u,v=>by
  have hx:x∈Bg b c:=by rw [←e];exact aq.2 (.inr ag)
  have hap:=Ad3 h c
  rw [←e] at hap
  obtain⟨_,_,hap3⟩:=List.pairwise_append.1 hap
  have hd:∀ y,y∈D->∀ k,¬(Dk y k=true/\Dk x k=true):=λ y hy k=>hap3 y hy x ag k
  obtain⟨h1,h2⟩:=Ayh h hc u u.ok hx hd as
  have e2:F1 b (x::E) (q,as)=F1 b E ((Gy b (q,as) x).1,(Gy b (q,as) x).2):=rfl
  rw [e2]
  refine Ahb h hc acts E (D++[x]) _ _ (by rw [aY];exact e) (u.trans h1) λ y hy=>?_
  rcases aq.1 hy with hy | hy
  ·refine (v y hy).aft h u.ok h1 λ z hz k=>?_
   rw [aP.1 hz]
   exact hd y hy k
  ·rw [aP.1 hy];exact h2
theorem yX {b:Aa} (h:Ap b) {p:Ab} (hp:Ao b p):Aft b (Bg b (Gs b p)) (Gs b p) (F2 b p)/\∀ x,x∈Bg b (Gs b p)->Don b (Gs b p) (F2 b p) x:=
 Ahb h (J1 hp) [] _ [] _ _ rfl (Aft.refl (J1 hp)) λ x hx=>by cases hx
theorem Acg {b:Aa} (h:Ap b) {p:Ab} (hp:Ao b p) {n:Nat} (hn:n<b.Al.toNat):F17 b p (n:Int)=some (Bp b p n):=by
 have hcl:=h.col
 have hlen:(isl b p (Bc b p n)).Af.length<=b.Af.length:=C1 _ _
 have hof:F50 b p (n:Int)=some (isl b p (Bc b p n),true):=Qd h hp hn
 unfold F17
 rw [hof]
 simp only [ab]
 by_cases hs:0<(isl b p (Bc b p n)).Ac.length
 ·have e0:uS (isl b p (Bc b p n),true)=false:=by
   unfold uS
   simp only [bi,aT,dA]
   omega
  rw [e0,cond_false]
  have key:Ok (andThen (foldI (vZ p) (isl b p (Bc b p n)).Af 0 0) (λ _=>none) λ z0=>some z0) λ y=>y=Bp b p n:=by
   refine Ok.andThen (A:=λ s=>s=Bp b p n) (B:=λ (_:Unit)=>False) ?_ (λ s hs=>Ok.pure hs) (λ _ h=>h.elim)
   refine c6 (I:=λ j s=>s=I3 p.Am ((isl b p (Bc b p n)).Af.take j)/\0<=s/\s<=50000*(j:Int)) ⟨rfl,by omega,by omega⟩ (λ j c s hc hI=>?_) λ s hI=>?_
   ·obtain⟨h1,h2,h3⟩:=hI
    have hj:j<(isl b p (Bc b p n)).Af.length:=(aa.1 hc).1
    have hcm:=G2 (ae hc)
    obtain⟨g1,g2,g3,g4⟩:=Sc h hp hcm.1 hcm.2
    unfold vZ
    rw [g1]
    simp only [ab]
    rw [A5 (by omega)]
    refine c5 ⟨?_,by omega,by omega⟩
    rw [Bi hc,H5,h1]
   ·rw [ay] at hI
    unfold Bp
    rw [if_pos hs]
    exact hI.1
  obtain⟨r,e,h1⟩:=key
  rw [h1] at e
  exact e
 ·have e0:uS (isl b p (Bc b p n),true)=true:=by
   unfold uS
   simp only [bi,aT,dz]
   omega
  rw [e0,cond_true]
  unfold Bp
  rw [if_neg hs]
theorem X5 {b:Aa} (h:Ap b) {p:Ab} (hp:Ao b p) {n:Nat} (hn:n<b.Al.toNat):F18 b p (n:Int)=some (Ci b p n):=by
 have hcl:=h.sol
 have hlen:(isl b p (Bc b p n)).Ac.length<=b.Ac.length:=C1 _ _
 have key:Ok (F18 b p (n:Int)) λ y=>y=Ci b p n:=by
  unfold F18
  have hof:F50 b p (n:Int)=some (isl b p (Bc b p n),true):=Qd h hp hn
  rw [hof]
  simp only [ab]
  refine Ok.andThen (A:=λ s=>s=Ci b p n) (B:=λ (_:Unit)=>False) ?_ (λ s hs=>Ok.pure hs) (λ _ h=>h.elim)
  refine c6 (I:=λ j s=>s=I3 (Lj b) ((isl b p (Bc b p n)).Ac.take j)/\0<=s/\s<=50000*(j:Int)) ⟨rfl,by omega,by omega⟩ (λ j c s hc hI=>?_) λ s hI=>?_
  ·obtain⟨h1,h2,h3⟩:=hI
   have hj:j<(isl b p (Bc b p n)).Ac.length:=(aa.1 hc).1
   have hcm:=Jw (ae hc)
   unfold Alf
   refine (c9 hcm.1 hcm.2).bind λ y hy=>?_
   have hr:=(h.so y (ae hy)).1
   have e:(Lj b).getD c.toNat 0=y.Rating:=by simp [Lj,List.getD,hy]
   rw [A5 (by omega)]
   refine c5 ⟨?_,by omega,by omega⟩
   rw [Bi hc,H5,h1,e]
  ·rw [ay] at hI
   exact hI.1
 obtain⟨r,e,h1⟩:=key
 rw [h1] at e
 exact e
theorem A2x {b:Aa} (h:Ap b) {p:Ab} (hp:Ao b p) {n:Nat} (hn:n<b.Al.toNat):F22 b p (n:Int)=some (decide (0<Bn b p n)):=by
 unfold F22
 rw [Acg h hp hn,X5 h hp hn]
 simp only [ab]
 have e:Bp b p n>Ci b p n↔0<Bn b p n:=by unfold Bn;omega
 rw [decide_eq_decide.2 e]

theorem Aoc {b:Aa} (h:Ap b) {p:Ab} (hp:Ao b p) {j:Nat} {x:Ah} (hx:b.Ad[j]? = some x):Alp b p (j:Int)=some (Bx p x):=by
 have hbr:=(h.br x (ae hx)).2
 have hns:=hp.nso
 unfold Alp Bx
 rw [A8 hx]
 simp only [Amc,ab]
 cases brk p.Ai 3 x.A with
 | true=>rfl
 | false=>
  simp only [cond_false,aT]
  rcases hbr with⟨hk,_⟩ | ⟨hk,h0,h1⟩ | ⟨hk,_⟩
  ·rw [hk];rfl
  ·rw [hk]
   have e:p.Ac[x.B.toNat]? = some (p.Ac.getD x.B.toNat default):=by
    rw [af (by omega)];simp [List.getD,List.getElem?_eq_getElem (show x.B.toNat<p.Ac.length by omega)]
   have e2:getI p.Ac x.B=some (p.Ac.getD x.B.toNat default):=by
    unfold getI;rw [dC h0];exact e
   rw [e2]
   cases brk p.Ai 1 x.B <;> rfl
  ·rw [hk];rfl
theorem Aui {b:Aa} (h:Ap b) {q r:Ab} (hq:Ao b q) (hr:Ao b r) (s:Fd b q r) (n:Nat):A2 b r n=A2 b q n:=by
 unfold A2;rw [s.groups hq.ncl hr.ncl,s.sources h hq hr]
theorem Acf {b:Aa} {C:List Bool} {q:Ah->Bool} {j:Nat}:(Bk C (B5 b C q j)).getD j false=C.getD j false:=by
 rw [Ly]
 have:((B5 b C q j).any λ i=>i.toNat==j)=false:=by
  rw [bN]
  intro i hi
  obtain⟨k,e,hk,_⟩:=Hd.1 hi
  simp only [dz]
  omega
 rw [this];simp
theorem Avm {b:Aa} {p:Ab} {j:Nat}:Fd b p ⟨Bk p.Ae (B5 b p.Ae (Ck b p) j),p.Ac,p.Am,p.Ai⟩:=⟨rfl,λ k x hx hk=>by
 show (Bk p.Ae (B5 b p.Ae (Ck b p) j)).getD k false=_
 rw [Ly]
 have:((B5 b p.Ae (Ck b p) j).any λ i=>i.toNat==k)=false:=by
  rw [bN]
  intro i hi
  obtain⟨m,e,_,_,hd⟩:=Hd.1 hi
  simp only [dz]
  intro e2
  have:m=k:=by omega
  subst this
  rw [Cc hx] at hd
  simp only [Ck,ac,dz] at hd
  exact hk hd.1
 rw [this];simp⟩
theorem Apw {b:Aa} (h:Ap b) {p:Ab} (hp:Ao b p):Ok (F66 b p) λ y=>y.1=Gs b p/\y.2.2=0/\y.2.1.length<=48:=by
 have hbl:=h.brl
 have hcl:=hp.ncl
 unfold F66
 rw [Hc h hp]
 simp only [ab]
 refine c4 (λ hc=>by simp at hc) (λ _=>?_)
 rw [Aaf h hp]
 simp only [ab]
 refine Ok.andThen (A:=λ (s:Int×List Bool×List Ak)=>s.2.1=(B3 b p).Ae/\s.2.2.length<=24) (B:=λ (_:Unit)=>False) ?_ (λ s hs=>?_) (λ _ h=>h.elim)
 ·refine c8 (λ (s:Int×List Bool×List Ak)=>∃ j:Nat,s.1=(j:Int)/\j<=b.Ad.length/\s.2.1=Bk p.Ae (B5 b p.Ae (Bx p) j)/\s.2.2.length<=j) (λ s=>(100-s.1).toNat) _ _ ⟨0,rfl,by omega,rfl,by simp⟩ (by dsimp only;omega) ?_
  rintro⟨z,C,as⟩ ⟨j,hz,h1,h2,h3⟩
  dsimp only at hz h2 h3
  subst hz
  subst h2
  unfold Akw A1p
  dsimp only
  have hlen:(Bk p.Ae (B5 b p.Ae (Bx p) j)).length=b.Ad.length:=by rw [Js];exact hcl
  refine c4 (λ hq=>?_) (λ hq=>?_)
  ·simp only [dx] at hq
   have hj:j<b.Ad.length:=by omega
   have hx:b.Ad[j]? = some (b.Ad.getD j default):=by
    rw [af hj];simp [List.getD,List.getElem?_eq_getElem hj]
   have hg:getI (Bk p.Ae (B5 b p.Ae (Bx p) j)) (j:Int)=some (p.Ae.getD j false):=by
    rw [←Acf (b:=b) (C:=p.Ae) (q:=Bx p)]
    refine A8 ?_
    rw [af (by omega)]
    simp [List.getD,List.getElem?_eq_getElem (show j<(Bk p.Ae (B5 b p.Ae (Bx p) j)).length by omega)]
   rw [hg,Aoc h hp hx]
   simp only [ab]
   have e2:w64 ((j:Int)+1)=((j+1:Nat):Int):=by rw [A5 (by omega)];omega
   have hsu:=Kh (C:=p.Ae) (q:=Bx p) hx
   rw [e2]
   have eg:(Az [(p.Ae.getD j false,true)] (some (Bx p (b.Ad.getD j default))) default)=some (bif p.Ae.getD j false then Bx p (b.Ad.getD j default) else default):=by
    cases p.Ae.getD j false <;> rfl
   rw [eg]
   simp only [ab]
   have ec:(p.Ae.getD j false&&bif p.Ae.getD j false then Bx p (b.Ad.getD j default) else default)=(p.Ae.getD j false&&Bx p (b.Ad.getD j default)):=by
    cases p.Ae.getD j false <;> rfl
   rw [ec]
   refine c4 (λ hc=>?_) (λ hc=>?_)
   ·refine (cV (by omega) (by omega)).bind λ y hy=>?_
    refine (cW (by simp;omega)).bind λ w hw=>c5 ⟨⟨j+1,rfl,by omega,?_,by rw [hw];simp;omega⟩,by dsimp only;omega⟩
    rw [hsu,if_pos hc,J8,hy]
   ·refine c5 ⟨⟨j+1,rfl,by omega,?_,by dsimp only;omega⟩,by dsimp only;omega⟩
    rw [hsu,if_neg (by rw [hc];simp),aH]
  ·simp only [dy] at hq
   have:j=b.Ad.length:=by omega
   subst this
   exact cX ⟨rfl,by dsimp only;omega⟩
 ·obtain⟨i,C,as⟩:=s
  dsimp only at hs
  obtain⟨hC,ha⟩:=hs
  subst hC
  have hq1:Ao b (B3 b p):=K_ hp
  have hlen1:(B3 b p).Ae.length=b.Ad.length:=hq1.ncl
  refine Ok.andThen (A:=λ (s:List Bool×List Ak)=>s.1=(I9 b p).Ae/\s.2.length<=48) (B:=λ (_:Unit)=>False) ?_ (λ s hs=>?_) (λ _ h=>h.elim)
  ·refine c6 (I:=λ j (s:List Bool×List Ak)=>s.1=Bk (B3 b p).Ae (B5 b (B3 b p).Ae (Ck b (B3 b p)) j)/\s.2.length<=24+j) ⟨rfl,by dsimp only;omega⟩ (λ j x s hx hI=>?_) λ s hI=>⟨hI.1,by have:=hI.2;omega⟩
   obtain⟨D,as2⟩:=s
   obtain⟨h1,h2⟩:=hI
   dsimp only at h1 h2
   subst h1
   have hj:j<b.Ad.length:=(aa.1 hx).1
   have hlen:(Bk (B3 b p).Ae (B5 b (B3 b p).Ae (Ck b (B3 b p)) j)).length=b.Ad.length:=by rw [Js];exact hlen1
   have ec:cnt 0 j=(j:Int):=Co (by omega)
   have hg:getI (Bk (B3 b p).Ae (B5 b (B3 b p).Ae (Ck b (B3 b p)) j)) (j:Int)=some ((B3 b p).Ae.getD j false):=by
    rw [←Acf (b:=b) (C:=(B3 b p).Ae) (q:=Ck b (B3 b p))]
    refine A8 ?_
    rw [af (by omega)]
    simp [List.getD,List.getElem?_eq_getElem (show j<(Bk (B3 b p).Ae (B5 b (B3 b p).Ae (Ck b (B3 b p)) j)).length by omega)]
   have hok:Ao b ⟨Bk (B3 b p).Ae (B5 b (B3 b p).Ae (Ck b (B3 b p)) j),p.Ac,p.Am,p.Ai⟩:=Yx _ hq1
   have hA:=(h.br x (ae hx)).1
   have hlive:F14 b ⟨Bk (B3 b p).Ae (B5 b (B3 b p).Ae (Ck b (B3 b p)) j),p.Ac,p.Am,p.Ai⟩ x.A=some (A2 b (B3 b p) x.A.toNat):=by
    have e:x.A=((x.A.toNat:Nat):Int):=by omega
    have:=Ach h hok (n:=x.A.toNat) (by omega)
    rw [←e] at this
    rw [this,←Aui h hq1 hok Avm]
   have hsu:=Kh (C:=(B3 b p).Ae) (q:=Ck b (B3 b p)) hx
   unfold Akv
   dsimp only
   rw [ec,hg,hlive]
   have e1:(Az [((x.Kind==3),true)] (some ((B3 b p).Ae.getD j false)) default)=some (bif x.Kind==3 then (B3 b p).Ae.getD j false else default):=by
    cases x.Kind==3 <;> rfl
   rw [e1]
   simp only [ab]
   have e2:∀ g:Bool,(Az [(g,true)] (some (A2 b (B3 b p) x.A.toNat)) default)=some (bif g then A2 b (B3 b p) x.A.toNat else default):=by
    intro g;cases g <;> rfl
   rw [e2]
   simp only [ab]
   have e3:((x.Kind==3)&&(bif x.Kind==3 then (B3 b p).Ae.getD j false else default) && !(bif (x.Kind==3)&&(bif x.Kind==3 then (B3 b p).Ae.getD j false else default) then A2 b (B3 b p) x.A.toNat else default))=((B3 b p).Ae.getD j false&&Ck b (B3 b p) x):=by
    unfold Ck
    cases x.Kind==3 <;> cases (B3 b p).Ae.getD j false <;> rfl
   rw [e3]
   refine c4 (λ hc=>?_) (λ hc=>?_)
   ·refine (cV (by omega) (by omega)).bind λ y hy=>?_
    refine (cW (by simp;omega)).bind λ w hw=>c5 ⟨?_,by rw [hw];simp;omega⟩
    rw [hsu,if_pos hc,J8,hy]
   ·refine c5 ⟨?_,by dsimp only;omega⟩
    rw [hsu,if_neg (by rw [hc];simp),aH]
  ·rw [hs.1]
   have hf:=Al3 h (Nh hp)
   have hf2:Aa8 b ⟨(I9 b p).Ae,p.Ac,p.Am,p.Ai⟩=some (Gs b p,0):=hf
   rw [hf2]
   exact Ok.pure ⟨rfl,rfl,hs.2⟩
theorem A3c {b:Aa} (h:Ap b) {c:Ab} {n:Nat} (hn:n<b.Al.toNat):∃ x,x∈Bg b c/\Bc b c (Ea x)=Bc b c n:=by
 have hgg:=Azp (s:=groups b c) (i:=n) (by rw [Ho];exact hn)
 have hlo:=O_ h c n _ hgg
 have hgn:(groups b c).getD n 0=((Bc b c n:Nat):Int):=by unfold Bc;omega
 have hmem:(n:Int)∈(isl b c (Bc b c n)).Al:=an.2 ⟨n,ao.2 ⟨aI.2 hn,by rw [dz];exact hgn⟩,rfl⟩
 have hx:isl b c (Bc b c n)∈Bg b c:=by
  refine ao.2 ⟨an.2 ⟨Bc b c n,aI.2 (by omega),rfl⟩,?_⟩
  unfold I6
  cases hl:(isl b c (Bc b c n)).Al with
  | nil=>rw [hl] at hmem;cases hmem
  | cons y l=>
   simp only [aS,aJ,dA]
   omega
 exact⟨_,hx,Ai7 h hx⟩
theorem A3h {b:Aa} (h:Ap b) {p:Ab} (hp:Ao b p) {n:Nat} (hn:n<b.Al.toNat):Bn b (F2 b p) n=0:=by
 obtain⟨u,v⟩:=yX h hp
 obtain⟨x,hx,e⟩:=A3c (c:=Gs b p) h hn
 have:=(v x hx).exc
 have e2:Bc b (F2 b p) (Ea x)=Bc b (F2 b p) n:=by
  rw [E0 (J1 hp) u.ok u.skel,E0 (J1 hp) u.ok u.skel,e]
 unfold Bn Bp Ci at this ⊢
 rw [e2] at this
 exact this
theorem Ayk {b:Aa} (h:Ap b) {p:Ab} (hp:Ao b p) {k:Nat} {x:Ah} (hx:b.Ad[k]? = some x) (hc:(F2 b p).Ae.getD k false=true):Bx p x=false:=by
 obtain⟨u,_⟩:=yX h hp
 have h1:(I9 b p).Ae.getD k false=true:=u.mono k hc
 have hk:=(aa.1 hx).1
 have h2:(acC b p.Ae (Bx p)).getD k false=true:=Q0 b _ _ (K_ hp).ncl k h1
 rw [I1 b _ _ hk,Cc hx] at h2
 simp only [ac,aJ] at h2
 exact h2.2
def Lf (b:Aa) (sd:Int->Bool):Dg:=b.Ad.zipIdx.map λ z=>(z.1,sd (z.2:Int))
theorem O0 {b:Aa} {sd:Int->Bool} {i j:Nat}:Tie (Lf b sd) i j↔∃ (k:Nat) (x:Ah),b.Ad[k]? = some x/\x.Kind=1/\sd (k:Int)=true/\((x.A.toNat=i/\x.B.toNat=j)\/(x.A.toNat=j/\x.B.toNat=i)):=by
 constructor
 ·rintro⟨z,hz,h1,h2,h3⟩
  obtain⟨⟨x,k⟩,hm,rfl⟩:=an.1 hz
  rw [bH] at hm
  exact⟨k,x,hm,h1,h2,h3⟩
 ·rintro⟨k,x,hx,h1,h2,h3⟩
  exact⟨(x,sd (k:Int)),an.2 ⟨(x,k),by rw [bH];exact hx,rfl⟩,h1,h2,h3⟩
theorem Ys {b:Aa} (h:Ap b) (sd:Int->Bool):uZ (Lf b sd) b.Al.toNat:=by
 intro i j t
 obtain⟨k,x,hx,hk,_,he⟩:=O0.1 t
 have:=h.br x (ae hx)
 unfold Jp at this
 omega
def lv (s:List Bool) (i:Nat):Prop:=s.getD i false=true
theorem Mx {s:List Bool} {i:Nat} (h:lv s i):i<s.length:=by
 unfold lv List.getD at h
 by_cases hl:i<s.length
 ·exact hl
 ·rw [bV (by omega)] at h;cases h
theorem Ms {sd:Int->Bool} {s:List Bool} {z:Ah×Nat} {i:Nat} (hi:i<s.length):(Ee sd s z).getD i false=if (z.1.Kind=1/\sd (z.2:Int)=true)/\(i=z.1.A.toNat\/i=z.1.B.toNat) then (s.getD z.1.A.toNat false || s.getD z.1.B.toNat false) else s.getD i false:=by
 unfold Ee
 by_cases hk:z.1.Kind=1/\sd (z.2:Int)=true
 ·rw [if_pos hk]
  by_cases hB:i=z.1.B.toNat
  ·rw [if_pos ⟨hk,.inr hB⟩]
   rw [a9,am,if_pos hB.symm,if_pos (by rw [bj];omega)];rfl
  ·by_cases hA:i=z.1.A.toNat
   ·rw [if_pos ⟨hk,.inl hA⟩]
    rw [a9,am,if_neg (λ e=>hB e.symm),am,if_pos hA.symm,if_pos (by omega)];rfl
   ·rw [if_neg (λ hh=>hh.2.elim hA hB)]
    rw [a9,am,if_neg (λ e=>hB e.symm),am,if_neg (λ e=>hA e.symm)];rfl
 ·rw [if_neg hk,if_neg (λ hh=>hk hh.1)]
theorem Uk {sd:Int->Bool} {s:List Bool} {z:Ah×Nat} {i:Nat} (h:lv s i):lv (Ee sd s z) i:=by
 have hi:=Mx h
 unfold lv at h ⊢
 rw [Ms hi]
 split
 ·rename_i hh
  rcases hh.2 with e | e
  ·rw [←e,h];rfl
  ·rw [←e,h];simp
 ·exact h
theorem Rw {sd:Int->Bool}:∀ (l:List (Ah×Nat)) {s:List Bool} {i:Nat},lv s i->lv (C5 sd l s) i
 | [],_,_,h=>h
 | z::l,s,i,h=>by
  show lv (C5 sd l (Ee sd s z)) i
  exact Rw l (Uk h)
theorem Acc {sd:Int->Bool} {z:Ah×Nat} (hk:z.1.Kind=1) (hs:sd (z.2:Int)=true):∀ (l:List (Ah×Nat)) {s:List Bool},z∈l->z.1.A.toNat<s.length->z.1.B.toNat<s.length->(lv s z.1.A.toNat\/lv s z.1.B.toNat)->lv (C5 sd l s) z.1.A.toNat/\lv (C5 sd l s) z.1.B.toNat
 | [],_,h,_,_,_=>by cases h
 | y::l,s,h,hA,hB,ho=>by
  show lv (C5 sd l (Ee sd s y)) _/\lv (C5 sd l (Ee sd s y)) _
  rcases aj.1 h with rfl | h
  ·have he:(s.getD z.1.A.toNat false || s.getD z.1.B.toNat false)=true:=by
    rw [aB];exact ho
   have a1:lv (Ee sd s z) z.1.A.toNat:=by
    unfold lv;rw [Ms hA,if_pos ⟨⟨hk,hs⟩,.inl rfl⟩];exact he
   have a2:lv (Ee sd s z) z.1.B.toNat:=by
    unfold lv;rw [Ms hB,if_pos ⟨⟨hk,hs⟩,.inr rfl⟩];exact he
   exact⟨Rw l a1,Rw l a2⟩
  ·exact Acc hk hs l h (by rw [Je];exact hA) (by rw [Je];exact hB) (ho.imp Uk Uk)
theorem Ag7 {b:Aa} (h:Ap b) {sd:Int->Bool} {s:List Bool} (hl:s.length=b.Al.toNat) {j:Nat} (hj:lv s j):∀ (r i:Nat),De (Lf b sd) j r i->lv ((List.range r).foldl (λ s _=>C5 sd b.Ad.zipIdx s) s) i:=by
 intro r
 induction r with
 | zero=>intro i hc;cases hc;exact hj
 | succ r ih=>
  intro i hc
  rw [bt,aN]
  simp only [aU,List.foldl_nil]
  cases hc with
  | stay hc=>exact Rw _ (ih i hc)
  | step hc t=>
   rename_i k
   have hk:=ih k hc
   have hlt:=Ys h sd _ _ t
   obtain⟨m,x,hx,h1,h2,he⟩:=O0.1 t
   have hlen:=Jf sd b.Ad.zipIdx (List.range r) s
   have hm:(x,m)∈b.Ad.zipIdx:=by rw [bH];exact hx
   have:=Acc (z:=(x,m)) h1 h2 _ hm (by dsimp only;omega) (by dsimp only;omega) (s:=(List.range r).foldl (λ s _=>C5 sd b.Ad.zipIdx s) s) (by
    dsimp only
    rcases he with⟨e1,_⟩ | ⟨_,e2⟩
    ·rw [e1];exact .inl hk
    ·rw [e2];exact .inr hk)
   dsimp only at this
   rcases he with⟨_,e2⟩ | ⟨e1,_⟩
   ·rw [←e2];exact this.2
   ·rw [←e1];exact this.1
theorem Acd {b:Aa} {sd:Int->Bool} {Q:Nat->Prop} (hQ:∀ i j,Tie (Lf b sd) i j->Q i->Q j):∀ (l:List (Ah×Nat)) {s:List Bool},(∀ z,z∈l->z∈b.Ad.zipIdx)->(∀ i,lv s i->Q i)->∀ i,lv (C5 sd l s) i->Q i
 | [],_,_,h=>h
 | z::l,s,hz,h=>by
  show ∀ i,lv (C5 sd l (Ee sd s z)) i->Q i
  refine Acd hQ l (λ y hy=>hz y (ai _ hy)) λ i hi=>?_
  have hlt:=Mx hi
  rw [Je] at hlt
  unfold lv at hi
  rw [Ms hlt] at hi
  split at hi
  ·rename_i hh
   obtain⟨⟨hk,hs⟩,he⟩:=hh
   have hm:=hz z ag
   have hx:b.Ad[z.2]? = some z.1:=by
    have:(z.1,z.2)∈b.Ad.zipIdx:=hm
    rw [bH] at this
    exact this
   have t:Tie (Lf b sd) z.1.A.toNat z.1.B.toNat:=O0.2 ⟨z.2,z.1,hx,hk,hs,.inl ⟨rfl,rfl⟩⟩
   rw [aB] at hi
   rcases hi with hi | hi
   ·have q:=h _ hi
    rcases he with e | e
    ·rw [e];exact q
    ·rw [e];exact hQ _ _ t q
   ·have q:=h _ hi
    rcases he with e | e
    ·rw [e];exact hQ _ _ t.symm q
    ·rw [e];exact q
  ·exact h i hi
theorem Sm {b:Aa} (h:Ap b) {u sd:Int->Bool} {i:Nat}:lv (Eg b u sd) i↔∃ j,lv (Sa b u) j/\Bm (Lf b sd) j i:=by
 constructor
 ·intro hi
  have key:∀ (xs:List Nat) (s:List Bool),(∀ i,lv s i->∃ j,lv (Sa b u) j/\Bm (Lf b sd) j i)->∀ i,lv (xs.foldl (λ s _=>C5 sd b.Ad.zipIdx s) s) i->∃ j,lv (Sa b u) j/\Bm (Lf b sd) j i:=by
   intro xs
   induction xs with
   | nil=>intro s hs;exact hs
   | cons x xs ih=>intro s hs;exact ih _ (Acd (λ i j t=>by rintro⟨m,h1,h2⟩;exact⟨m,h1,h2.tie t⟩) _ (λ _ hz=>hz) hs)
  exact key _ _ (λ i hi=>⟨i,hi,Bm.refl _ _⟩) i hi
 ·rintro⟨j,hj,hc⟩
  have hlt:=Mx hj
  rw [Ja] at hlt
  exact Ag7 h (Ja b u) hj _ _ (Ss (Ys h sd) hlt hc)
theorem Azo {b:Aa} (h:Ap b) {u sd:Int->Bool} {i j:Nat} (t:Tie (Lf b sd) i j):lv (Eg b u sd) i->lv (Eg b u sd) j:=by
 rw [Sm h,Sm h]
 rintro⟨m,h1,h2⟩
 exact⟨m,h1,h2.tie t⟩
theorem A4b {b:Aa} {u:Int->Bool} {s:List Bool} {k i:Nat} (h:lv s i):lv (lit b u s k) i:=by
 unfold lit
 split
 ·have hi:=Mx h
  unfold lv at h ⊢
  rw [a9,am]
  split
  ·rename_i e;rw [if_pos (by omega)];rfl
  ·rw [←a9];exact h
 ·exact h
theorem Ay4 {b:Aa} {u:Int->Bool} {j:Nat} (hj:j<b.Al.toNat):lv (Sa b u) j↔∃ k,k<b.Ac.length/\u (k:Int)=true/\(b.Ad.getD (Fl b (k:Int)).toNat default).A.toNat=j:=by
 have key : ∀ (n : Nat), (lv ((List.range n).foldl (lit b u) (List.replicate b.Al.toNat false)) j ↔ ∃ k, k < n /\ u (k : Int) = true /\ (b.Ad.getD (Fl b (k : Int)).toNat default).A.toNat = j) /\ ((List.range n).foldl (lit b u) (List.replicate b.Al.toNat false)).length = b.Al.toNat := by
  intro n
  induction n with
  | zero=>
   refine⟨⟨λ hh=>?_,λ ⟨k,hk,_⟩=>by omega⟩,by simp⟩
   unfold lv at hh
   simp [List.getD_eq_getElem?_getD,List.getElem?_replicate] at hh
   split at hh <;> simp at hh
  | succ n ih=>
   obtain⟨ih,hl⟩:=ih
   rw [bt,aN]
   simp only [aU,List.foldl_nil]
   generalize (List.range n).foldl (lit b u) (List.replicate b.Al.toNat false)=s at ih hl ⊢
   refine⟨⟨λ hh=>?_,λ hh=>?_⟩,by rw [Sb];exact hl⟩
   ·unfold lit at hh
    split at hh
    ·rename_i hu
     by_cases e:(b.Ad.getD (Fl b (n:Int)).toNat default).A.toNat=j
     ·exact⟨n,by omega,hu,e⟩
     ·unfold lv at hh
      rw [a9,am,if_neg e,←a9] at hh
      obtain⟨k,hk,h2⟩:=ih.1 hh
      exact⟨k,by omega,h2⟩
    ·obtain⟨k,hk,h2⟩:=ih.1 hh
     exact⟨k,by omega,h2⟩
   ·obtain⟨k,hk,hu,he⟩:=hh
    by_cases e:k=n
    ·subst e
     unfold lit
     rw [if_pos hu]
     unfold lv
     rw [a9,am,if_pos he,if_pos (by omega)];rfl
    ·exact A4b (ih.2 ⟨k,by omega,hu,he⟩)
 exact (key b.Ac.length).1
theorem Ah6 {α:Type} (g:Bool) (v d:α):Az [(g,false)] (some v) d=some (bif g then d else v):=by cases g <;> rfl
theorem Hw {α:Type} (g:Bool) (v d:α):Az [(g,true)] (some v) d=some (bif g then v else d):=by cases g <;> rfl
def D1 (b:Aa) (p:Ab) (j:Int):Bool:=
  ((!p.Ae.getD j.toNat false && !brk p.Ai 2 j) && !brk p.Ai 3 (b.Ad.getD j.toNat default).A) &&
  (if (b.Ad.getD j.toNat default).Kind=1 then !brk p.Ai 3 (b.Ad.getD j.toNat default).B
   else if (b.Ad.getD j.toNat default).Kind=2 then !brk p.Ai 1 (b.Ad.getD j.toNat default).B&&((p.Ac.getD (b.Ad.getD j.toNat default).B.toNat default).State==2)
   else !brk p.Ai 4 (b.Ad.getD j.toNat default).B && !(Dt (B1 b p 3 (b.Ad.getD j.toNat default).B)).2)
theorem Ar6 {b:Aa} (h:Ap b) {p:Ab} (hp:Ao b p) {j:Int} (h0:0<=j) (h1:j<b.Ad.length):Z1 b p j=some (D1 b p j):=by
 have hbl:p.Ai.length<=1000:=by have:=hp.brk.len;omega
 have hn:=hp.nso
 have hc:=hp.ncl
 obtain⟨x,hx⟩:∃ x,b.Ad[j.toNat]? = some x:=⟨_,af (by omega)⟩
 have hd:=Cc hx
 have hb:=h.br x (ae hx)
 unfold Jp at hb
 have g1:getI b.Ad j=some x:=by have:=A8 hx;rwa [az h0] at this
 have g2:getI p.Ae j=some (p.Ae.getD j.toNat false):=by have:=A8 (G9 hp (j:=j.toNat) (by omega));rwa [az h0] at this
 unfold Z1 D1
 rw [g1,g2,hd]
 simp only [ab,C9 hbl,Ah6]
 generalize p.Ae.getD j.toNat false=v
 generalize brk p.Ai 2 j=b2
 generalize brk p.Ai 3 x.A=b3
 cases v with
 | true=>simp
 | false=>
  cases b2 with
  | true=>simp
  | false=>
   cases b3 with
   | true=>simp
   | false=>
    simp only [Bool.or_false,cond_false,Bool.not_false,bA,aM,Bool.or_self]
    rcases hb.2 with⟨hk,_⟩ | ⟨hk,k0,k1⟩ | ⟨hk,_⟩
    ·rw [hk];rfl
    ·rw [hk]
     have g3:getI p.Ac x.B=some (p.Ac.getD x.B.toNat default):=by
      have e:p.Ac[x.B.toNat]? = some (p.Ac.getD x.B.toNat default):=by
       rw [af (by omega)];simp [List.getD,List.getElem?_eq_getElem (show x.B.toNat<p.Ac.length by omega)]
      have:=A8 e;rwa [az k0] at this
     rw [g3]
     simp only [Hw,ab]
     cases brk p.Ai 1 x.B <;> rfl
    ·rw [hk]
     unfold F86
     rw [B4 h hp,qZ h hc]
     rfl
theorem Abj {b:Aa} {p:Ab} {j:Int} {x:Ah} (hx:b.Ad[j.toNat]? = some x) (hs:D1 b p j=true) (hk:x.Kind=3):B1 b p 3 x.B=none:=by
 unfold D1 at hs
 rw [Cc hx,hk] at hs
 simp only [ac] at hs
 have:=hs.2
 simp at this
 exact Aci this.2
def A7 (b:Aa) (p:Ab) (j:Nat):Ab:=⟨p.Ae.set j true,Cr b ⟨p.Ae.set j true,p.Ac,p.Am,p.Ai⟩,p.Am,p.Ai⟩
def A38 (b:Aa) (p:Ab) (k:Nat) (x:Ah):Prop:=brk p.Ai 2 (k:Int)=false/\brk p.Ai 3 x.A=false/\(x.Kind=1->brk p.Ai 3 x.B=false)/\(x.Kind=2->brk p.Ai 1 x.B=false/\(p.Ac.getD x.B.toNat default).State=2)
theorem Ar5 {b:Aa} {p:Ab} {k:Nat} {x:Ah} (hx:b.Ad[k]? = some x) (hs:D1 b p (k:Int)=true):A38 b p k x:=by
 unfold D1 at hs
 rw [ah,Cc hx] at hs
 simp only [ac,aJ] at hs
 obtain⟨⟨⟨_,h2⟩,h3⟩,h4⟩:=hs
 refine⟨h2,h3,λ hk=>?_,λ hk=>?_⟩
 ·rw [if_pos hk] at h4;simpa using h4
 ·rw [if_neg (by omega),if_pos hk] at h4
  simpa using h4
structure A_a (b:Aa) (p q:Ab):Prop where
 brk:q.Ai=p.Ai
 off:∀ i:Nat,(p.Ac.getD i default).State=3->(q.Ac.getD i default).State=3
 cl:∀ (k:Nat) x,b.Ad[k]? = some x->q.Ae.getD k false=true->p.Ae.getD k false=true\/A38 b p k x
structure A_g (b:Aa) (p q:Ab):Prop where
 st:Ao b q
 brk:q.Ai=p.Ai
 off:∀ i:Nat,(p.Ac.getD i default).State=3->(q.Ac.getD i default).State=3
 safe:∀ (k:Nat) x,b.Ad[k]? = some x->q.Ae.getD k false=true->Go.Proofs.YtcigbocngfaopaaGreat.brk p.Ai 2 (k:Int)=false/\Go.Proofs.YtcigbocngfaopaaGreat.brk p.Ai 3 x.A=false/\(x.Kind=1->Go.Proofs.YtcigbocngfaopaaGreat.brk p.Ai 3 x.B=false)/\(x.Kind=2->Go.Proofs.YtcigbocngfaopaaGreat.brk p.Ai 1 x.B=false)
def Fm (b:Aa) (q:Ab) (n k:Nat):Prop:=∃ a,Ce b q (k:Int)=some a/\Bm (Bb b q) a.toNat n
def I2 (b:Aa) (q:Ab) (n k:Nat):Prop:=∃ a,B1 b q 3 (k:Int)=some a/\Bm (Bb b q) a.toNat n
theorem Ang {b:Aa} (h:Ap b) {q:Ab} {n:Nat} (hn:n<b.Al.toNat) {o:Option Int} (ho:∀ a,o=some a->0<=a/\a<b.Al):Dw b q o=some ((Bc b q n:Nat):Int)↔∃ a,o=some a/\Bm (Bb b q) a.toNat n:=by
 have hg:=E6 h q (n:=n) hn
 unfold Dw Bc
 rw [hg.2.2,cG]
 constructor
 ·rintro⟨a,e,e2⟩
  have ha:=ho a e
  exact⟨a,e,(Ef h q (by omega) hn).1 e2⟩
 ·rintro⟨a,e,c⟩
  have ha:=ho a e
  exact⟨a,e,(Ef h q (by omega) hn).2 c⟩
theorem Uj {b:Aa} (h:Ap b) {q:Ab} {n:Nat} (hn:n<b.Al.toNat) {k:Nat}:Dw b q (Ce b q (k:Int))=some ((Bc b q n:Nat):Int)↔Fm b q n k:=Ang h hn λ _ e=>Fb h e
theorem Mb {b:Aa} (h:Ap b) {q:Ab} {n:Nat} (hn:n<b.Al.toNat) {k:Nat}:Dw b q (B1 b q 3 (k:Int))=some ((Bc b q n:Nat):Int)↔I2 b q n k:=Ang h hn λ _ e=>K8 h e
theorem qX {p q:Nat->Bool} {n:Nat} (h:∀ k,k<n->(p k=true↔q k=true)):((List.range n).filter p).map (λ (i:Nat)=>(i:Int))=((List.range n).filter q).map (λ (i:Nat)=>(i:Int)):=by
 congr 1
 refine cy λ k hk=>?_
 rw [aZ]
 exact h k (aI.1 hk)
structure Dq (b:Aa) (q:Ab) (n:Nat) (r:Ab) (m:Nat):Prop where
 src:∀ k,k<b.Ac.length->(Fm b q n k↔Fm b r m k)
 con:∀ k,k<b.Af.length->(I2 b q n k↔I2 b r m k)
theorem dp {b:Aa} (h:Ap b) {q r:Ab} {n m:Nat} (hn:n<b.Al.toNat) (hm:m<b.Al.toNat) (hs:∀ k,k<b.Ac.length->(Fm b q n k↔Fm b r m k)):(isl b q (Bc b q n)).Ac=(isl b r (Bc b r m)).Ac:=
 qX λ k hk=>by rw [dz,dz,Uj h hn,Uj h hm];exact hs k hk
theorem Dq.cons {b:Aa} (h:Ap b) {q r:Ab} {n m:Nat} (hn:n<b.Al.toNat) (hm:m<b.Al.toNat) (s:Dq b q n r m):(isl b q (Bc b q n)).Af=(isl b r (Bc b r m)).Af:=
 qX λ k hk=>by rw [dz,dz,Mb h hn,Mb h hm];exact s.con k hk
theorem Dq.live {b:Aa} (h:Ap b) {q r:Ab} {n m:Nat} (hn:n<b.Al.toNat) (hm:m<b.Al.toNat) (hs:∀ k,k<b.Ac.length->(Fm b q n k↔Fm b r m k)):A2 b r m=A2 b q n:=by
 have e:=dp h hn hm hs
 unfold Bc at e
 unfold A2;rw [e]
theorem Dq.load {b:Aa} (h:Ap b) {q r:Ab} {n m:Nat} (hn:n<b.Al.toNat) (hm:m<b.Al.toNat) (s:Dq b q n r m) (hl:r.Am=q.Am):Bp b r m=Bp b q n/\Ci b r m=Ci b q n/\Bn b r m=Bn b q n:=by
 have e1:=dp h hn hm s.src
 have e2:=s.cons h hn hm
 have h1:Bp b r m=Bp b q n:=by unfold Bp;rw [e1,e2,hl]
 have h2:Ci b r m=Ci b q n:=by unfold Ci;rw [e1]
 exact⟨h1,h2,by unfold Bn;rw [h1,h2]⟩
theorem Jk {b:Aa} (h:Ap b) {q:Ab} {n:Nat} (hn:n<b.Al.toNat):A2 b q n=true↔∃ k,k<b.Ac.length/\Fm b q n k:=by
 unfold A2
 rw [dx]
 constructor
 ·intro hp
  obtain⟨i,hi⟩:∃ i,i∈(isl b q (Bc b q n)).Ac:=by
   have hp:((isl b q (Bc b q n)).Ac.length:Int)>0:=hp
   cases hl:(isl b q (Bc b q n)).Ac with
   | nil=>rw [hl] at hp;simp at hp
   | cons y l=>exact⟨y,ag⟩
  obtain⟨k,_,hk,e⟩:=Gw.1 hi
  exact⟨k,hk,(Uj h hn).1 e⟩
 ·rintro⟨k,hk,hs⟩
  have:=Gw.2 ⟨k,rfl,hk,(Uj h hn).2 hs⟩
  have:=List.length_pos_of_mem this
  unfold Bc at this
  omega
theorem L4 {b:Aa} (h:Ap b) {q:Ab} {n m:Nat} (hn:n<b.Al.toNat) (hm:m<b.Al.toNat) (c:Bm (Bb b q) n m):A2 b q n=A2 b q m:=by
 unfold A2
 rw [(Ef h q hn hm).2 c]
theorem Az3 {b:Aa} (h:Ap b) {q:Ab} {n:Nat} (hn:n<b.Al.toNat) (hd:A2 b q n=false):Bn b q n=0:=by
 have e:¬0<(isl b q (Bc b q n)).Ac.length:=by
  intro hp
  unfold A2 at hd
  rw [dy] at hd
  unfold Bc at hp
  omega
 have e2:(isl b q (Bc b q n)).Ac=[]:=by
  cases hl:(isl b q (Bc b q n)).Ac with
  | nil=>rfl
  | cons y l=>rw [hl] at e;simp at e
 unfold Bn Bp Ci
 rw [if_neg e,e2]
 rfl
theorem Ek {b:Aa} {q:Ab} (hq:Ao b q) {m:Nat} (hm:m<b.Af.length) {a:Int}:B1 b q 3 (m:Int)=some a↔∃ (k:Nat) (x:Ah),b.Ad[k]? = some x/\x.Kind=3/\x.B=(m:Int)/\q.Ae.getD k false=true/\x.A=a:=by
 have hone:=hq.one m hm
 unfold B1
 rw [cG]
 constructor
 ·rintro⟨z,hz,rfl⟩
  have h1:=List.find?_some hz
  have h2:=cH hz
  simp only [ac,dz] at h1
  obtain⟨k,g1,g2⟩:=Ae9 h2
  exact⟨k,z.1,g1,h1.1.1,h1.1.2,by rw [List.getD,g2,h1.2];rfl,rfl⟩
 ·rintro⟨k,x,hx,h1,h2,h3,rfl⟩
  have hk:=(aa.1 hx).1
  have hn:=hq.ncl
  have hz:(x,true)∈b.Ad.zip q.Ae:=Aja hx (by
   rw [af (by omega)]
   simp only [List.getD,af (show k<q.Ae.length by omega),bQ] at h3
   rw [h3])
  have hf:(x,true)∈Ca b.Ad q.Ae m:=ao.2 ⟨hz,by simp [h1,h2]⟩
  cases hr:(b.Ad.zip q.Ae).find? (λ z=>(z.1.Kind==3&&z.1.B==(m:Int))&&z.2) with
  | none=>
   exfalso
   rw [List.find?_eq_none] at hr
   have:=hr _ hz
   simp [h1,h2] at this
  | some z=>
   have g1:=List.find?_some hr
   have g2:=cH hr
   have g3:z∈Ca b.Ad q.Ae m:=ao.2 ⟨g2,g1⟩
   refine⟨z,rfl,?_⟩
   match hl:Ca b.Ad q.Ae m,hone,hf,g3 with
   | [],_,hf,_=>cases hf
   | [v],_,hf,g3=>
    rw [aP] at hf g3
    rw [g3,←hf]
   | _::_::_,hone,_,_=>simp at hone
theorem N9 {b:Aa} (h:Ap b) {q r:Ab} (hq:Ao b q) (hr:Ao b r) {k:Nat} (hk:k<b.Ac.length) (hc:r.Ae.getD (brN b k) false=q.Ae.getD (brN b k) false) (hs:q.Ae.getD (brN b k) false=true->((r.Ac.getD k default).State=2↔(q.Ac.getD k default).State=2)):Ce b r (k:Int)=Ce b q (k:Int):=by
 rw [D5 h hr hk,D5 h hq hk,hc]
 by_cases hcl:q.Ae.getD (brN b k) false=true
 ·have:=hs hcl
  by_cases h2:(q.Ac.getD k default).State=2
  ·rw [if_pos ⟨this.2 h2,hcl⟩,if_pos ⟨h2,hcl⟩]
  ·rw [if_neg (λ hh=>h2 (this.1 hh.1)),if_neg (λ hh=>h2 hh.1)]
 ·rw [if_neg (λ hh=>hcl hh.2),if_neg (λ hh=>hcl hh.2)]
theorem Ay9 {b:Aa} {q r:Ab} (hc:r.Ae=q.Ae) (m:Nat):B1 b r 3 (m:Int)=B1 b q 3 (m:Int):=by unfold B1;rw [hc]
theorem Abg {b:Aa} {q r:Ab} (hc:r.Ae=q.Ae):Bb b r=Bb b q:=by unfold Bb;rw [hc]
theorem Lc {b:Aa} (h:Ap b) {q r:Ab} (hq:Ao b q) (hr:Ao b r) (hc:r.Ae=q.Ae) (hs:∀ k,k<b.Ac.length->q.Ae.getD (brN b k) false=true->((r.Ac.getD k default).State=2↔(q.Ac.getD k default).State=2)) (n:Nat):Dq b q n r n where
 src k hk:=by unfold Fm;rw [N9 h hq hr hk (by rw [hc]) (hs k hk),Abg hc]
 con k _:=by unfold I2;rw [Ay9 hc,Abg hc]
theorem Acv {L M:Dg} {n:Nat} (hs:∀ i j,Bm L n i->Tie L i j->Tie M i j) {m:Nat} (c:Bm L n m):Bm M n m:=by
 obtain⟨r,c⟩:=c
 have key:∀ (r m:Nat),De L n r m->Bm M n m:=by
  intro r m c
  induction c with
  | refl=>exact .refl M n
  | stay _ ih=>exact ih
  | step c t ih=>exact ih.tie (hs _ _ ⟨_,c⟩ t)
 exact key r m c
theorem Ul {C:List Bool} {k:Nat} {v:Bool} (h:k<C.length):(C.set k v).getD k false=v:=by simp [List.getD,List.getElem?_set_self h]
theorem Dn {b:Aa} (h:Ap b) {k:Nat} {x:Ah} (hx:b.Ad[k]? = some x):(0<=x.A/\x.A<b.Al)/\(x.Kind=1->x.A<x.B/\x.B<b.Al):=by
 have:=h.br x (ae hx)
 unfold Jp at this
 exact⟨this.1,λ e=>by omega⟩
theorem Av4 {b:Aa} (h:Ap b) {k i:Nat} {x:Ah} (hx:b.Ad[k]? = some x) (hk:x.Kind≠2) (hi:i<b.Ac.length):brN b i≠k:=by
 obtain⟨_,_,k2,_,hg⟩:=Dv h hi
 intro e
 rw [e,hx] at hg
 have:=bg hg
 rw [e,←this] at k2
 exact hk k2
theorem Ahi {b:Aa} (h:Ap b) {q:Ab} (hq:Ao b q) {k:Nat} {x:Ah} (hx:b.Ad[k]? = some x) (hk:x.Kind≠2) (hd:A2 b q x.A.toNat=false) {n:Nat} (hn:n<b.Al.toNat) (hl:A2 b q n=true) :
  Dq b q n ⟨q.Ae.set k false,q.Ac,q.Am,q.Ai⟩ n:=by
 have hr:=qI hq k
 have hb:=Dn h hx
 have hnd:∀ m,m<b.Al.toNat->Bm (Bb b q) n m->x.A.toNat≠m:=λ m hm c e=>by
  rw [L4 h hn hm c,←e,hd] at hl;cases hl
 have htie:∀ i j,Bm (Bb b q) n i->Tie (Bb b q) i j->Tie (Bb b ⟨q.Ae.set k false,q.Ac,q.Am,q.Ai⟩) i j:=λ i j c t=>by
  have hlt:=P5 h q _ _ t
  have c2:=c.tie t
  obtain⟨k',x',g1,g2,g3,g4⟩:=(D0 hq.ncl).1 t
  refine (D0 hr.ncl).2 ⟨k',x',g1,g2,?_,g4⟩
  by_cases e:k'=k
  ·exfalso
   subst e
   rw [hx] at g1;cases g1
   rcases g4 with⟨e1,_⟩ | ⟨e1,_⟩
   ·exact hnd i hlt.1 c e1
   ·exact hnd j hlt.2 c2 e1
  ·show (q.Ae.set k false).getD k' false=true
   rw [El e];exact g3
 have hback:∀ i j,Tie (Bb b ⟨q.Ae.set k false,q.Ac,q.Am,q.Ai⟩) i j->Tie (Bb b q) i j:=λ i j t=>by
  obtain⟨k',x',g1,g2,g3,g4⟩:=(D0 hr.ncl).1 t
  refine (D0 hq.ncl).2 ⟨k',x',g1,g2,?_,g4⟩
  by_cases e:k'=k
  ·exfalso
   subst e
   have hlt:=(aa.1 hx).1
   have hn2:=hq.ncl
   have g3:(q.Ae.set k' false).getD k' false=true:=g3
   rw [Ul (by omega)] at g3;cases g3
  ·have g3:(q.Ae.set k false).getD k' false=true:=g3
   rwa [El e] at g3
 refine⟨λ i hi=>?_,λ m hm=>?_⟩
 ·have hcon:=N9 h hq hr hi (by show (q.Ae.set k false).getD _ false=_;rw [El (Av4 h hx hk hi)]) (λ _=>Iff.rfl)
  unfold Fm
  rw [hcon]
  constructor
  ·rintro⟨a,e,c⟩
   exact⟨a,e,(Acv htie c.symm).symm⟩
  ·rintro⟨a,e,c⟩
   exact⟨a,e,Ma hback c⟩
 ·constructor
  ·rintro⟨a,e,c⟩
   obtain⟨k',x',g1,g2,g3,g4,g5⟩:=(Ek hq hm).1 e
   have ha:=K8 h e
   refine⟨a,(Ek hr hm).2 ⟨k',x',g1,g2,g3,?_,g5⟩,(Acv htie c.symm).symm⟩
   by_cases e2:k'=k
   ·exfalso
    subst e2
    rw [hx] at g1;cases g1
    exact hnd a.toNat (by omega) c.symm (by rw [g5])
   ·show (q.Ae.set k false).getD k' false=true
    rw [El e2];exact g4
  ·rintro⟨a,e,c⟩
   obtain⟨k',x',g1,g2,g3,g4,g5⟩:=(Ek hr hm).1 e
   refine⟨a,(Ek hq hm).2 ⟨k',x',g1,g2,g3,?_,g5⟩,Ma hback c⟩
   by_cases e2:k'=k
   ·exfalso
    subst e2
    have hlt:=(aa.1 hx).1
    have hn2:=hq.ncl
    have g4:(q.Ae.set k' false).getD k' false=true:=g4
    rw [Ul (by omega)] at g4;cases g4
   ·have g4:(q.Ae.set k false).getD k' false=true:=g4
    rwa [El e2] at g4
theorem N1 {b:Aa} (h:Ap b) {q r:Ab} (hq:Ao b q) (hr:Ao b r) (s:Sub b r q) {n:Nat} (hn:n<b.Al.toNat) (hl:A2 b r n=true):A2 b q n=true:=by
 obtain⟨k,hk,a,e,c⟩:=(Jk h hn).1 hl
 refine (Jk h hn).2 ⟨k,hk,a,?_,s.conn hr.ncl hq.ncl c⟩
 rw [D5 h hr hk] at e
 rw [D5 h hq hk]
 split at e
 ·rename_i hh
  rw [if_pos (s.con k hk hh.1 hh.2)];exact e
 ·cases e
def Hz (b:Aa) (q:Ab):Prop:=∀ (k:Nat) x,b.Ad[k]? = some x->q.Ae.getD k false=true->A2 b q x.A.toNat=true
theorem Kj {b:Aa} {q:Ab} (hq:Ao b q) {k:Nat} {x:Ah} (hx:b.Ad[k]? = some x) (hf:x.Kind=3->B1 b q 3 x.B=none):Ao b (A7 b q k):=by
 have h1:=Vk hq hx hf
 exact H0 h1 (Ft _ _) (My h1)
theorem Fc (b:Aa) (q:Ab) (k i:Nat):((A7 b q k).Ac.getD i default).State=(q.Ac.getD i default).State:=Mj b _ i
theorem Ch {b:Aa} {q:Ab} (hq:Ao b q) {k:Nat} {x:Ah} (hx:b.Ad[k]? = some x) (j:Nat):(A7 b q k).Ae.getD j false=true↔j=k\/q.Ae.getD j false=true:=by
 have hlt:=(aa.1 hx).1
 have hn:=hq.ncl
 show (q.Ae.set k true).getD j false=true↔_
 by_cases e:j=k
 ·subst e
  rw [Ul (by omega)];simp
 ·rw [El e];simp [e]
theorem Jb {b:Aa} {q:Ab} (hq:Ao b q) {k:Nat} {x:Ah} (hx:b.Ad[k]? = some x):Sub b q (A7 b q k):=
 Afe (λ i=>(Fc b q k i).symm) λ j hj=>(Ch hq hx j).2 (.inr hj)
theorem Ap9 {b:Aa} (h:Ap b) {q:Ab} (hq:Ao b q) {k:Nat} {x:Ah} (hx:b.Ad[k]? = some x) (hr:Ao b (A7 b q k)) (ha:Hz b q) (hl:A2 b (A7 b q k) x.A.toNat=true):Hz b (A7 b q k):=λ j y hy hc=>by
 have hb:=Dn h hy
 rcases (Ch hq hx j).1 hc with e | e
 ·subst e
  rw [hx] at hy;cases hy;exact hl
 ·exact N1 h hr hq (Jb hq hx) (by omega) (ha j y hy e)
theorem Gg {b:Aa} {q:Ab} (hq:Ao b q) {k:Nat} {x:Ah} (hx:b.Ad[k]? = some x) (hr:Ao b (A7 b q k)) (hk:x.Kind≠1) {i j:Nat}:Bm (Bb b (A7 b q k)) i j↔Bm (Bb b q) i j:=by
 constructor
 ·refine Ma λ i j t=>?_
  obtain⟨k',x',g1,g2,g3,g4⟩:=(D0 hr.ncl).1 t
  rcases (Ch hq hx k').1 g3 with e | e
  ·subst e
   rw [hx] at g1;cases g1;exact absurd g2 hk
  ·exact (D0 hq.ncl).2 ⟨k',x',g1,g2,e,g4⟩
 ·exact (Jb hq hx).conn hq.ncl hr.ncl
theorem Sv {b:Aa} (h:Ap b) {q:Ab} (hq:Ao b q) {k:Nat} {x:Ah} (hx:b.Ad[k]? = some x) (hr:Ao b (A7 b q k)) (hk:x.Kind≠2) {i:Nat} (hi:i<b.Ac.length):Ce b (A7 b q k) (i:Int)=Ce b q (i:Int):=
 N9 h hq hr hi (by show (q.Ae.set k true).getD _ false=_;rw [El (Av4 h hx hk hi)]) λ _=>by rw [Fc]
theorem N2 {b:Aa} {q:Ab} (hq:Ao b q) {k:Nat} {x:Ah} (hx:b.Ad[k]? = some x) (hr:Ao b (A7 b q k)) {m:Nat} (hm:m<b.Af.length) (hk:¬(x.Kind=3/\x.B=(m:Int))) {a:Int}:B1 b (A7 b q k) 3 (m:Int)=some a↔B1 b q 3 (m:Int)=some a:=by
 rw [Ek hr hm,Ek hq hm]
 constructor
 ·rintro⟨k',x',g1,g2,g3,g4,g5⟩
  rcases (Ch hq hx k').1 g4 with e | e
  ·subst e
   rw [hx] at g1;cases g1;exact absurd ⟨g2,g3⟩ hk
  ·exact⟨k',x',g1,g2,g3,e,g5⟩
 ·rintro⟨k',x',g1,g2,g3,g4,g5⟩
  exact⟨k',x',g1,g2,g3,(Ch hq hx k').2 (.inr g4),g5⟩
def fl (p:Nat->Bool) (n:Nat):List Int:=((List.range n).filter p).map λ (i:Nat)=>(i:Int)
theorem Auy (L:List Int) {p p':Nat->Bool} {c:Nat} (hc:p c=false):∀ n,(∀ k,k<n->p' k=(p k || k==c))->I3 L (fl p' n)=I3 L (fl p n)+if c<n then L.getD c 0 else 0
 | 0,_=>rfl
 | n+1,h=>by
  have ih:=Auy L hc n λ k hk=>h k (by omega)
  have hn:=h n (by omega)
  unfold fl at ih ⊢
  rw [Em,Em]
  by_cases e:n=c
  ·subst e
   have e1:p' n=true:=by rw [hn];simp
   rw [e1,hc,if_pos rfl,if_neg (by simp),aH,H5,ih,if_neg (by omega),if_pos (by omega),ah]
   omega
  ·have e1:p' n=p n:=by rw [hn];simp [e]
   rw [e1]
   have e2:(c<n+1)=(c<n):=by rw [eq_iff_iff];omega
   cases p n with
   | true=>
    rw [if_pos rfl,H5,H5,ih]
    simp only [e2];omega
   | false=>
    rw [if_neg (by simp),aH,aH,ih]
    simp only [e2]
theorem A6o {b:Aa} (h:Ap b) {q:Ab} (hq:Ao b q) {k:Nat} {x:Ah} (hx:b.Ad[k]? = some x) {c:Nat} (hk:x.Kind=3) (hB:x.B=(c:Int)) (hc:c<b.Af.length) (hled:B1 b q 3 (c:Int)=none)
  (hl:Bp b q x.A.toNat+q.Am.getD c 0<=Ci b q x.A.toNat) (he:∀ n,n<b.Al.toNat->Bn b q n=0):∀ n,n<b.Al.toNat->Bn b (A7 b q k) n=0:=by
 have hr:=Kj hq hx (λ _=>by rw [hB];exact hled)
 have hb:=Dn h hx
 intro n hn
 have hsrc:∀ i,i<b.Ac.length->(Fm b q n i↔Fm b (A7 b q k) n i):=λ i hi=>by
  unfold Fm
  rw [Sv h hq hx hr (by omega) hi]
  simp only [Gg hq hx hr (by omega)]
 have hcon:∀ m,m<b.Af.length->m≠c->(I2 b q n m↔I2 b (A7 b q k) n m):=λ m hm hmc=>by
  unfold I2
  simp only [N2 hq hx hr hm (by rintro⟨_,e⟩;rw [hB] at e;omega),Gg hq hx hr (show x.Kind≠1 by omega)]
 have hcc:I2 b (A7 b q k) n c↔Bm (Bb b q) x.A.toNat n:=by
  constructor
  ·rintro⟨a,e,cc⟩
   rw [Gg hq hx hr (by omega)] at cc
   obtain⟨k',x',g1,g2,g3,g4,g5⟩:=(Ek hr hc).1 e
   rcases (Ch hq hx k').1 g4 with e2 | e2
   ·subst e2
    rw [hx] at g1;cases g1
    rw [g5];exact cc
   ·have:=(Ek hq hc).2 ⟨k',x',g1,g2,g3,e2,g5⟩
    rw [hled] at this;cases this
  ·intro cc
   exact⟨x.A,(Ek hr hc).2 ⟨k,x,hx,hk,hB,(Ch hq hx k).2 (.inl rfl),rfl⟩,(Gg hq hx hr (by omega)).2 cc⟩
 have hno:¬I2 b q n c:=by
  rintro⟨a,e,_⟩
  rw [hled] at e;cases e
 by_cases hA:Bm (Bb b q) x.A.toNat n
 ·have e1:=dp h hn hn hsrc
  have e2:=(Ef h q (by omega) hn).2 hA
  have eg:Bc b q x.A.toNat=Bc b q n:=by unfold Bc;rw [e2]
  have er:Ci b (A7 b q k) n=Ci b q x.A.toNat:=by unfold Ci;rw [←e1,eg]
  have el:Bp b (A7 b q k) n<=Bp b q x.A.toNat+q.Am.getD c 0:=by
   have hlim:=(Sc h hq (c:=(c:Int)) (by omega) (by omega)).2.1
   rw [ah] at hlim
   unfold Bp
   rw [←e1,eg]
   split
   ·have hs:=Auy q.Am (p:=λ m=>Dw b q (B1 b q 3 (m:Int))==some ((Bc b q n:Nat):Int)) (p':=λ m=>Dw b (A7 b q k) (B1 b (A7 b q k) 3 (m:Int))==some ((Bc b (A7 b q k) n:Nat):Int)) (c:=c) (by
     rw [dA]
     intro e
     exact hno ((Mb h hn).1 e)) b.Af.length λ m hm=>by
     rw [aZ,aB,dz,dz,dz,Mb h hn,Mb h hn]
     by_cases e:m=c
     ·subst e
      exact⟨λ _=>.inr rfl,λ _=>hcc.2 hA⟩
     ·rw [←hcon m hm e]
      exact⟨.inl,λ hh=>hh.resolve_right e⟩
    rw [if_pos hc] at hs
    exact Int.le_of_eq hs
   ·omega
  unfold Bn
  rw [er]
  have:=he _ (show x.A.toNat<b.Al.toNat by omega)
  omega
 ·have s:Dq b q n (A7 b q k) n:=⟨hsrc,λ m hm=>by
   by_cases e:m=c
   ·subst e
    exact⟨λ hh=>absurd hh hno,λ hh=>absurd (hcc.1 hh) hA⟩
   ·exact hcon m hm e⟩
  rw [(s.load h hn hn rfl).2.2]
  exact he n hn
theorem Aix {L:Dg} {n:Nat} (hs:∀ j,¬Tie L n j) {m:Nat} (c:Bm L n m):m=n:=by
 obtain⟨r,c⟩:=c
 have key:∀ (r m:Nat),De L n r m->m=n:=by
  intro r m c
  induction c with
  | refl=>rfl
  | stay _ ih=>exact ih
  | step _ t ih=>rw [ih] at t;exact absurd t (hs _)
 exact key r m c
theorem uI {b:Aa} (h:Ap b) {q:Ab} (hq:Ao b q) (ha:Hz b q) {n:Nat} (hn:n<b.Al.toNat) (hd:A2 b q n=false) (j:Nat):¬Tie (Bb b q) n j:=λ t=>by
 have hlt:=P5 h q _ _ t
 obtain⟨k,x,g1,g2,g3,g4⟩:=(D0 hq.ncl).1 t
 have hl:=ha k x g1 g3
 rcases g4 with⟨e,_⟩ | ⟨e,_⟩
 ·rw [e,hd] at hl;cases hl
 ·rw [e,←L4 h hn hlt.2 ((Bm.refl _ _).tie t),hd] at hl;cases hl
theorem Yb {b:Aa} (h:Ap b) {q:Ab} (hq:Ao b q) (ha:Hz b q) {n:Nat} (hn:n<b.Al.toNat) (hd:A2 b q n=false) {m:Nat} (hm:m<b.Af.length):¬I2 b q n m:=by
 rintro⟨a,e,c⟩
 have hab:=K8 h e
 obtain⟨k,x,g1,_,_,g4,g5⟩:=(Ek hq hm).1 e
 have:=ha k x g1 g4
 rw [g5,L4 h (by omega) hn c,hd] at this
 cases this
theorem A6p {b:Aa} (h:Ap b) {q:Ab} (hq:Ao b q) (ha:Hz b q) {k:Nat} {x:Ah} (hx:b.Ad[k]? = some x) (hk:x.Kind=2) (hs:(q.Ac.getD x.B.toNat default).State=2) (hd:A2 b q x.A.toNat=false) (he:∀ n,n<b.Al.toNat->Bn b q n=0) :
  (∀ n,n<b.Al.toNat->Bn b (A7 b q k) n=0)/\A2 b (A7 b q k) x.A.toNat=true:=by
 have hr:=Kj hq hx (λ e=>by omega)
 have hb:=Dn h hx
 have hbr:=h.br x (ae hx)
 unfold Jp at hbr
 obtain⟨i,ei⟩:∃ i:Nat,x.B=(i:Int):=⟨x.B.toNat,by omega⟩
 have hi:i<b.Ac.length:=by omega
 have ek:=Sx h hi hx hk ei
 have hlive:A2 b (A7 b q k) x.A.toNat=true:=by
  refine (Jk h (by omega)).2 ⟨i,hi,x.A,?_,Bm.refl _ _⟩
  rw [D5 h hr hi,←ek,Cc hx,if_pos ⟨by rw [Fc];rw [ei,ah] at hs;exact hs,(Ch hq hx k).2 (.inl rfl)⟩]
 refine⟨λ n hn=>?_,hlive⟩
 by_cases hA:Bm (Bb b q) x.A.toNat n
 ·have en:=Aix (uI h hq ha (by omega) hd) hA
  subst en
  have:(isl b (A7 b q k) (Bc b (A7 b q k) x.A.toNat)).Af=[]:=by
   cases hl:(isl b (A7 b q k) (Bc b (A7 b q k) x.A.toNat)).Af with
   | nil=>rfl
   | cons y l=>
    exfalso
    obtain⟨m,_,hm,e⟩:=Ei.1 (show y∈(isl b (A7 b q k) (Bc b (A7 b q k) x.A.toNat)).Af by rw [hl];exact ag)
    obtain⟨a,e1,cc⟩:=(Mb h hn).1 e
    rw [N2 hq hx hr hm (by omega)] at e1
    rw [Gg hq hx hr (by omega)] at cc
    exact Yb h hq ha hn hd hm ⟨a,e1,cc⟩
  have e2:Bp b (A7 b q k) x.A.toNat=0:=by unfold Bp;rw [this];simp [I3]
  have e3:=(O3 h hr hn).2.1
  unfold Bn
  omega
 ·have s:Dq b q n (A7 b q k) n:=⟨λ j hj=>by
   unfold Fm
   simp only [Gg hq hx hr (show x.Kind≠1 by omega)]
   by_cases e:j=i
   ·subst e
    have hcq:∀ a,Ce b q (j:Int)=some a->a=x.A:=λ a e2=>by
     rw [D5 h hq hj,←ek,Cc hx] at e2
     split at e2
     ·exact (bg e2).symm
     ·cases e2
    have hcr:∀ a,Ce b (A7 b q k) (j:Int)=some a->a=x.A:=λ a e2=>by
     rw [D5 h hr hj,←ek,Cc hx] at e2
     split at e2
     ·exact (bg e2).symm
     ·cases e2
    constructor
    ·rintro⟨a,e2,cc⟩
     rw [hcq a e2] at cc;exact absurd cc hA
    ·rintro⟨a,e2,cc⟩
     rw [hcr a e2] at cc;exact absurd cc hA
   ·have hne:brN b j≠k:=λ e2=>by
     obtain⟨_,_,_,kB,hg⟩:=Dv h hj
     rw [e2,Cc hx] at kB
     omega
    rw [N9 h hq hr hj (by show (q.Ae.set k true).getD _ false=_;rw [El hne]) λ _=>by rw [Fc]],λ m hm=>by
   unfold I2
   simp only [N2 hq hx hr hm (by omega),Gg hq hx hr (show x.Kind≠1 by omega)]⟩
  rw [(s.load h hn hn rfl).2.2]
  exact he n hn
theorem Avq {b:Aa} (h:Ap b) {q:Ab} (hq:Ao b q) (ha:Hz b q) {k:Nat} {x:Ah} (hx:b.Ad[k]? = some x) (hk:x.Kind=1) {u v:Nat} (huv:(u=x.A.toNat/\v=x.B.toNat)\/(u=x.B.toNat/\v=x.A.toNat)) (hu:A2 b q u=true) (hv:A2 b q v=false) (he:∀ n,n<b.Al.toNat->Bn b q n=0) :
  (∀ n,n<b.Al.toNat->Bn b (A7 b q k) n=0)/\A2 b (A7 b q k) u=true/\A2 b (A7 b q k) v=true:=by
 have hr:=Kj hq hx (λ e=>by omega)
 have hb:=Dn h hx
 have hB:=hb.2 hk
 have hun:u<b.Al.toNat:=by omega
 have hvn:v<b.Al.toNat:=by omega
 have hsub:=Jb hq hx
 have hup:∀ {i j},Bm (Bb b q) i j->Bm (Bb b (A7 b q k)) i j:=λ c=>hsub.conn hq.ncl hr.ncl c
 have ht:Tie (Bb b (A7 b q k)) u v:=(D0 hr.ncl).2 ⟨k,x,hx,hk,(Ch hq hx k).2 (.inl rfl),by omega⟩
 have hadd:∀ i j,Tie (Bb b (A7 b q k)) i j->Tie (Bb b q) i j\/(i=u/\j=v)\/(i=v/\j=u):=λ i j t=>by
  obtain⟨k',x',g1,g2,g3,g4⟩:=(D0 hr.ncl).1 t
  rcases (Ch hq hx k').1 g3 with e | e
  ·subst e
   rw [hx] at g1;cases g1
   exact .inr (by omega)
  ·exact .inl ((D0 hq.ncl).2 ⟨k',x',g1,g2,e,g4⟩)
 have hlu:=N1 h hr hq hsub hun hu
 have hlv:A2 b (A7 b q k) v=true:=by rw [←L4 h hun hvn ((Bm.refl _ _).tie ht)];exact hlu
 have halone:∀ {j},Bm (Bb b q) v j->j=v:=λ c=>Aix (uI h hq ha hvn hv) c
 refine⟨λ n hn=>?_,hlu,hlv⟩
 have hcl:∀ {i:Nat},i<b.Al.toNat->Bm (Bb b (A7 b q k)) i n->Bm (Bb b q) i n\/(Bm (Bb b q) i u/\Bm (Bb b q) v n)\/(Bm (Bb b q) i v/\Bm (Bb b q) u n):=λ _ c=>Su hadd c
 by_cases hn1:Bm (Bb b q) u n\/n=v
 ·
  have hcu:Bm (Bb b (A7 b q k)) u n:=by
   rcases hn1 with c | e
   ·exact hup c
   ·rw [e];exact (Bm.refl _ _).tie ht
  have hcls:∀ {i:Nat},Bm (Bb b (A7 b q k)) i n↔Bm (Bb b q) i u\/i=v:=by
   intro i
   constructor
   ·intro c
    have c2:Bm (Bb b (A7 b q k)) i u:=c.trans hcu.symm
    rcases Su hadd c2 with c3 | ⟨c3,_⟩ | ⟨c3,_⟩
    ·exact .inl c3
    ·exact .inl c3
    ·exact .inr (halone c3.symm)
   ·rintro (c | e)
    ·exact (hup c).trans hcu
    ·rw [e];exact ((Bm.refl _ _).tie ht.symm).trans hcu
  have s:Dq b q u (A7 b q k) n:=by
   refine⟨λ j hj=>?_,λ m hm=>?_⟩
   ·unfold Fm
    rw [Sv h hq hx hr (by omega) hj]
    constructor
    ·rintro⟨a,e,c⟩;exact⟨a,e,hcls.2 (.inl c)⟩
    ·rintro⟨a,e,c⟩
     rcases hcls.1 c with c | e2
     ·exact⟨a,e,c⟩
     ·exfalso
      have:=(Jk h (n:=v) hvn).2 ⟨j,hj,a,e,by rw [e2];exact Bm.refl _ _⟩
      rw [hv] at this;cases this
   ·unfold I2
    simp only [N2 hq hx hr hm (show ¬(x.Kind=3/\x.B=(m:Int)) by omega)]
    constructor
    ·rintro⟨a,e,c⟩;exact⟨a,e,hcls.2 (.inl c)⟩
    ·rintro⟨a,e,c⟩
     rcases hcls.1 c with c | e2
     ·exact⟨a,e,c⟩
     ·exact absurd ⟨a,e,by rw [e2];exact Bm.refl _ _⟩ (Yb h hq ha hvn hv hm)
  rw [(s.load h hun hn rfl).2.2]
  exact he u hun
 ·have hne:¬Bm (Bb b q) u n/\n≠v:=⟨λ c=>hn1 (.inl c),λ e=>hn1 (.inr e)⟩
  have hcls:∀ {i:Nat},Bm (Bb b (A7 b q k)) i n↔Bm (Bb b q) i n:=by
   intro i
   refine⟨λ c=>?_,hup⟩
   rcases Su hadd c with c3 | ⟨_,c3⟩ | ⟨_,c3⟩
   ·exact c3
   ·exact absurd (halone c3) hne.2
   ·exact absurd c3 hne.1
  have s:Dq b q n (A7 b q k) n:=⟨λ j hj=>by
   unfold Fm
   rw [Sv h hq hx hr (by omega) hj]
   simp only [hcls],λ m hm=>by
   unfold I2
   simp only [N2 hq hx hr hm (show ¬(x.Kind=3/\x.B=(m:Int)) by omega),hcls]⟩
  rw [(s.load h hn hn rfl).2.2]
  exact he n hn
theorem Aou {b:Aa} (h:Ap b):Ok (F12 b) λ y=>y.length<=256/\∀ x:Int,x∈y->0<=x/\x<b.Af.length:=by
 have hcl:=h.col
 unfold F12
 rw [Yv h]
 simp only [ab]
 refine c4 (λ hc=>by simp at hc) (λ _=>?_)
 refine Ok.andThen (A:=λ (s:Int×List Int)=>s.2.length<=256/\∀ x:Int,x∈s.2->0<=x/\x<b.Af.length) (B:=λ (_:Unit)=>False) ?_ (λ s hs=>Ok.pure hs) (λ _ h=>h.elim)
 refine c8 (λ (s:Int×List Int)=>(0<=s.1/\s.1<=16)/\(s.2.length:Int)<=16*s.1/\∀ x:Int,x∈s.2->0<=x/\x<b.Af.length) (λ s=>(16-s.1).toNat) _ _ ⟨by dsimp only;omega,by simp,λ x hx=>by cases hx⟩ (by dsimp only;omega) ?_
 rintro⟨k,d⟩ ⟨hk,hl,hm⟩
 dsimp only at hk hm hl
 unfold Ali
 dsimp only
 refine c4 (λ hq=>?_) (λ hq=>cX ⟨by dsimp only;omega,hm⟩)
 simp only [dx] at hq
 refine Ok.andThen (A:=λ (s:List Int)=>(s.length:Int)<=16*(k+1)/\∀ x:Int,x∈s->0<=x/\x<b.Af.length) (B:=λ (_:Unit)=>False) ?_ (λ s hs=>?_) (λ _ h=>h.elim)
 ·refine c6 (I:=λ j (s:List Int)=>(s.length:Int)<=16*k+j/\∀ x:Int,x∈s->0<=x/\x<b.Af.length) ⟨by omega,hm⟩ (λ j c s hc hI=>?_) λ s hI=>⟨by omega,hI.2⟩
  obtain⟨i1,i2⟩:=hI
  have hj:j<b.Af.length:=(aa.1 hc).1
  have ec:cnt 0 j=(j:Int):=Co (by omega)
  unfold Alh
  dsimp only
  refine c4 (λ hq2=>?_) (λ hq2=>c5 ⟨by omega,i2⟩)
  refine (cW (by simp;omega)).bind λ y hy=>c5 ?_
  rw [hy,ec]
  refine⟨by simp;omega,λ x hx=>?_⟩
  rcases aq.1 hx with hx | hx
  ·exact i2 x hx
  ·rw [aP.1 hx];omega
 ·have e2:w64 (k+1)=k+1:=A5 (by omega)
  rw [e2]
  exact c5 ⟨⟨by dsimp only;omega,hs⟩,by dsimp only;omega⟩
theorem A7v {b:Aa} (h:Ap b) (c:Int):Ok (F16 b 3 c) λ l=>l.length<=24/\∀ i,i∈l->0<=i/\i<b.Ad.length:=by
 have hbl:=h.brl
 unfold F16
 rw [Yv h,zD h]
 refine Ok.pure ⟨?_,λ i hi=>?_⟩
 ·show (List.map _ (List.filter (λ z:Ah×Nat=>Kk 3 c z.1) b.Ad.zipIdx)).length<=24
  have:=bp (λ z:Ah×Nat=>Kk 3 c z.1) b.Ad.zipIdx
  rw [List.length_zipIdx] at this
  rw [ax];omega
 ·unfold ofL at hi
  obtain⟨⟨x,k⟩,hz,rfl⟩:=an.1 hi
  have:=(ao.1 hz).1
  rw [bH] at this
  have:=(aa.1 this).1
  dsimp only at this ⊢
  omega
def Vw (b:Aa) (L:List Int):Prop:=L.length=b.Af.length/\∀ (i:Nat) n c,L[i]? = some n->b.Af[i]? = some c->0<=n/\n<=c.Load
theorem Vw.set {b:Aa} {L:List Int} (hL:Vw b L) {k:Nat} {v:Int} (hv:∀ c,b.Af[k]? = some c->0<=v/\v<=c.Load):Vw b (L.set k v):=by
 refine⟨by rw [bj];exact hL.1,λ i n c hn hc=>?_⟩
 rw [am] at hn
 by_cases e:k=i
 ·subst e
  rw [if_pos rfl] at hn
  split at hn
  ·cases hn;exact hv c hc
  ·cases hn
 ·rw [if_neg e] at hn
  exact hL.2 i n c hn hc
def Lp (b:Aa) (p:Ab) (C:List Bool):Prop:=Ao b (Ba p C)/\∀ k:Nat,C.getD k false=true->p.Ae.getD k false=true
theorem Lp.set {b:Aa} {p:Ab} {C:List Bool} (u:Lp b p C) (k:Nat):Lp b p (C.set k false):=by
 refine⟨qI u.1 k,λ j hj=>u.2 j ?_⟩
 simp only [List.getD,am] at hj ⊢
 split at hj
 ·split at hj <;> simp at hj
 ·exact hj
theorem Ar8 {b : Aa} (h : Ap b) {p : Ab} (hp : Ao b p) : Ok (F67 b p) λ y => (Ao b y.1 /\ y.1.Ac = p.Ac /\ y.1.Ai = p.Ai /\ ∀ k : Nat, y.1.Ae.getD k false = true -> p.Ae.getD k false = true) /\ y.2.1.length <= 150000 := by
 have hbl:=h.brl
 have hcl:=h.col
 have hbu:=h.buses
 have hil:=Qj b p
 unfold F67
 rw [Hc h hp,Aaf h hp]
 simp only [ab]
 refine c4 (λ hc=>by simp at hc) (λ _=>?_)
 refine (Aou h).bind λ o ho=>?_
 have hi:F21 b p=some (Bg b p):=N3 h hp
 refine Ok.bind (P:=λ v=>v=Bg b p) (c7 hi rfl) λ v hv=>?_
 subst hv
 refine Ok.andThen (A:=λ (s:List Bool×List Int×List Ak)=>Lp b p s.1/\Vw b s.2.1/\s.2.2.length<=150000) (B:=λ (_:Unit)=>False) ?_ (λ s hs=>?_) (λ _ h=>h.elim)
 ·refine c6 (I:=λ j (s:List Bool×List Int×List Ak)=>Lp b p s.1/\Vw b s.2.1/\s.2.2.length<=1000*24*j) ⟨⟨show Ao b (Ba p p.Ae) from hp,λ _ hk=>hk⟩,⟨hp.nli,hp.lim⟩,by simp⟩ (λ j x s hx hI=>?_) λ s hI=>⟨hI.1,hI.2.1,?_⟩
  ·obtain⟨g1,g2,g3⟩:=hI
   have hj:j<(Bg b p).length:=(aa.1 hx).1
   have hin:=Ql h (ae hx)
   obtain⟨e0,hb0⟩:=Ob hin
   unfold Aku
   rw [e0]
   simp only [ab]
   have hl:=Acg h hp hb0
   have hr:=X5 h hp hb0
   rw [hl,hr]
   simp only [ab]
   refine Ok.inner (A:=λ (s1:Int×List Int×List Ak)=>Vw b s1.2.1/\s1.2.2.length<=s.2.2.length+256) (B:=λ (_:Unit)=>False) ?_ (λ s1 hs1=>?_) (λ _ h=>h.elim)
   ·refine c6 (I:=λ i (s1:Int×List Int×List Ak)=>Vw b s1.2.1/\s1.2.2.length<=s.2.2.length+i) ⟨g2,by dsimp only;omega⟩ (λ i c s1 hc hI=>?_) λ s1 hI=>⟨hI.1,by have:=hI.2;omega⟩
    obtain⟨i1,i2⟩:=hI
    have hlt:=(aa.1 hc).1
    have hcin:=ho.2 c (ae hc)
    have hLl:=i1.1
    have hcg:=A6n hcin.1 hcin.2
    have hcg2:=Gr (b:=b) (i:=c.toNat) (by omega)
    unfold Akt
    rw [hcg,Qn]
    simp only [ab]
    have hstay:Vw b s1.2.1/\s1.2.2.length<=s.2.2.length+(i+1):=⟨i1,by omega⟩
    cases hq1:decide (s1.1<=0) with
    | true=>
     refine Ok.bind (P:=λ _=>True) (cU (λ hh=>absurd hh.1 (by simp)) λ _=>trivial) λ y1 _=>?_
     refine Ok.bind (P:=λ _=>True) (cU (λ hh=>absurd hh.1 (by simp)) λ _=>trivial) λ y2 _=>?_
     refine c4 (λ _=>c5 hstay) (λ hc=>?_)
     simp [uR,hq1] at hc
    | false=>
     refine Ok.bind (P:=λ y=>y=x.Af.any (· == c)) (Ok.pure rfl) λ y1 hy1=>?_
     subst hy1
     cases hq2:x.Af.any (· == c) with
     | false=>
      refine Ok.bind (P:=λ _=>True) (cU (λ hh=>absurd hh.1 (by simp)) λ _=>trivial) λ y2 _=>?_
      refine c4 (λ _=>c5 hstay) (λ hc=>?_)
      simp [uR] at hc
     | true=>
      have hg:getI s1.2.1 c=some (s1.2.1.getD c.toNat 0):=by
       have e:s1.2.1[c.toNat]? = some (s1.2.1.getD c.toNat 0):=by
        rw [af (by omega)];simp [List.getD,List.getElem?_eq_getElem (show c.toNat<s1.2.1.length by omega)]
       have:=A8 e;rwa [az hcin.1] at this
      have hlim:=i1.2 c.toNat _ _ (by rw [af (by omega)]) hcg2
      have hge:s1.2.1[c.toNat]'(by omega)=s1.2.1.getD c.toNat 0:=by simp [List.getD,List.getElem?_eq_getElem (show c.toNat<s1.2.1.length by omega)]
      rw [hge] at hlim
      have hco1:=(h.co c.toNat _ hcg2).1
      have hco2:=(h.co c.toNat _ hcg2).2.1
      have hq3:¬s1.1<=0:=of_decide_eq_false hq1
      refine Ok.bind (P:=λ y=>y=s1.2.1.getD c.toNat 0) (c7 hg rfl) λ y2 hy2=>?_
      subst hy2
      refine c4 (λ _=>c5 hstay) (λ hc2=>?_)
      simp only [uR,hq1,bi,Bool.or_false,aT,dy] at hc2
      rw [hg]
      simp only [ab]
      have w1:w64 (s1.2.1.getD c.toNat 0-(b.Af.getD c.toNat default).Least)=s1.2.1.getD c.toNat 0-(b.Af.getD c.toNat default).Least:=A5 (by omega)
      rw [w1]
      have hm1:min s1.1 (s1.2.1.getD c.toNat 0-(b.Af.getD c.toNat default).Least)<=s1.2.1.getD c.toNat 0-(b.Af.getD c.toNat default).Least:=cM _ _
      have hm2:0<min s1.1 (s1.2.1.getD c.toNat 0-(b.Af.getD c.toNat default).Least):=by omega
      have w2:w64 (s1.2.1.getD c.toNat 0-min s1.1 (s1.2.1.getD c.toNat 0-(b.Af.getD c.toNat default).Least))=s1.2.1.getD c.toNat 0-min s1.1 (s1.2.1.getD c.toNat 0-(b.Af.getD c.toNat default).Least):=A5 (by omega)
      rw [w2]
      refine (cV hcin.1 (by omega)).bind λ y hy=>?_
      subst hy
      refine (c9 hcin.1 (by rw [bj];omega)).bind λ z _=>(cW (by simp;omega)).bind λ w hw=>c5 ⟨?_,by rw [hw];simp;omega⟩
      refine i1.set λ c' hc'=>?_
      rw [hcg2] at hc'
      cases hc'
      omega
   refine Ok.inner (A:=λ (s2:Int×List Bool×List Ak)=>Lp b p s2.2.1/\s2.2.2.length<=s.2.2.length+256+24*256) (B:=λ (_:Unit)=>False) ?_ (λ s2 hs2=>?_) (λ _ h=>h.elim)
   ·refine c6 (I:=λ i (s2:Int×List Bool×List Ak)=>Lp b p s2.2.1/\s2.2.2.length<=s.2.2.length+256+24*i) ⟨g1,by have:=hs1.2;dsimp only;omega⟩ (λ i c s2 hc hI=>?_) λ s2 hI=>⟨hI.1,by have:=hI.2;have:=ho.1;omega⟩
    obtain⟨i1,i2⟩:=hI
    have hlt:=(aa.1 hc).1
    have hcin:=ho.2 c (ae hc)
    have hLl:=hs1.1.1
    unfold Aks
    rw [Qn]
    have hstay:Lp b p s2.2.1/\s2.2.2.length<=s.2.2.length+256+24*(i+1):=⟨i1,by omega⟩
    refine Ok.bind (P:=λ _=>True) (d6 (λ _=>⟨_,rfl,trivial⟩) λ _=>trivial) λ y1 _=>?_
    refine Ok.bind (P:=λ _=>True) (d6 (λ _=>d8 hcin.1 (by omega)) λ _=>trivial) λ y2 _=>?_
    refine c4 (λ _=>c5 hstay) (λ _=>?_)
    refine (A7v h c).bind λ l hl=>?_
    refine Ok.inner (A:=λ (s3:List Bool×List Ak)=>Lp b p s3.1/\s3.2.length<=s2.2.2.length+24) (B:=λ (_:Unit)=>False) ?_ (λ s3 hs3=>?_) (λ _ h=>h.elim)
    ·refine c6 (I:=λ m (s3:List Bool×List Ak)=>Lp b p s3.1/\s3.2.length<=s2.2.2.length+m) ⟨i1,by dsimp only;omega⟩ (λ m k s3 hk hI=>?_) λ s3 hI=>⟨hI.1,by have:=hI.2;have:=hl.1;omega⟩
     obtain⟨m1,m2⟩:=hI
     have hml:=(aa.1 hk).1
     have hkin:=hl.2 k (ae hk)
     have hncl:s3.1.length=b.Ad.length:=m1.1.ncl
     have hl1:=hl.1
     unfold Akr
     refine (c9 hkin.1 (by omega)).bind λ v _=>?_
     refine c4 (λ _=>?_) (λ _=>c5 ⟨m1,by dsimp only;omega⟩)
     refine (cV hkin.1 (by omega)).bind λ y hy=>?_
     subst hy
     refine (cW (by simp;have:=ho.1;omega)).bind λ w hw=>c5 ⟨m1.set _,by rw [hw];simp;omega⟩
    ·refine (c9 hcin.1 (by omega)).bind λ v _=>c5 ⟨hs3.1,by have:=hs3.2;dsimp only;omega⟩
   ·exact c5 ⟨hs2.1,hs1.1,by have:=hs2.2;dsimp only;omega⟩
  ·have:=hI.2.2
   omega
 ·obtain⟨g1,g2,g3⟩:=hs
  refine Ok.pure ⟨⟨⟨g1.1.ncl,hp.nso,g2.1,hp.run,g2.2,g1.1.one,hp.brk⟩,rfl,rfl,g1.2⟩,g3⟩
theorem Ahd {b:Aa} (h:Ap b) {p:Ab} (hp:Ao b p):Ok (F29 b p) λ y=>Ao b y.1/\y.1.Ac=(Gs b p).Ac/\y.1.Ai=p.Ai/\∀ k:Nat,y.1.Ae.getD k false=true->(Gs b p).Ae.getD k false=true:=by
 unfold F29
 refine (Apw h hp).bind λ y hy=>?_
 obtain⟨c,acts,e⟩:=y
 obtain⟨rfl,rfl,hla⟩:=hy
 refine c4 (λ hc=>by simp at hc) (λ _=>?_)
 refine (Ar8 h (J1 hp)).bind λ z hz=>?_
 obtain⟨⟨z1,z2,z3,z4⟩,hlz⟩:=hz
 dsimp only at hla
 refine (cW (by simp only [];omega)).bind λ w _=>Ok.pure ⟨z1,z2,z3,z4⟩
abbrev aW:Ak:=⟨7,0,0⟩
def A35 (n:Nat):Bool:=!(A1m [aW] (n:Int))&&(w64 ((Ts (IntKind.wrap .u64 (([aW].length:Nat):Int)) (IntKind.wrap .u64 (n:Int))).2)==(n:Int))
theorem A36:(List.range 601).all A35=true:=by kernel_rfl
theorem A2s {n:Nat} (h:n<=600):F83 [aW] (n:Int)=some (List.replicate n aW):=by
 have hm:=aR.1 A36 n (aI.2 (by omega))
 unfold A35 at hm
 simp only [ac,aJ,dz] at hm
 refine d5 ?_
 unfold F83
 refine Ok.andThen (A:=λ _=>True) (B:=λ (_:Unit)=>False) ?_ (λ _ _=>?_) (λ _ h=>h.elim)
 ·unfold Ako
  exact c4 (λ hc=>by simp only [dx] at hc;omega) λ _=>d9 trivial
 refine Ok.andThen (A:=λ _=>True) (B:=λ (_:Unit)=>False) ?_ (λ _ _=>?_) (λ _ h=>h.elim)
 ·unfold Akn
  exact c4 (λ hc=>by rw [hm.1] at hc;cases hc) λ _=>d9 trivial
 rw [hm.2]
 refine (Ok.mkI (by omega) (by omega)).bind λ y hy=>?_
 have hyl:y.length=n:=by rw [hy];simp
 refine Ok.andThen (A:=λ (s:Int×List Ak)=>s.2=List.replicate n aW) (B:=λ (_:Unit)=>False) ?_ (λ s hs=>Ok.pure hs) (λ _ h=>h.elim)
 refine c8 (λ (s:Int×List Ak)=>∃ k:Nat,s.1=(k:Int)/\s.2.length=n/\k<=n/\(0<k\/n=0)/\s.2.take k=List.replicate k aW) (λ s=>((n:Int)-s.1).toNat) _ _ ?_ (by dsimp only;omega) ?_
 ·refine⟨min 1 n,by rw [hyl];rfl,?_,by omega,by omega,?_⟩
  ·show (I8 y 0 y.length [aW]).length=n
   have e1:Nat.min [aW].length n=min 1 n:=rfl
   unfold I8
   rw [aL,aL,aK,aK,bY,hyl,e1,List.length_singleton]
   omega
  ·rcases cO n with e | e
   ·subst e;rfl
   ·have e1:min 1 n=1:=by omega
    have e2:Nat.min [aW].length n=1:=e1
    show (I8 y 0 y.length [aW]).take (min 1 n)=_
    rw [e1]
    unfold I8
    rw [hyl,e2];rfl
 ·rintro⟨z,s⟩ ⟨k,hz,h1,h2,h3,h4⟩
  dsimp only at hz h1 h4
  subst hz
  unfold Akp A1l
  dsimp only
  refine c4 (λ hq=>?_) (λ hq=>cX ?_)
  ·simp only [dx] at hq
   refine (Ok.bndI (by omega) (by omega) (by omega)).bind λ _ _=>(Ok.bndI (by omega) (by omega) (by omega)).bind λ _ _=>c5 ?_
   have e1:(Int.toNat (k:Int))-0=k:=by omega
   have e2:(Int.toNat (s.length:Int))-(Int.toNat (k:Int))=n-k:=by omega
   rw [e1,e2,ah,List.drop_zero,h4]
   have e3:Nat.min (List.replicate k aW).length (n-k)=min k (n-k):=by rw [cR]
   rw [e3]
   have e4:w64 ((k:Int)+((min k (n-k):Nat):Int))=((k+min k (n-k):Nat):Int):=by rw [A5 (by omega)];omega
   rw [e4]
   refine⟨⟨k+min k (n-k),rfl,?_,by omega,by omega,?_⟩,by dsimp only;omega⟩
   ·show (I8 s k (n-k) (List.replicate k aW)).length=n
    unfold I8
    rw [aL,aL,aK,aK,bY,e3,cR]
    omega
   ·show (I8 s k (n-k) (List.replicate k aW)).take (k+min k (n-k))=_
    unfold I8
    rw [e3,h4,List.take_replicate,ck (Nat.min_le_left k (n-k)),←aY,List.replicate_append_replicate]
    rw [ce (by simp),List.take_replicate];simp
  ·simp only [dy] at hq
   have e:k=n:=by omega
   rw [e] at h4
   dsimp only
   rw [←h4,bS (by omega)]
theorem Xh {b:Aa} (h:Ap b) {q:Ab} (hq:Ao b q) {t:Int} (ht:0<=t/\t<=2147483648) {a:Ak} (hk:1<=a.Kind/\a.Kind<=9) (hn:F62 b a=some true) {w:A0} (hd:Kn ⟨b,q,t⟩ a=some (0,w)):Fy b q t a=(w.Aq,0):=by
 have key:F27 b q t a=some (w.Aq,0):=by
  refine d5 ?_
  unfold F27
  rw [B4 h hq,hn,C3 h hq]
  simp only [ab]
  refine c4 (λ hc=>by simp at hc) (λ _=>c4 (λ hc=>?_) (λ _=>c4 (λ hc=>by simp at hc) (λ _=>?_)))
  ·simp [Aej] at hc;omega
  ·rw [hd]
   exact Ok.pure rfl
 unfold Fy
 rw [key];rfl
theorem A0m {b:Aa} (h:Ap b) {q:Ab} (hq:Ao b q) {t:Int} (ht:0<=t/\t<=2147483648) {k:Nat} (hk:k<b.Ad.length) (hc:q.Ae.getD k false=true) (hb:brk q.Ai 2 (k:Int)=false):Fy b q t ⟨2,(k:Int),0⟩=(⟨q.Ae.set k false,q.Ac,q.Am,q.Ai⟩,0):=by
 have hn:=hq.ncl
 have hbl:q.Ai.length<=1000:=by have:=hq.brk.len;omega
 have hkn:F62 b ⟨2,(k:Int),0⟩=some (Hi b 2 (k:Int)):=rfl
 have hp:Hi b 2 (k:Int)=true:=(H_ b 2 (k:Int)).2 ⟨by dsimp only;omega,by dsimp only;omega⟩
 refine Xh h hq ht (by dsimp only;omega) (by rw [hkn,hp]) (w:=⟨b,_,t⟩) ?_
 have ho:P2 b q (k:Int)=some (⟨q.Ae.set k false,q.Ac,q.Am,q.Ai⟩,0):=by
  refine d5 ?_
  unfold P2
  rw [B4 h hq,C3 h hq]
  simp only [ab]
  refine c4 (λ hc=>by simp at hc) (λ _=>c4 (λ hr=>?_) (λ _=>?_))
  ·simp [Ai6] at hr;omega
  rw [A8 (G9 hq hk),C9 hbl,hb]
  simp only [ab]
  rw [hc,Ah6]
  simp only [ab]
  refine c4 (λ hc=>by simp at hc) (λ _=>?_)
  refine (cV (l:=q.Ae) (n:=(k:Int)) (by omega) (by omega)).bind λ z hz=>Ok.pure ?_
  rw [hz,ah]
 show (P2 b q (k:Int)).bind _=_
 rw [ho];rfl
theorem A0l {b:Aa} (h:Ap b) {q:Ab} (hq:Ao b q) {t:Int} (ht:0<=t/\t<=2147483648):Fy b q t ⟨7,0,0⟩=(wtS b q t,0):=by
 refine Xh h hq ht (by dsimp only;omega) rfl (w:=⟨b,wtS b q t,t⟩) ?_
 show (Ko ⟨b,q,t⟩).bind _=_
 rw [Amg h hq];rfl
theorem Av6 {b:Aa} (h:Ap b) {q:Ab} (hq:Ao b q) {t:Int} (ht:0<=t/\t<=2147483648) {i:Nat} (hi:i<b.Ac.length) (hs:(q.Ac.getD i default).State=0) (hb:brk q.Ai 1 (i:Int)=false) :
  Fy b q t ⟨3,(i:Int),0⟩=(⟨q.Ae,q.Ac.set i ⟨if (b.Ac.getD i default).Start=0/\Ig b q.Ae i=true then 2 else 1,t,5000,0⟩,q.Am,q.Ai⟩,0):=by
 have hn:=hq.nso
 have hbl:q.Ai.length<=1000:=by have:=hq.brk.len;omega
 have hkn:F62 b ⟨3,(i:Int),0⟩=some (Hi b 1 (i:Int)):=rfl
 have hp:Hi b 1 (i:Int)=true:=(H_ b 1 (i:Int)).2 ⟨by dsimp only;omega,by dsimp only;omega⟩
 refine Xh h hq ht (by dsimp only;omega) (by rw [hkn,hp]) (w:=⟨b,_,t⟩) ?_
 have ho:Jd ⟨b,q,t⟩ (i:Int)=some (0,⟨b,⟨q.Ae,q.Ac.set i ⟨if (b.Ac.getD i default).Start=0/\Ig b q.Ae i=true then 2 else 1,t,5000,0⟩,q.Am,q.Ai⟩,t⟩):=by
  refine d5 ?_
  unfold Jd
  have g1:getI q.Ac (i:Int)=some (q.Ac.getD i default):=Yp (by omega)
  have g2:getI b.Ac (i:Int)=some (b.Ac.getD i default):=A8 (Yq hi)
  have g3:=zA h (p:=q) hq.ncl t hi
  dsimp only
  rw [g1,C9 hbl,hb,g2,g3]
  simp only [ab,hs]
  rw [Ah6]
  simp only [ab]
  refine c4 (λ hc=>by simp at hc) (λ _=>?_)
  rw [Hw]
  simp only [ab]
  have eb:((((b.Ac.getD i default).Start==0)&&bif ((b.Ac.getD i default).Start==0) then Ig b q.Ae i else default)=true)↔((b.Ac.getD i default).Start=0/\Ig b q.Ae i=true):=by
   cases hst:((b.Ac.getD i default).Start==0) with
   | true=>simp at hst;simp [hst]
   | false=>simp at hst;simp [hst]
  refine c4 (λ hc=>?_) (λ hc=>?_)
  ·rw [if_pos (eb.1 hc)]
   exact (cV (l:=q.Ac) (n:=(i:Int)) (by omega) (by omega)).bind λ z hz=>Ok.pure (by rw [hz,ah])
  ·rw [if_neg (λ hh=>by rw [eb.2 hh] at hc;cases hc)]
   exact (cV (l:=q.Ac) (n:=(i:Int)) (by omega) (by omega)).bind λ z hz=>Ok.pure (by rw [hz,ah])
 show (Jd ⟨b,q,t⟩ (i:Int)).bind _=_
 rw [ho];rfl
theorem X9 {b:Aa} (h:Ap b) {q:Ab} (hq:Ao b q) {n:Nat} (hn:n<b.Al.toNat) (hd:A2 b q n=false):Mn b q (n:Int)=some (0,false):=by
 have e2:(isl b q (Bc b q n)).Ac=[]:=by
  unfold A2 at hd
  rw [dy] at hd
  have hd:¬((isl b q (Bc b q n)).Ac.length:Int)>0:=hd
  cases hl:(isl b q (Bc b q n)).Ac with
  | nil=>rfl
  | cons y l=>rw [hl] at hd;exact absurd (by simp only [aS];omega) hd
 unfold Mn
 rw [Aow h hq hn]
 simp only [ab,e2]
 rfl
theorem Al0 {b:Aa} (h:Ap b) {q:Ab} (hq:Ao b q) {n:Nat} (hn:n<b.Al.toNat) (hd:A2 b q n=true):∃ s:Nat,Mn b q (n:Int)=some ((s:Int),true)/\s<b.Ac.length:=by
 obtain⟨k,hk,hs⟩:=(Jk h hn).1 hd
 obtain⟨s,e,_,hs⟩:=O9 h hq hn (Gw.2 ⟨k,rfl,hk,(Uj h hn).2 hs⟩)
 exact⟨s,e,hs⟩
def Aru (b:Aa) (q:Ab) (x:Ah):Prop:=x.Kind=3\/(x.Kind=2/\A2 b q x.A.toNat=false)\/(x.Kind=1/\(A2 b q x.A.toNat=false\/A2 b q x.B.toNat=false))
theorem Arx {b:Aa} (h:Ap b) {q:Ab} (hq:Ao b q) {k:Nat} {x:Ah} (hx:b.Ad[k]? = some x) (ha:Aru b q x):Jn b q x=some true:=by
 obtain⟨hA,hB⟩:=Dn h hx
 have hn:=hq.nso
 have eA:x.A=((x.A.toNat:Nat):Int):=by omega
 refine d5 ?_
 unfold Jn
 cases hl:A2 b q x.A.toNat with
 | false=>
  rw [eA,X9 h hq (by omega) hl]
  exact Ok.pure rfl
 | true=>
  obtain⟨s,e,hs⟩:=Al0 h hq (by omega) hl
  rw [←eA] at e
  rw [e]
  simp only [ab]
  refine c4 (λ hc=>by simp at hc) (λ _=>?_)
  rcases ha with hk | ⟨hk,hd⟩ | ⟨hk,hd⟩
  ·rw [hk];exact Ok.pure rfl
  ·rw [hl] at hd;cases hd
  ·have hd:=hd.resolve_left (by rw [hl];simp)
   have hB:=hB hk
   have eB:x.B=((x.B.toNat:Nat):Int):=by omega
   have e2:=X9 h hq (n:=x.B.toNat) (by omega) hd
   rw [←eB] at e2
   rw [hk,e2]
   exact Ok.pure rfl
theorem A37 {b:Aa} (h:Ap b) {q:Ab} (hq:Ao b q) {k:Nat} {x:Ah} (hx:b.Ad[k]? = some x) (hs:D1 b q (k:Int)=true) (ha:Aru b q x):Tr b q (k:Int)=some 0:=by
 have hlt:=(aa.1 hx).1
 refine d5 ?_
 unfold Tr
 rw [B4 h hq]
 simp only [ab]
 refine c4 (λ hc=>by simp at hc) (λ _=>c4 (λ hr=>?_) (λ _=>?_))
 ·simp [Vm] at hr;omega
 rw [Ar6 h hq (by omega) (by omega),hs]
 simp only [ab]
 refine c4 (λ hc=>by simp at hc) (λ _=>?_)
 rw [A8 hx]
 simp only [ab]
 refine (A5e h hq x.A).bind λ z hz=>?_
 refine Ok.bind (P:=λ _=>True) (d6 (λ _=>dh (Eh _ _ hz)) λ _=>trivial) λ y12 _=>?_
 rw [Arx h hq hx ha,Hw]
 simp only [ab]
 refine c4 (λ hc=>?_) (λ _=>Ok.pure rfl)
 exfalso
 revert hc
 cases (!((x.Kind==1)&&y12)) <;> simp
theorem Av7 {b:Aa} (h:Ap b) {q:Ab} (hq:Ao b q) {t:Int} (ht:0<=t/\t<=2147483648) {k:Nat} {x:Ah} (hx:b.Ad[k]? = some x) (hs:D1 b q (k:Int)=true) (ha:Aru b q x):Fy b q t ⟨1,(k:Int),0⟩=(A7 b q k,0):=by
 have hlt:=(aa.1 hx).1
 have hn:=hq.ncl
 have hkn:F62 b ⟨1,(k:Int),0⟩=some (Hi b 2 (k:Int)):=rfl
 have hp:Hi b 2 (k:Int)=true:=(H_ b 2 (k:Int)).2 ⟨by dsimp only;omega,by dsimp only;omega⟩
 refine Xh h hq ht (by dsimp only;omega) (by rw [hkn,hp]) (w:=⟨b,_,t⟩) ?_
 have ho:P3 b q (k:Int)=some (A7 b q k,0):=by
  refine d5 ?_
  unfold P3
  rw [A37 h hq hx hs ha,C3 h hq]
  simp only [ab]
  refine c4 (λ hc=>by simp at hc) (λ _=>?_)
  refine (c9 (l:=q.Ae) (n:=(k:Int)) (by omega) (by omega)).bind λ _ _=>(cV (l:=q.Ae) (n:=(k:Int)) (by omega) (by omega)).bind λ z hz=>?_
  have hq2:=Vk hq hx (Abj (j:=(k:Int)) (by rw [ah];exact hx) hs)
  rw [hz,ah,Pa h hq2]
  exact Ok.pure rfl
 show (P3 b q (k:Int)).bind _=_
 rw [ho];rfl
def F_ (b:Aa):Ab->Int->List Ak->Ab->Int->Prop
 | q,t,[],r,u=>q=r/\t=u
 | q,t,a::l,r,u=>∃ s,Fy b q t a=(s,0)/\Ao b s/\Ji b q s/\(∀ n,n<b.Al.toNat->Bn b s n=0)/\F_ b s (if a.Kind=7 then t+1 else t) l r u
theorem F_.app {b:Aa}:∀ {l m:List Ak} {q r s:Ab} {t u v:Int},F_ b q t l r u->F_ b r u m s v->F_ b q t (l++m) s v
 | [],_,_,_,_,_,_,_,h,k=>by obtain⟨rfl,rfl⟩:=h;exact k
 | _::_,_,_,_,_,_,_,_,h,k=>by
  obtain⟨w,h1,h2,h3,h4,h5⟩:=h
  exact⟨w,h1,h2,h3,h4,h5.app k⟩
theorem F_.one {b:Aa} {q s:Ab} {t:Int} {a:Ak} (ha:a.Kind≠7) (h1:Fy b q t a=(s,0)) (h2:Ao b s) (h3:Ji b q s) (h4:∀ n,n<b.Al.toNat->Bn b s n=0):F_ b q t [a] s t:=⟨s,h1,h2,h3,h4,rfl,by rw [if_neg ha]⟩
theorem dv {b:Aa} {q s:Ab} {t:Int} {a:Ak} (ha:a.Kind=7) (h1:Fy b q t a=(s,0)) (h2:Ao b s) (h3:Ji b q s) (h4:∀ n,n<b.Al.toNat->Bn b s n=0):F_ b q t [a] s (t+1):=⟨s,h1,h2,h3,h4,rfl,by rw [if_pos ha]⟩
theorem Aak {b:Aa} (h:Ap b) {q:Ab} (hq:Ao b q) (ha:Di b q) {t:Int} {a:Ak} (hk:a.Kind≠7) {s:Ab} (he:Fy b q t a=(s,0)):Ji b q s:=by
 have he2:Aab b q t a=0:=by unfold Aab;rw [if_neg hk,he]
 have:=A61 h hq ha he2
 unfold Aoy at this
 rw [he] at this
 exact this
structure Md (b:Aa) (p:Ab):Prop where
 st:Ao b p
 safe:∀ (k:Nat) x,b.Ad[k]? = some x->p.Ae.getD k false=true->Bx p x=false
 con:∀ (k:Nat) x,b.Ad[k]? = some x->p.Ae.getD k false=true->x.Kind=3->A2 b p x.A.toNat=true
 agr:Di b p
 exc:∀ n,n<b.Al.toNat->Bn b p n=0
theorem Sp {C D:List Bool} (hl:C.length=D.length) (h:∀ k:Nat,C.getD k false=true↔D.getD k false=true):C=D:=by
 refine List.ext_getElem hl λ k h1 h2=>?_
 have:=h k
 simp only [List.getD,af h1,af h2,bQ] at this
 rwa [aZ]
theorem Ar1 {b:Aa} (h:Ap b) {p:Ab} (hp:Ao b p) (e:p=F2 b p):Md b p:=by
 obtain⟨u,_⟩:=yX h hp
 have hsafe:∀ (k:Nat) x,b.Ad[k]? = some x->p.Ae.getD k false=true->Bx p x=false:=λ k x hx hc=>Ayk h hp hx (by rw [←e];exact hc)
 have h1:(B3 b p).Ae=p.Ae:=by
  refine Sp (by rw [(K_ hp).ncl,hp.ncl]) λ k=>⟨λ hk=>Q0 b _ _ hp.ncl k hk,λ hk=>?_⟩
  have hkl:k<b.Ad.length:=by
   have:=Mx (s:=p.Ae) hk
   have:=hp.ncl
   omega
  have hx:b.Ad[k]? = some (b.Ad.getD k default):=by
   rw [af hkl];simp [List.getD,List.getElem?_eq_getElem hkl]
  show (acC b p.Ae (Bx p)).getD k false=true
  rw [I1 b _ _ hkl,hk,hsafe k _ hx hk];rfl
 have hclr:B3 b p=p:=by
  show (⟨(B3 b p).Ae,p.Ac,p.Am,p.Ai⟩:Ab)=p
  rw [h1]
 refine⟨hp,hsafe,λ k x hx hc hk=>?_,by have:=At7 h hp;rwa [←e] at this,λ n hn=>by have:=A3h h hp hn;rwa [←e] at this⟩
 have h2:(I9 b p).Ae.getD k false=true:=u.mono k (by rw [←e];exact hc)
 have hkl:=(aa.1 hx).1
 have h2:(acC b (B3 b p).Ae (Ck b (B3 b p))).getD k false=true:=h2
 rw [I1 b _ _ hkl,Cc hx,hclr] at h2
 simp only [ac,aJ] at h2
 have h3:=h2.2
 unfold Ck at h3
 rw [hk] at h3
 simpa using h3
theorem Agn {b:Aa} (h:Ap b) {p:Ab} (s:Md b p) {i:Nat} (hi:i<b.Ac.length) (hc:p.Ae.getD (brN b i) false=true):(p.Ac.getD i default).State=2/\A2 b p (b.Ad.getD (brN b i) default).A.toNat=true:=by
 obtain⟨_,_,k2,kB,hg⟩:=Dv h hi
 have hA:=(Dn h hg).1
 have hd:=s.safe _ _ hg hc
 unfold Bx at hd
 rw [if_neg (by omega),if_pos k2,kB,ah] at hd
 simp only [bk,dE] at hd
 refine⟨hd.2.2,(Jk h (by omega)).2 ⟨i,hi,_,?_,Bm.refl _ _⟩⟩
 rw [D5 h s.st hi,if_pos ⟨hd.2.2,hc⟩]
abbrev Hb (b:Aa) (w:Ab) (g:List Bool) (as:List Ak):=(b.Al,b.Ad,b.Ac,b.Af,b.Phase,b.Ar,w.Ae,w.Ac,w.Am,w.Ai,g,as)
theorem Ky {b:Aa} (h:Ap b) {w:Ab} (hw:Ao b w) {g:List Bool} {as:List Ak} {n:Int} (hn:0<=n/\n<b.Al):Lq ⟨b,w,g,as⟩ n=some (A2 b w n.toNat):=by
 have e:n=((n.toNat:Nat):Int):=by omega
 unfold Lq
 have:=W6 h hw (n:=n.toNat) (by omega)
 rw [←e] at this
 dsimp only
 rw [this];rfl
theorem uX {b:Aa} {w:Ab} (hw:Ao b w) {g:List Bool} {as:List Ak} (ha:as.length<=100000) (kd:Int) {k:Nat} (hk:k<b.Ad.length):Ph ⟨b,w,g,as⟩ kd (k:Int)=some ⟨b,⟨w.Ae.set k (kd==1),w.Ac,w.Am,w.Ai⟩,g,as++[⟨kd,(k:Int),0⟩]⟩:=by
 have hn:=hw.ncl
 refine d5 ?_
 unfold Ph
 refine (cW (by simp;omega)).bind λ y hy=>(c9 (by omega) (by dsimp only;omega)).bind λ _ _=>(cV (by omega) (by dsimp only;omega)).bind λ z hz=>Ok.pure ?_
 rw [hy,hz,ah]
def Rs (b:Aa) (p:Ab) (k:Nat):Bool:=(((b.Ad.getD k default).Kind != 2) && !brk p.Ai 2 (k:Int)) && !A2 b p (b.Ad.getD k default).A.toNat
def Cw (b:Aa) (p:Ab) (n:Nat):List Int:=fl (λ k=>p.Ae.getD k false&&Rs b p k) n
theorem Ks {b:Aa} {p:Ab} {n:Nat} {x:Int}:x∈Cw b p n↔∃ k:Nat,x=(k:Int)/\k<n/\p.Ae.getD k false=true/\Rs b p k=true:=by
 unfold Cw fl
 rw [an]
 constructor
 ·rintro⟨k,hk,e⟩
  obtain⟨h1,h2⟩:=ao.1 hk
  rw [ac] at h2
  exact⟨k,e.symm,aI.1 h1,h2.1,h2.2⟩
 ·rintro⟨k,e,h1,h2,h3⟩
  exact⟨k,ao.2 ⟨aI.2 h1,by rw [h2,h3];rfl⟩,e.symm⟩
theorem Asa (b:Aa) (p:Ab) (n:Nat):(Cw b p n).Nodup:=by
 unfold Cw fl
 rw [ci,List.pairwise_map]
 exact ((ci.1 List.nodup_range).sublist cN).imp λ h e=>h (by omega)
structure Sep (b:Aa) (p:Ab) (l:List Int):Prop where
 st:Ao b (Ba p (Bk p.Ae l))
 goes:F_ b p 20 (Dx l) (Ba p (Bk p.Ae l)) 20
 agr:Di b (Ba p (Bk p.Ae l))
 exc:∀ n,n<b.Al.toNat->Bn b (Ba p (Bk p.Ae l)) n=0
 live:∀ n,n<b.Al.toNat->A2 b (Ba p (Bk p.Ae l)) n=A2 b p n
theorem Sep.nil {b:Aa} {p:Ab} (s:Md b p):Sep b p []:=⟨s.st,⟨rfl,rfl⟩,s.agr,s.exc,λ _ _=>rfl⟩
theorem R5 {C:List Bool} {l:List Int} (h0:∀ i,i∈l->0<=i) (k:Nat):(Bk C l).getD k false=true↔C.getD k false=true/\(k:Int)∉l:=by
 rw [Ly,ac,aJ,bN]
 refine and_congr Iff.rfl ⟨λ hh hm=>hh _ hm (by simp),λ hh i hi e=>?_⟩
 rw [dz] at e
 have:=h0 i hi
 exact hh (by rw [←e,az this];exact hi)
theorem Sep.step {b:Aa} (h:Ap b) {p:Ab} {l:List Int} (u:Sep b p l) (h0:∀ i,i∈l->0<=i) {k:Nat} (hk:k<b.Ad.length) (hc:p.Ae.getD k false=true) (hq:Rs b p k=true) (hn:(k:Int)∉l):Sep b p (l++[(k:Int)]):=by
 have hx:b.Ad[k]? = some (b.Ad.getD k default):=by
  rw [af hk];simp [List.getD,List.getElem?_eq_getElem hk]
 generalize b.Ad.getD k default=x at hx
 have hb:=(Dn h hx).1
 unfold Rs at hq
 rw [Cc hx] at hq
 simp only [ac,aJ,dG] at hq
 obtain⟨⟨q1,q2⟩,q3⟩:=hq
 have hcl:(Ba p (Bk p.Ae l)).Ae.getD k false=true:=(R5 h0 k).2 ⟨hc,hn⟩
 have hd:A2 b (Ba p (Bk p.Ae l)) x.A.toNat=false:=by rw [u.live _ (by omega)];exact q3
 have hr:=qI u.st k
 have eq:Ba p (Bk p.Ae (l++[(k:Int)]))=⟨(Ba p (Bk p.Ae l)).Ae.set k false,(Ba p (Bk p.Ae l)).Ac,(Ba p (Bk p.Ae l)).Am,(Ba p (Bk p.Ae l)).Ai⟩:=by
  unfold Ba
  rw [J8,ah]
 have hact:=A0m h u.st (t:=20) (by omega) hk hcl (by exact q2)
 have hsub:Sub b ⟨(Ba p (Bk p.Ae l)).Ae.set k false,(Ba p (Bk p.Ae l)).Ac,(Ba p (Bk p.Ae l)).Am,(Ba p (Bk p.Ae l)).Ai⟩ (Ba p (Bk p.Ae l)):=Afe (λ _=>rfl) λ j hj=>by
  by_cases e:j=k
  ·rw [e];exact hcl
  ·have hj:((Ba p (Bk p.Ae l)).Ae.set k false).getD j false=true:=hj
   rwa [El e] at hj
 have hlive:∀ n,n<b.Al.toNat->A2 b ⟨(Ba p (Bk p.Ae l)).Ae.set k false,(Ba p (Bk p.Ae l)).Ac,(Ba p (Bk p.Ae l)).Am,(Ba p (Bk p.Ae l)).Ai⟩ n=A2 b (Ba p (Bk p.Ae l)) n:=λ n hn2=>by
  cases hl:A2 b (Ba p (Bk p.Ae l)) n with
  | true=>rw [Dq.live h hn2 hn2 (Ahi h u.st hx q1 hd hn2 hl).src,hl]
  | false=>
   cases hl2:A2 b ⟨(Ba p (Bk p.Ae l)).Ae.set k false,(Ba p (Bk p.Ae l)).Ac,(Ba p (Bk p.Ae l)).Am,(Ba p (Bk p.Ae l)).Ai⟩ n with
   | false=>rfl
   | true=>rw [N1 h u.st hr hsub hn2 hl2] at hl;cases hl
 have hexc:∀ n,n<b.Al.toNat->Bn b ⟨(Ba p (Bk p.Ae l)).Ae.set k false,(Ba p (Bk p.Ae l)).Ac,(Ba p (Bk p.Ae l)).Am,(Ba p (Bk p.Ae l)).Ai⟩ n=0:=λ n hn2=>by
  cases hl:A2 b (Ba p (Bk p.Ae l)) n with
  | true=>rw [((Ahi h u.st hx q1 hd hn2 hl).load h hn2 hn2 rfl).2.2];exact u.exc n hn2
  | false=>exact Az3 h hn2 (by rw [hlive n hn2];exact hl)
 have ea:Dx (l++[(k:Int)])=Dx l++[⟨2,(k:Int),0⟩]:=by unfold Dx;rw [bo];rfl
 refine⟨by rw [eq];exact hr,?_,?_,by rw [eq];exact hexc,λ n hn2=>by rw [eq,hlive n hn2];exact u.live n hn2⟩
 ·rw [ea,eq]
  exact u.goes.app (F_.one (by dsimp only;omega) hact hr (Aak h u.st u.agr (by dsimp only;omega) hact) hexc)
 ·rw [eq]
  exact Vt h hr u.st hsub u.agr λ _ _ _ _ _ hl=>hl
theorem Alw {b:Aa} (h:Ap b) {p:Ab} (s:Md b p) (g:List Bool):Xs ⟨b,p,g,[]⟩=some ⟨b,Ba p (Bk p.Ae (Cw b p b.Ad.length)),g,Dx (Cw b p b.Ad.length)⟩/\Sep b p (Cw b p b.Ad.length):=by
 have hbb:=h.brl
 have hp:=s.st
 have hncl:=hp.ncl
 have hbl:p.Ai.length<=1000:=by have:=hp.brk.len;omega
 have hlen:∀ n,(Cw b p n).length<=n:=λ n=>C1 _ n
 have h0:∀ n i,i∈Cw b p n->0<=i:=λ n i hi=>by
  obtain⟨k,rfl,_⟩:=Ks.1 hi
  omega
 have key : Ok (Xs ⟨b, p, g, []⟩) λ y => y = ⟨b, Ba p (Bk p.Ae (Cw b p b.Ad.length)), g, Dx (Cw b p b.Ad.length)⟩ /\ Sep b p (Cw b p b.Ad.length) := by
  unfold Xs
  refine Ok.andThen (A:=λ l=>l=Cw b p b.Ad.length) (B:=λ (_:Unit)=>False) ?_ (λ l hl=>?_) (λ _ h=>h.elim)
  ·refine c6 (I:=λ j s=>s=Cw b p j) rfl (λ j x r hx hI=>?_) λ r hr=>hr
   have hx:b.Ad[j]? = some x:=hx
   have hj:=(aa.1 hx).1
   have hb:=(Dn h hx).1
   have hjl:=hlen j
   subst hI
   unfold Z0
   dsimp only
   rw [Co (by omega),A8 (G9 hp hj),C9 hbl,Ky h hp hb]
   rw [Hw]
   simp only [ab]
   rw [Hw]
   simp only [ab]
   rw [Hw]
   simp only [ab]
   have hsu:Cw b p (j+1)=Cw b p j++if (p.Ae.getD j false&&Rs b p j)=true then [(j:Int)] else []:=by
    unfold Cw fl;rw [Em]
   have hcond:Aaj x (bif x.Kind != 2 then p.Ae.getD j false else default) (bif (x.Kind != 2)&&(bif x.Kind != 2 then p.Ae.getD j false else default) then brk p.Ai 2 (j:Int) else default) (bif ((x.Kind != 2)&&(bif x.Kind != 2 then p.Ae.getD j false else default)) && !(bif (x.Kind != 2)&&(bif x.Kind != 2 then p.Ae.getD j false else default) then brk p.Ai 2 (j:Int) else default) then A2 b p x.A.toNat else default)=(p.Ae.getD j false&&Rs b p j):=by
    unfold Aaj Rs
    rw [Cc hx]
    cases x.Kind != 2 <;> cases p.Ae.getD j false <;> cases brk p.Ai 2 (j:Int) <;> rfl
   rw [hcond,hsu]
   refine c4 (λ hc=>?_) (λ hc=>c5 ?_)
   ·refine (cW (by simp only [aS,bL];omega)).bind λ y hy=>c5 ?_
    rw [hy,if_pos hc]
   ·rw [if_neg (by rw [hc];simp),aH]
  ·subst hl
   have hll:=hlen b.Ad.length
   refine Ok.andThen (A:=λ z=>z=Hb b (Ba p (Bk p.Ae (Cw b p b.Ad.length))) g (Dx (Cw b p b.Ad.length))/\Sep b p (Cw b p b.Ad.length)) (B:=λ (_:Unit)=>False) ?_ (λ z hz=>?_) (λ _ h=>h.elim)
   ·refine c6 (I:=λ j z=>z=Hb b (Ba p (Bk p.Ae ((Cw b p b.Ad.length).take j))) g (Dx ((Cw b p b.Ad.length).take j))/\Sep b p ((Cw b p b.Ad.length).take j)) ⟨rfl,Sep.nil s⟩ (λ j x z hx hI=>?_) λ z hI=>?_
    ·obtain⟨rfl,hS⟩:=hI
     have hj:=(aa.1 hx).1
     obtain⟨k,rfl,hk,hc,hq⟩:=Ks.1 (ae hx)
     have hnd:(k:Int)∉(Cw b p b.Ad.length).take j:=λ hm=>by
      have hn:=Asa b p b.Ad.length
      rw [ci,List.pairwise_iff_getElem] at hn
      obtain⟨m,hm1,hm2⟩:=cd hm
      rw [aK] at hm1
      rw [List.getElem_take] at hm2
      refine hn m j (by omega) hj (by omega) ?_
      rw [hm2,(aa.1 hx).2]
     have hS2:=hS.step h (λ i hi=>h0 _ i (aV hi)) hk hc hq hnd
     unfold Zz
     have ha:=uX hS.st (g:=g) (as:=Dx ((Cw b p b.Ad.length).take j)) (by unfold Dx;rw [ax,aK];omega) 2 hk
     refine Ok.bind (P:=λ v=>v=_) (c7 ha rfl) λ v hv=>c5 ?_
     subst hv
     rw [Bi hx]
     refine⟨?_,hS2⟩
     have e1:Dx ((Cw b p b.Ad.length).take j++[(k:Int)])=Dx ((Cw b p b.Ad.length).take j)++[⟨2,(k:Int),0⟩]:=by unfold Dx;rw [bo];rfl
     have e2:Bk p.Ae ((Cw b p b.Ad.length).take j++[(k:Int)])=(Bk p.Ae ((Cw b p b.Ad.length).take j)).set k false:=by rw [J8,ah]
     unfold Hb
     rw [e1,e2];rfl
    ·rw [ay] at hI;exact hI
   ·obtain⟨rfl,hS⟩:=hz
    exact Ok.pure ⟨rfl,hS⟩
 obtain⟨r,e,h1,h2⟩:=key
 rw [h1] at e
 exact⟨e,h2⟩
theorem A2o {b:Aa} (h:Ap b) {p:Ab} (s:Md b p) (hst:∀ (k:Nat) x,b.Ad[k]? = some x->x.Kind=1->p.Ae.getD k false=true->brk p.Ai 2 (k:Int)=true->A2 b p x.A.toNat=true) (u:Sep b p (Cw b p b.Ad.length)):Hz b (Ba p (Bk p.Ae (Cw b p b.Ad.length))):=λ k x hx hc=>by
 have hb:=(Dn h hx).1
 have hbr:=h.br x (ae hx)
 unfold Jp at hbr
 have hk:=(aa.1 hx).1
 obtain⟨h1,h2⟩:=(R5 (λ i hi=>by obtain⟨k,rfl,_⟩:=Ks.1 hi;omega) k).1 hc
 rw [u.live _ (by omega)]
 by_cases k2:x.Kind=2
 ·obtain⟨i,ei⟩:∃ i:Nat,x.B=(i:Int):=⟨x.B.toNat,by omega⟩
  have hi:i<b.Ac.length:=by omega
  have ek:=Sx h hi hx k2 ei
  have:=(Agn h s hi (by rw [←ek];exact h1)).2
  rwa [←ek,Cc hx] at this
 by_cases k3:x.Kind=3
 ·exact s.con k x hx h1 k3
 cases hl:A2 b p x.A.toNat with
 | true=>rfl
 | false=>
  cases hbk:brk p.Ai 2 (k:Int) with
  | true=>rw [hst k x hx (by omega) h1 hbk] at hl;cases hl
  | false=>
   exfalso
   refine h2 (Ks.2 ⟨k,rfl,hk,h1,?_⟩)
   unfold Rs
   rw [Cc hx,hbk,hl]
   simp [k2]
def C7 (b:Aa) (i:Nat):Nat:=(b.Ad.getD (brN b i) default).A.toNat
theorem Iz {b:Aa} (h:Ap b) {i:Nat} (hi:i<b.Ac.length):C7 b i<b.Al.toNat/\(b.Ad.getD (brN b i) default).A=(C7 b i:Int):=by
 obtain⟨_,_,_,_,hg⟩:=Dv h hi
 have:=(Dn h hg).1
 unfold C7
 omega
theorem Ayd {b:Aa} (h:Ap b) {q:Ab} (hq:Ao b q) {S:List Ag} (hr:Ao b ⟨q.Ae,S,q.Am,q.Ai⟩) (hs:∀ k,k<b.Ac.length->q.Ae.getD (brN b k) false=true->S.getD k default=q.Ac.getD k default) :
  (∀ n,Dq b q n ⟨q.Ae,S,q.Am,q.Ai⟩ n)/\(Di b q->Di b ⟨q.Ae,S,q.Am,q.Ai⟩):=by
 have hal:=Lc h hq hr rfl λ k hk hc=>by
  show (S.getD k default).State=2↔_
  rw [hs k hk hc]
 refine⟨hal,λ ha=>(Mc h).2 λ i j hi hj t=>?_⟩
 obtain⟨a,c,h1,h2,h3⟩:=t
 have cl:∀ {m:Nat} {v:Int},m<b.Ac.length->Ce b ⟨q.Ae,S,q.Am,q.Ai⟩ (m:Int)=some v->q.Ae.getD (brN b m) false=true/\Ce b q (m:Int)=some v:=fun {m v} hm e=>by
  have e2:=e
  rw [D5 h hr hm] at e
  split at e
  ·rename_i hh
   refine⟨hh.2,?_⟩
   rw [N9 h hq hr hm rfl (λ hc=>by
    show (S.getD m default).State=2↔_
    rw [hs m hm hc])] at e2
   exact e2
  ·cases e
 obtain⟨c1,e1⟩:=cl hi h1
 obtain⟨c2,e2⟩:=cl hj h2
 have:=(Mc h).1 ha i j hi hj ⟨a,c,e1,e2,h3⟩
 show B0 (S.getD i default) (S.getD j default)
 rw [hs i hi c1,hs j hj c2]
 exact this
def two (x:Ag):Ag:=⟨2,x.Since,x.Ar,x.Phase⟩
def Dl (b:Aa) (p w:Ab) (i:Nat):Bool:=Bf b p (i:Int) && !A2 b w (C7 b i)
structure Beg (b:Aa) (p w:Ab) (pre:List Ak) (j:Nat) (wt:Int) (S Q:List Ag) (as:List Ak):Prop where
 sw:Ao b ⟨w.Ae,S,w.Am,w.Ai⟩
 sq:Ao b ⟨w.Ae,Q,w.Am,w.Ai⟩
 agr:Di b ⟨w.Ae,Q,w.Am,w.Ai⟩
 exc:∀ n,n<b.Al.toNat->Bn b ⟨w.Ae,Q,w.Am,w.Ai⟩ n=0
 goes:F_ b p 20 as ⟨w.Ae,Q,w.Am,w.Ai⟩ 20
 len:as.length<=pre.length+j
 k3:∀ a,a∈as->a.Kind≠1
 wt0:0<=wt/\wt<=600
 wtM:∀ M,0<=M->(∀ x,x∈b.Ac->x.Start<=M)->wt<=M+1
 atS:∀ i,S.getD i default=if i<j/\Dl b p w i=true then two (p.Ac.getD i default) else p.Ac.getD i default
 atQ:∀ i,Q.getD i default=if i<j/\Dl b p w i=true/\(p.Ac.getD i default).State=0 then ⟨if (b.Ac.getD i default).Start=0 then 2 else 1,20,5000,0⟩ else p.Ac.getD i default
 at0:∀ i,i<j->Dl b p w i=true->(p.Ac.getD i default).State=0->(b.Ac.getD i default).Start<=wt
 at1:∀ i,i<j->Dl b p w i=true->(p.Ac.getD i default).State=1->(b.Ac.getD i default).Start<=wt/\1<=wt
structure Im (b:Aa) (p w:Ab) (pre:List Ak):Prop where
 st:Md b p
 sw:Ao b w
 src:w.Ac=p.Ac
 li:w.Am=p.Am
 br:w.Ai=p.Ai
 fewer:∀ k:Nat,w.Ae.getD k false=true->p.Ae.getD k false=true
 live:∀ n,n<b.Al.toNat->A2 b w n=A2 b p n
 all:Hz b w
 agr:Di b w
 exc:∀ n,n<b.Al.toNat->Bn b w n=0
 goes:F_ b p 20 pre w 20
 k2:∀ a,a∈pre->a.Kind≠1
theorem Im.run {b:Aa} (h:Ap b) {p w:Ab} {pre:List Ak} (o:Im b p w pre) {i:Nat} (hi:i<b.Ac.length) (hc:w.Ae.getD (brN b i) false=true):(p.Ac.getD i default).State=2/\Dl b p w i=false:=by
 obtain⟨h1,h2⟩:=Agn h o.st hi (o.fewer _ hc)
 refine⟨h1,?_⟩
 have e:A2 b w (C7 b i)=true:=by rw [o.live _ (Iz h hi).1];exact h2
 unfold Dl
 rw [e];simp
theorem Im.nil {b:Aa} {p w:Ab} {pre:List Ak} (o:Im b p w pre):Beg b p w pre 0 0 p.Ac p.Ac pre:=by
 have e:(⟨w.Ae,p.Ac,w.Am,w.Ai⟩:Ab)=w:=by rw [←o.src]
 exact⟨by rw [e];exact o.sw,by rw [e];exact o.sw,by rw [e];exact o.agr,by rw [e];exact o.exc,by rw [e];exact o.goes,by omega,o.k2,by omega,λ M _ _=>by omega,λ i=>by rw [if_neg (λ hh=>by omega)],λ i=>by rw [if_neg (λ hh=>by omega)],λ i hi=>by omega,λ i hi=>by omega⟩
theorem Po {b:Aa} {p q:Ab} (hb:q.Ai=p.Ai) {i:Nat} (hs:(q.Ac.getD i default).State=3↔(p.Ac.getD i default).State=3):Bf b q (i:Int)=Bf b p (i:Int):=by
 unfold Bf
 rw [hb,ah]
 congr 1
 rw [aZ,dG,dG]
 exact not_congr hs
theorem J5 {b:Aa} {p:Ab} {i:Int} (h:Bf b p i=true):brk p.Ai 1 i=false/\Bz b p.Ai (Fl b i)=true/\(p.Ac.getD i.toNat default).State≠3:=by
 unfold Bf at h
 simp only [ac,aJ,dG] at h
 exact⟨h.1.2,h.1.1,h.2⟩
theorem Va {S:List Ag} {j i:Nat} {y:Ag} (hj:j<S.length):(S.set j y).getD i default=if i=j then y else S.getD i default:=by
 rw [Jl]
 by_cases e:j=i
 ·rw [if_pos ⟨e,hj⟩,if_pos e.symm]
 ·rw [if_neg (λ hh=>e hh.1),if_neg (λ hh=>e hh.symm)]
theorem Beg.step {b:Aa} (h:Ap b) {p w:Ab} {pre:List Ak} (o:Im b p w pre) {j:Nat} (hj:j<b.Ac.length) {wt:Int} {S Q:List Ag} {as:List Ak} (u:Beg b p w pre j wt S Q as) :
  (Dl b p w j=false->Beg b p w pre (j+1) wt S Q as) /\
  (Dl b p w j=true->(p.Ac.getD j default).State=0->Beg b p w pre (j+1) (max wt (b.Ac.getD j default).Start) (S.set j (two (p.Ac.getD j default))) (Q.set j ⟨if (b.Ac.getD j default).Start=0 then 2 else 1,20,5000,0⟩) (as++[⟨3,(j:Int),0⟩])) /\
  (Dl b p w j=true->(p.Ac.getD j default).State=1->Beg b p w pre (j+1) (max (max wt (b.Ac.getD j default).Start) 1) (S.set j (two (p.Ac.getD j default))) Q as) /\
  (Dl b p w j=true->(p.Ac.getD j default).State=2->Beg b p w pre (j+1) wt (S.set j (two (p.Ac.getD j default))) Q as):=by
 have hp:=o.st.st
 have hSl:S.length=b.Ac.length:=u.sw.nso
 have hQl:Q.length=b.Ac.length:=u.sq.nso
 have hxj:=Yq hj
 have hso:=h.so _ (ae hxj)
 have hst:=hso.2.2
 have hrun:=Yu hp hj
 have two_run:C4 (two (p.Ac.getD j default)):=⟨by dsimp only [two];omega,hrun.2.1,hrun.2.2.1,hrun.2.2.2⟩
 have sw2:Ao b ⟨w.Ae,S.set j (two (p.Ac.getD j default)),w.Am,w.Ai⟩:=H0 u.sw (by rw [bj]) (Jr u.sw.run two_run)
 have hS2:Dl b p w j=true->∀ i,(S.set j (two (p.Ac.getD j default))).getD i default=if i<j+1/\Dl b p w i=true then two (p.Ac.getD i default) else p.Ac.getD i default:=λ hh i=>by
  rw [Va (by omega),u.atS]
  by_cases e:i=j
  ·subst e
   rw [if_pos rfl,if_pos ⟨by omega,hh⟩]
  ·rw [if_neg e]
   have:(i<j+1)=(i<j):=by rw [eq_iff_iff];omega
   simp only [this]
 have hQ2:¬(Dl b p w j=true/\(p.Ac.getD j default).State=0)->∀ i,Q.getD i default=if i<j+1/\Dl b p w i=true/\(p.Ac.getD i default).State=0 then ⟨if (b.Ac.getD i default).Start=0 then 2 else 1,20,5000,0⟩ else p.Ac.getD i default:=λ hh i=>by
  rw [u.atQ]
  by_cases e:i=j
  ·subst e
   rw [if_neg (λ hx=>by omega),if_neg (λ hx=>hh hx.2)]
  ·have:(i<j+1)=(i<j):=by rw [eq_iff_iff];omega
   simp only [this]
 refine⟨λ hh=>?_,λ hh h0=>?_,λ hh h1=>?_,λ hh h2=>?_⟩
 ·refine⟨u.sw,u.sq,u.agr,u.exc,u.goes,by have:=u.len;omega,u.k3,u.wt0,u.wtM,λ i=>?_,hQ2 (by rw [hh];simp),λ i hi hb=>?_,λ i hi hb=>?_⟩
  ·rw [u.atS]
   by_cases e:i=j
   ·subst e
    rw [if_neg (λ hx=>by omega),if_neg (λ hx=>by rw [hh] at hx;cases hx.2)]
   ·have:(i<j+1)=(i<j):=by rw [eq_iff_iff];omega
    simp only [this]
  ·by_cases e:i=j
   ·subst e;rw [hh] at hb;cases hb
   ·exact u.at0 i (by omega) hb
  ·by_cases e:i=j
   ·subst e;rw [hh] at hb;cases hb
   ·exact u.at1 i (by omega) hb
 ·have hopen:w.Ae.getD (brN b j) false=false:=by
   cases hc:w.Ae.getD (brN b j) false with
   | false=>rfl
   | true=>rw [(o.run h hj hc).2] at hh;cases hh
  have hop:Ig b w.Ae j=true:=by
   unfold Ig
   have:(Fl b (j:Int)).toNat=brN b j:=rfl
   rw [this,hopen];rfl
  have hus:Bf b p (j:Int)=true:=by
   unfold Dl at hh
   rw [ac] at hh;exact hh.1
  have hb1:=(J5 hus).1
  have hQj:Q.getD j default=p.Ac.getD j default:=by rw [u.atQ,if_neg (λ hx=>by omega)]
  have hact:=Av6 h u.sq (t:=20) (by omega) hj (by show (Q.getD j default).State=0;rw [hQj];exact h0) (by show brk w.Ai 1 _=false;rw [o.br];exact hb1)
  have ecnd:((b.Ac.getD j default).Start=0/\Ig b w.Ae j=true)=((b.Ac.getD j default).Start=0):=by rw [eq_iff_iff];exact⟨λ hx=>hx.1,λ hx=>⟨hx,hop⟩⟩
  dsimp only at hact
  simp only [ecnd] at hact
  have new_run:C4 ⟨if (b.Ac.getD j default).Start=0 then 2 else 1,20,5000,0⟩:=⟨by dsimp only;split <;> omega,by dsimp only;omega,by dsimp only;omega,by dsimp only;omega⟩
  have hr:Ao b ⟨w.Ae,Q.set j ⟨if (b.Ac.getD j default).Start=0 then 2 else 1,20,5000,0⟩,w.Am,w.Ai⟩:=H0 u.sq (by rw [bj]) (Jr u.sq.run new_run)
  obtain⟨r1,r2⟩:=Ayd h u.sq hr λ k hk hc=>by
   have:k≠j:=λ e=>by
    subst e
    have hc:w.Ae.getD (brN b k) false=true:=hc
    rw [hopen] at hc;cases hc
   show (Q.set j _).getD k default=Q.getD k default
   rw [Va (by omega),if_neg this]
  have hexc:∀ n,n<b.Al.toNat->Bn b ⟨w.Ae,Q.set j ⟨if (b.Ac.getD j default).Start=0 then 2 else 1,20,5000,0⟩,w.Am,w.Ai⟩ n=0:=λ n hn=>by
   rw [((r1 n).load h hn hn rfl).2.2];exact u.exc n hn
  refine⟨sw2,hr,r2 u.agr,hexc,u.goes.app (F_.one (by dsimp only;omega) hact hr (Aak h u.sq u.agr (by dsimp only;omega) hact) hexc),by have:=u.len;simp;omega,λ a ha=>(aq.1 ha).elim (u.k3 a) λ ha=>by rw [aP.1 ha];dsimp only;omega,by have:=u.wt0;omega,λ M hM hx=>?_,hS2 hh,λ i=>?_,λ i hi hb hi0=>?_,λ i hi hb hi1=>?_⟩
  ·have g1:=u.wtM M hM hx
   have g2:=hx _ (ae hxj)
   omega
  ·rw [Va (by omega),u.atQ]
   by_cases e:i=j
   ·subst e
    rw [if_pos (rfl:i=i),if_pos (show i<i+1/\Dl b p w i=true/\(p.Ac.getD i default).State=0 from⟨by omega,hh,h0⟩)]
   ·rw [if_neg e]
    have:(i<j+1)=(i<j):=by rw [eq_iff_iff];omega
    simp only [this]
  ·by_cases e:i=j
   ·subst e;omega
   ·have:=u.at0 i (by omega) hb hi0;omega
  ·by_cases e:i=j
   ·subst e;omega
   ·have:=u.at1 i (by omega) hb hi1;omega
 ·refine⟨sw2,u.sq,u.agr,u.exc,u.goes,by have:=u.len;omega,u.k3,by have:=u.wt0;omega,λ M hM hx=>?_,hS2 hh,hQ2 (λ hx=>by omega),λ i hi hb hi0=>?_,λ i hi hb hi1=>?_⟩
  ·have g1:=u.wtM M hM hx
   have g2:=hx _ (ae hxj)
   omega
  ·by_cases e:i=j
   ·subst e;omega
   ·have:=u.at0 i (by omega) hb hi0;omega
  ·by_cases e:i=j
   ·subst e;omega
   ·have:=u.at1 i (by omega) hb hi1;omega
 ·refine⟨sw2,u.sq,u.agr,u.exc,u.goes,by have:=u.len;omega,u.k3,u.wt0,u.wtM,hS2 hh,hQ2 (λ hx=>by omega),λ i hi hb hi0=>?_,λ i hi hb hi1=>?_⟩
  ·by_cases e:i=j
   ·subst e;omega
   ·exact u.at0 i (by omega) hb hi0
  ·by_cases e:i=j
   ·subst e;omega
   ·exact u.at1 i (by omega) hb hi1
structure Wtd (b:Aa) (p w:Ab) (wt:Int) (as0:List Ak) (m:Nat) (Q:List Ag):Prop where
 sq:Ao b ⟨w.Ae,Q,w.Am,w.Ai⟩
 agr:Di b ⟨w.Ae,Q,w.Am,w.Ai⟩
 exc:∀ n,n<b.Al.toNat->Bn b ⟨w.Ae,Q,w.Am,w.Ai⟩ n=0
 goes:F_ b p 20 (as0++List.replicate m aW) ⟨w.Ae,Q,w.Am,w.Ai⟩ (20+m)
 rdy:∀ i,i<b.Ac.length->Dl b p w i=true->(Q.getD i default).State=2\/((Q.getD i default).State=1/\(0<=(Q.getD i default).Since/\(Q.getD i default).Since<=20)/\(b.Ac.getD i default).Start<=wt/\(m:Int)<wt)
 run:∀ i,i<b.Ac.length->w.Ae.getD (brN b i) false=true->(Q.getD i default).State=2
 s3:∀ i,i<b.Ac.length->((Q.getD i default).State=3↔(p.Ac.getD i default).State=3)
theorem Wtd.zero {b:Aa} (h:Ap b) {p w:Ab} {pre:List Ak} (o:Im b p w pre) (hsi:∀ x,x∈p.Ac->x.Since<=20) {wt:Int} {S Q:List Ag} {as:List Ak} (u:Beg b p w pre b.Ac.length wt S Q as):Wtd b p w wt as 0 Q:=by
 have hp:=o.st.st
 have hn:=hp.nso
 refine⟨u.sq,u.agr,u.exc,by rw [List.replicate_zero,aH];exact u.goes,λ i hi hh=>?_,λ i hi hc=>?_,λ i hi=>?_⟩
 ·have hrun:=Yu hp hi
  have hus:Bf b p (i:Int)=true:=by
   unfold Dl at hh
   rw [ac] at hh;exact hh.1
  have h3:=(J5 hus).2.2
  rw [ah] at h3
  have hst:=(h.so _ (ae (Yq hi))).2.2
  rw [u.atQ]
  by_cases h0:(p.Ac.getD i default).State=0
  ·rw [if_pos ⟨hi,hh,h0⟩]
   have:=u.at0 i hi hh h0
   by_cases hs:(b.Ac.getD i default).Start=0
   ·left;dsimp only;rw [if_pos hs]
   ·right;dsimp only;rw [if_neg hs];omega
  ·rw [if_neg (λ hx=>h0 hx.2.2)]
   by_cases h1:(p.Ac.getD i default).State=1
   ·right
    have:=u.at1 i hi hh h1
    have hmem:p.Ac.getD i default∈p.Ac:=by
     rw [a9,af (by omega)]
     exact cJ _
    have:=hsi _ hmem
    have:=hrun.2.1
    omega
   ·left
    have:=hrun.1
    omega
 ·obtain⟨h1,h2⟩:=o.run h hi hc
  rw [u.atQ,if_neg (λ hx=>by rw [h2] at hx;cases hx.2.1)]
  exact h1
 ·rw [u.atQ]
  split
  ·rename_i hx
   dsimp only
   have:=hx.2.2
   split <;> omega
  ·exact Iff.rfl
theorem Wtd.step {b:Aa} (h:Ap b) {p w:Ab} {pre:List Ak} (o:Im b p w pre) {wt:Int} (hwt:wt<=600) {as:List Ak} {m:Nat} (hm:(m:Int)<wt) {Q:List Ag} (u:Wtd b p w wt as m Q):∃ R,Wtd b p w wt as (m+1) R:=by
 have hQl:Q.length=b.Ac.length:=u.sq.nso
 have hact:=A0l h u.sq (t:=20+(m:Int)) (by omega)
 have hwa:=(Afc h u.sq (T:=20+(m:Int)) (by omega)).2.1
 rw [A3y h u.sq (by omega)] at hwa
 have hat:∀ i,i<b.Ac.length->(wtS b ⟨w.Ae,Q,w.Am,w.Ai⟩ (20+(m:Int))).Ac.getD i default=E_ b w.Ae (20+(m:Int)) (Da (Q.getD i default)) i:=λ i hi=>jA _ (by show i<Q.length;omega)
 have hrise:∀ i (x:Ag),(E_ b w.Ae (20+(m:Int)) x i).Since=x.Since/\((E_ b w.Ae (20+(m:Int)) x i).State=x.State\/(x.State=1/\(E_ b w.Ae (20+(m:Int)) x i).State=2)):=λ i x=>by
  unfold E_
  split
  ·rename_i hx
   exact⟨rfl,.inr ⟨hx.1.1,rfl⟩⟩
  ·exact⟨rfl,.inl rfl⟩
 have hts:∀ x:Ag,(Da x).Since=x.Since:=λ x=>by unfold Da;split <;> rfl
 have hrun:∀ i,i<b.Ac.length->w.Ae.getD (brN b i) false=true->((wtS b ⟨w.Ae,Q,w.Am,w.Ai⟩ (20+(m:Int))).Ac.getD i default).State=2:=λ i hi hc=>by
  rw [hat i hi]
  have h2:=u.run i hi hc
  rcases (hrise i (Da (Q.getD i default))).2 with e | ⟨e,_⟩
  ·rw [e,Gf];exact h2
  ·rw [Gf] at e;omega
 have hal:=Lc h u.sq hwa rfl λ k hk hc=>⟨λ _=>u.run k hk hc,λ _=>hrun k hk hc⟩
 have hexc:∀ n,n<b.Al.toNat->Bn b (wtS b ⟨w.Ae,Q,w.Am,w.Ai⟩ (20+(m:Int))) n=0:=λ n hn=>by
  rw [((hal n).load h hn hn rfl).2.2];exact u.exc n hn
 refine⟨(wtS b ⟨w.Ae,Q,w.Am,w.Ai⟩ (20+(m:Int))).Ac,hwa,Aod h u.sq u.agr hwa,hexc,?_,λ i hi hh=>?_,hrun,λ i hi=>?_⟩
 ·rw [List.replicate_succ',←aY]
  have e:(20:Int)+((m+1:Nat):Int)=20+(m:Int)+1:=by omega
  rw [e]
  exact u.goes.app (dv rfl hact hwa ((Mq u.sq _).sub.nobad h hwa u.sq) hexc)
 ·rw [hat i hi]
  have hso:=(h.so _ (ae (Yq hi))).2.2
  obtain⟨r1,r2⟩:=hrise i (Da (Q.getD i default))
  rw [hts] at r1
  rw [Gf] at r2
  rcases u.rdy i hi hh with e | ⟨e1,⟨e2,e3⟩,e4,e5⟩
  ·left
   rcases r2 with r2 | ⟨r2,_⟩
   ·rw [r2];exact e
   ·omega
  ·have hopen:w.Ae.getD (brN b i) false=false:=by
    cases hc:w.Ae.getD (brN b i) false with
    | false=>rfl
    | true=>rw [(o.run h hi hc).2] at hh;cases hh
   have hop:Ig b w.Ae i=true:=by
    unfold Ig
    have:(Fl b (i:Int)).toNat=brN b i:=rfl
    rw [this,hopen];rfl
   by_cases hlast:(m:Int)+1<wt
   ·rcases r2 with r2 | ⟨_,r2⟩
    ·right
     rw [r2,r1]
     exact⟨e1,⟨e2,e3⟩,e4,by omega⟩
    ·exact .inl r2
   ·left
    unfold E_
    rw [if_pos]
    refine⟨⟨by rw [Gf];exact e1,hop⟩,?_⟩
    rw [hts,A5 (by omega),A5 (by omega)]
    omega
 ·rw [hat i hi]
  have h3:=u.s3 i hi
  rcases (hrise i (Da (Q.getD i default))).2 with e | ⟨e,e2⟩
  ·rw [e,Gf];exact h3
  ·rw [Gf] at e
   rw [e2]
   constructor
   ·intro hx;omega
   ·intro hx;have:=h3.2 hx;omega
theorem Wtd.all {b:Aa} (h:Ap b) {p w:Ab} {pre:List Ak} (o:Im b p w pre) {wt:Int} (hwt:wt<=600) {as:List Ak} {Q:List Ag} (u:Wtd b p w wt as 0 Q):∀ m:Nat,(m:Int)<=wt->∃ R,Wtd b p w wt as m R
 | 0,_=>⟨Q,u⟩
 | m+1,hm=>by
  obtain⟨R,hR⟩:=Wtd.all h o hwt u m (by omega)
  exact hR.step h o hwt (by omega)
theorem Qo {α:Type} (x:Option α) (d:α):Az [((!true:Bool),false)] x d=x:=rfl
theorem At6 {b:Aa} (h:Ap b) {p w:Ab} {pre:List Ak} (o:Im b p w pre) (hpre:pre.length<=100) (g:List Bool):Ok (vT ⟨b,w,g,pre⟩) λ y=>∃ (wt:Int) (S Q:List Ag) (as:List Ak),y=⟨b,⟨w.Ae,S,w.Am,w.Ai⟩,g,as++List.replicate wt.toNat aW⟩/\Beg b p w pre b.Ac.length wt S Q as:=by
 have hso:=h.sol
 have hwl:w.Ac.length=b.Ac.length:=o.sw.nso
 have hbb:=h.brl
 have hbl:w.Ai.length<=1000:=by have:=o.sw.brk.len;omega
 unfold vT
 refine Ok.andThen (A:=λ z=>∃ Q,Beg b p w pre b.Ac.length z.1 z.2.1 Q z.2.2) (B:=λ (_:Unit)=>False) ?_ (λ z hz=>?_) (λ _ h=>h.elim)
 ·refine c6 (I:=λ j z=>∃ Q,Beg b p w pre j z.1 z.2.1 Q z.2.2) ⟨p.Ac,?_⟩ (λ j x z hx hI=>?_) λ z hI=>?_
  ·dsimp only;rw [o.src];exact o.nil
  ·have hx:w.Ac[j]? = some x:=hx
   have hj:j<b.Ac.length:=by have:=(aa.1 hx).1;omega
   obtain⟨Q,u⟩:=hI
   obtain⟨wt,S,as⟩:=z
   dsimp only at u
   obtain⟨st0,st1,st2,st3⟩:=u.step h o hj
   have hSl:S.length=b.Ac.length:=u.sw.nso
   have hal:=u.len
   have hSj:S.getD j default=p.Ac.getD j default:=by rw [u.atS,if_neg (λ hx=>by omega)]
   have hg:getI S (j:Int)=some (p.Ac.getD j default):=by
    rw [←hSj]
    exact A8 (by rw [af (by omega)];simp [List.getD,List.getElem?_eq_getElem (show j<S.length by omega)])
   have hus:Bf b ⟨w.Ae,S,w.Am,w.Ai⟩ (j:Int)=Bf b p (j:Int):=Po (q:=⟨w.Ae,S,w.Am,w.Ai⟩) (p:=p) (i:=j) o.br (by show (S.getD j default).State=3↔_;rw [hSj])
   have hue:=T1 h (p:=⟨w.Ae,S,w.Am,w.Ai⟩) hSl hbl (i:=(j:Int)) (by omega) (by omega)
   rw [hus] at hue
   unfold Zy
   dsimp only
   rw [Co (by omega),hg,hue]
   simp only [ab]
   cases hu:Bf b p (j:Int) with
   | false=>
    have hhb:Dl b p w j=false:=by unfold Dl;rw [hu];rfl
    refine Ok.bind (P:=λ _=>True) (d6 (λ hh=>absurd hh.1 (by simp)) λ _=>trivial) λ _ _=>?_
    refine Ok.bind (P:=λ _=>True) (d6 (λ hh=>absurd hh.1 (by simp)) λ _=>trivial) λ _ _=>?_
    refine Ok.bind (P:=λ _=>True) (d6 (λ hh=>absurd hh.1 (by simp)) λ _=>trivial) λ _ _=>?_
    exact c5 ⟨Q,st0 hhb⟩
   | true=>
    obtain⟨eb,_,_,_,hgb⟩:=Dv h hj
    obtain⟨hb1,hb2⟩:=Iz h hj
    have hlv:A2 b ⟨w.Ae,S,w.Am,w.Ai⟩ (C7 b j)=A2 b w (C7 b j):=Dq.live h hb1 hb1 (Lc h o.sw u.sw rfl (λ k hk hc=>by
     obtain⟨r1,r2⟩:=o.run h hk hc
     show (S.getD k default).State=2↔_
     rw [u.atS,if_neg (λ hx=>by rw [r2] at hx;cases hx.2),o.src]) _).src
    have hpl:=Ky h u.sw (g:=g) (as:=as) (n:=(C7 b j:Int)) (by omega)
    rw [ah,hlv,←hb2] at hpl
    refine Ok.bind (P:=λ v=>v=(brN b j:Int)) (c7 (x:=(brN b j:Int)) (by rw [Qo,I0 h,eb]) rfl) λ v hv=>?_
    subst hv
    refine Ok.bind (P:=λ v=>v=b.Ad.getD (brN b j) default) (c7 (x:=b.Ad.getD (brN b j) default) (by rw [Qo];exact A8 hgb) rfl) λ v hv=>?_
    subst hv
    refine Ok.bind (P:=λ v=>v=A2 b w (C7 b j)) (c7 (x:=A2 b w (C7 b j)) (by rw [Qo];exact hpl) rfl) λ v hv=>?_
    subst hv
    refine c4 (λ hc=>?_) (λ hc=>?_)
    ·have hhb:Dl b p w j=false:=by unfold Dl;simp at hc;rw [hc];simp
     exact c5 ⟨Q,st0 hhb⟩
    have hhb:Dl b p w j=true:=by unfold Dl;simp at hc;rw [hu,hc];rfl
    have hrun:=Yu o.st.st hj
    have h3:=(J5 hu).2.2
    rw [ah] at h3
    refine c4 (λ h0=>?_) (λ h0=>c4 (λ h1=>?_) (λ h1=>?_))
    ·simp only [dz] at h0
     refine (cW (by simp only [aS,bL];omega)).bind λ y hy=>?_
     refine Ok.bind (P:=λ v=>v=b.Ac.getD j default) (c7 (A8 (Yq hj)) rfl) λ v hv=>?_
     subst hv
     refine (cV (by omega) (by omega)).bind λ v hv=>c5 ⟨Q.set j ⟨if (b.Ac.getD j default).Start=0 then 2 else 1,20,5000,0⟩,?_⟩
     rw [hy,hv,ah]
     exact st1 hhb h0
    ·simp only [dz] at h1
     refine Ok.bind (P:=λ v=>v=b.Ac.getD j default) (c7 (A8 (Yq hj)) rfl) λ v hv=>?_
     subst hv
     refine (cV (by omega) (by omega)).bind λ v hv=>c5 ⟨Q,?_⟩
     rw [hv,ah]
     exact st2 hhb h1
    ·simp only [dA] at h0 h1
     refine (cV (by omega) (by omega)).bind λ v hv=>c5 ⟨Q,?_⟩
     rw [hv,ah]
     exact st3 hhb (by have:=hrun.1;omega)
  ·rw [show (⟨b,w,g,pre⟩:Ay).Aq.Ac.length=b.Ac.length from hwl] at hI
   exact hI
 ·obtain⟨Q,u⟩:=hz
  obtain⟨wt,S,as⟩:=z
  dsimp only at u ⊢
  have hw0:=u.wt0
  have hal:=u.len
  have hr:=A2s (n:=wt.toNat) (by omega)
  rw [az hw0.1] at hr
  refine Ok.bind (P:=λ v=>v=List.replicate wt.toNat aW) (c7 hr rfl) λ v hv=>?_
  subst hv
  refine (cW (by rw [cR];omega)).bind λ y hy=>Ok.pure ⟨wt,S,Q,as,by rw [hy],u⟩
def A06 (l:List As) (x:Ah):Prop:=brk l 3 x.A=false/\(x.Kind=1->brk l 3 x.B=false)/\(x.Kind=2->brk l 1 x.B=false)/\(x.Kind=3->brk l 4 x.B=false)
structure Mid (b:Aa) (p w q:Ab) (t:Int) (as:List Ak):Prop where
 hw:Ao b w
 hq:Ao b q
 cl:q.Ae=w.Ae
 li:q.Am=w.Am
 bw:w.Ai=p.Ai
 bq:q.Ai=p.Ai
 agr:Di b q
 exc:∀ n,n<b.Al.toNat->Bn b q n=0
 all:Hz b q
 goes:F_ b p 20 as q t
 tim:20<=t/\t<=1000
 safe:∀ (k:Nat) x,b.Ad[k]? = some x->q.Ae.getD k false=true->A06 p.Ai x
 run:∀ i,i<b.Ac.length->q.Ae.getD (brN b i) false=true->(w.Ac.getD i default).State=2/\(q.Ac.getD i default).State=2
 rdy:∀ i,i<b.Ac.length->Bf b p (i:Int)=true->A2 b q (C7 b i)=false->(w.Ac.getD i default).State=2/\(q.Ac.getD i default).State=2
 uw:∀ i,i<b.Ac.length->((w.Ac.getD i default).State=3↔(p.Ac.getD i default).State=3)
 uq:∀ i,i<b.Ac.length->((q.Ac.getD i default).State=3↔(p.Ac.getD i default).State=3)
theorem A6m {p:Ab} {x:Ah} (hk:x.Kind=1\/x.Kind=2\/x.Kind=3) (hd:Bx p x=false):A06 p.Ai x:=by
 unfold Bx at hd
 rw [bk] at hd
 refine⟨hd.1,λ e=>?_,λ e=>?_,λ e=>?_⟩
 ·have:=hd.2;rw [if_pos e] at this;exact this
 ·have:=hd.2;rw [if_neg (by omega),if_pos e,bk] at this;exact this.1
 ·have:=hd.2;rw [if_neg (by omega),if_neg (by omega)] at this;exact this
theorem kinds {b:Aa} (h:Ap b) {k:Nat} {x:Ah} (hx:b.Ad[k]? = some x):(x.Kind=1\/x.Kind=2\/x.Kind=3)/\(x.Kind=2->0<=x.B/\x.B<b.Ac.length)/\(x.Kind=3->0<=x.B/\x.B<b.Af.length):=by
 have:=h.br x (ae hx)
 unfold Jp at this
 exact⟨by omega,λ e=>by omega,λ e=>by omega⟩
theorem Aue {b:Aa} (h:Ap b) {p w:Ab} {pre:List Ak} (o:Im b p w pre) {wt:Int} {S Q R:List Ag} {as:List Ak} (u:Beg b p w pre b.Ac.length wt S Q as) (r:Wtd b p w wt as wt.toNat R):Mid b p ⟨w.Ae,S,w.Am,w.Ai⟩ ⟨w.Ae,R,w.Am,w.Ai⟩ (20+wt) (as++List.replicate wt.toNat aW):=by
 have hw0:=u.wt0
 have hal:=Lc h o.sw r.sq rfl λ k hk hc=>by
  show (R.getD k default).State=2↔_
  rw [o.src]
  exact⟨λ _=>(o.run h hk hc).1,λ _=>r.run k hk hc⟩
 have hlive:∀ n,n<b.Al.toNat->A2 b ⟨w.Ae,R,w.Am,w.Ai⟩ n=A2 b w n:=λ n hn=>Dq.live h hn hn (hal n).src
 refine⟨u.sw,r.sq,rfl,rfl,o.br,o.br,r.agr,r.exc,λ k x hx hc=>?_,?_,by omega,λ k x hx hc=>A6m (kinds h hx).1 (o.st.safe k x hx (o.fewer k hc)),λ i hi hc=>⟨?_,r.run i hi hc⟩,λ i hi hu hd=>?_,λ i hi=>?_,r.s3⟩
 ·have hb:=(Dn h hx).1
  rw [hlive _ (by omega)]
  exact o.all k x hx hc
 ·have:=r.goes
  rwa [az hw0.1] at this
 ·obtain⟨r1,r2⟩:=o.run h hi hc
  show (S.getD i default).State=2
  rw [u.atS,if_neg (λ hx=>by rw [r2] at hx;cases hx.2)]
  exact r1
 ·have hh:Dl b p w i=true:=by
   unfold Dl
   rw [hu,←hlive _ (Iz h hi).1,hd];rfl
  refine⟨?_,?_⟩
  ·show (S.getD i default).State=2
   rw [u.atS,if_pos ⟨hi,hh⟩];rfl
  ·rcases r.rdy i hi hh with e | ⟨_,_,_,e⟩
   ·exact e
   ·omega
 ·show (S.getD i default).State=3↔_
  rw [u.atS]
  split
  ·rename_i hx
   have hus:Bf b p (i:Int)=true:=by
    have:=hx.2
    unfold Dl at this
    rw [ac] at this;exact this.1
   have h3:=(J5 hus).2.2
   rw [ah] at h3
   constructor
   ·intro e;exact absurd (show (2:Int)=3 from e) (by decide)
   ·intro e;exact absurd e h3
  ·exact Iff.rfl
theorem Mid.live {b:Aa} (h:Ap b) {p w q:Ab} {t:Int} {as:List Ak} (u:Mid b p w q t as) {n:Nat} (hn:n<b.Al.toNat):A2 b w n=A2 b q n:=
 Dq.live h hn hn (Lc h u.hq u.hw u.cl.symm (λ k hk hc=>⟨λ _=>(u.run k hk hc).2,λ _=>(u.run k hk hc).1⟩) n).src
theorem Mid.load {b:Aa} (h:Ap b) {p w q:Ab} {t:Int} {as:List Ak} (u:Mid b p w q t as) {n:Nat} (hn:n<b.Al.toNat):Bp b w n=Bp b q n/\Ci b w n=Ci b q n:=by
 have:=(Lc h u.hq u.hw u.cl.symm (λ k hk hc=>⟨λ _=>(u.run k hk hc).2,λ _=>(u.run k hk hc).1⟩) n).load h hn hn u.li.symm
 exact⟨this.1,this.2.1⟩
def Gk (w:Ab) (k:Nat):Ab:=⟨w.Ae.set k true,w.Ac,w.Am,w.Ai⟩
theorem Mid.close {b:Aa} (h:Ap b) {p w q:Ab} {t:Int} {as:List Ak} (u:Mid b p w q t as) {k:Nat} {x:Ah} (hx:b.Ad[k]? = some x) (hs:D1 b q (k:Int)=true) (ha:Aru b q x) (hS:x.Kind=2->(w.Ac.getD x.B.toNat default).State=2)
  (he:∀ n,n<b.Al.toNat->Bn b (A7 b q k) n=0) (hl:A2 b (A7 b q k) x.A.toNat=true):Mid b p (Gk w k) (A7 b q k) t (as++[⟨1,(k:Int),0⟩]):=by
 have hled:x.Kind=3->B1 b q 3 x.B=none:=λ e=>Abj (j:=(k:Int)) (by rw [ah];exact hx) hs e
 have hr:=Kj u.hq hx hled
 have hw2:Ao b (Gk w k):=Vk u.hw hx λ e=>by
  have:=hled e
  unfold B1 at this ⊢
  rwa [u.cl] at this
 have hact:=Av7 h u.hq (t:=t) (by have:=u.tim;omega) hx hs ha
 have hsub:=Jb (b:=b) u.hq hx
 have hk2:=kinds h hx
 refine⟨hw2,hr,?_,u.li,u.bw,u.bq,Qq h (p:=⟨q.Ae.set k true,q.Ac,q.Am,q.Ai⟩) u.hq.nso,he,Ap9 h u.hq hx hr u.all hl,u.goes.app (F_.one (by dsimp only;omega) hact hr (Aak h u.hq u.agr (by dsimp only;omega) hact) he),u.tim,λ j y hy hc=>?_,λ i hi hc=>?_,λ i hi hu hd=>?_,λ i hi=>u.uw i hi,λ i hi=>?_⟩
 ·show q.Ae.set k true=w.Ae.set k true
  rw [u.cl]
 ·rcases (Ch u.hq hx j).1 hc with e | e
  ·subst e
   rw [hx] at hy;cases hy
   have hs2:=hs
   unfold D1 at hs2
   rw [ah,Cc hx,u.bq] at hs2
   simp only [ac,aJ] at hs2
   obtain⟨⟨⟨_,s2⟩,s3⟩,s4⟩:=hs2
   refine⟨s3,λ e=>?_,λ e=>?_,λ e=>?_⟩
   ·rw [if_pos e] at s4;simpa using s4
   ·rw [if_neg (by omega),if_pos e] at s4
    simp only [ac,aJ] at s4
    exact s4.1
   ·rw [if_neg (by omega),if_neg (by omega)] at s4
    simp only [ac,aJ] at s4
    exact s4.1
  ·exact u.safe j y hy e
 ·rw [Fc]
  rcases (Ch u.hq hx (brN b i)).1 hc with e | e
  ·obtain⟨_,_,k2,kB,hg⟩:=Dv h hi
   rw [e,Cc hx] at k2 kB
   have hok:=(Ar5 hx hs).2.2.2 k2
   have hSw:=hS k2
   rw [kB,ah] at hok hSw
   exact⟨hSw,hok.2⟩
  ·exact u.run i hi e
 ·rw [Fc]
  refine u.rdy i hi hu ?_
  cases hl2:A2 b q (C7 b i) with
  | false=>rfl
  | true=>rw [N1 h hr u.hq hsub (Iz h hi).1 hl2] at hd;cases hd
 ·rw [Fc];exact u.uq i hi
theorem Mid.mono {b:Aa} (h:Ap b) {q:Ab} (hq:Ao b q) {k:Nat} {x:Ah} (hx:b.Ad[k]? = some x) (hr:Ao b (A7 b q k)) {n:Nat} (hn:n<b.Al.toNat) (hl:A2 b q n=true):A2 b (A7 b q k) n=true:=N1 h hr hq (Jb hq hx) hn hl
theorem Aee:∀ (C:List Bool) (k:Nat),k<C.length->C.getD k false=false->cl (C.set k true)=cl C+1
 | [],k,h,_=>by simp at h
 | c::C,0,_,h=>by
  have h:c=false:=h
  subst h
  simp [cl]
 | c::C,k+1,h,h2=>by
  have:=Aee C k (by simpa using h) h2
  unfold cl at this ⊢
  simp only [List.set_cons_succ,List.count_cons]
  omega
structure Prg (b:Aa) (p:Ab) (t:Int) (q0:Ab) (as0:List Ak) (w q:Ab) (as:List Ak):Prop where
 mid:Mid b p w q t as
 len:as.length+cl q0.Ae=as0.length+cl q.Ae
 mono:∀ n,n<b.Al.toNat->A2 b q0 n=true->A2 b q n=true
 more:∀ k:Nat,q0.Ae.getD k false=true->q.Ae.getD k false=true
 nc:∀ a,a∈as->a∈as0\/(a.Kind=1/\∀ x,b.Ad[a.Unit.toNat]? = some x->x.Kind≠3)
theorem Prg.refl {b:Aa} {p w q:Ab} {t:Int} {as:List Ak} (u:Mid b p w q t as):Prg b p t q as w q as:=⟨u,rfl,λ _ _ h=>h,λ _ h=>h,λ _ h=>.inl h⟩
theorem Prg.close {b:Aa} (h:Ap b) {p w q q0:Ab} {t:Int} {as as0:List Ak} (u:Prg b p t q0 as0 w q as) {k:Nat} {x:Ah} (hx:b.Ad[k]? = some x) (h3:x.Kind≠3) (hs:D1 b q (k:Int)=true) (m:Mid b p (Gk w k) (A7 b q k) t (as++[⟨1,(k:Int),0⟩])):Prg b p t q0 as0 (Gk w k) (A7 b q k) (as++[⟨1,(k:Int),0⟩]):=by
 have hk:=(aa.1 hx).1
 have hn:=u.mid.hq.ncl
 have hc:q.Ae.getD k false=false:=by
  unfold D1 at hs
  simp only [ac,aJ,ah] at hs
  exact hs.1.1.1
 refine⟨m,?_,λ n hn2 hl=>Mid.mono h u.mid.hq hx m.hq hn2 (u.mono n hn2 hl),λ j hj=>(Ch u.mid.hq hx j).2 (.inr (u.more j hj)),λ a ha=>?_⟩
 ·have e:cl (A7 b q k).Ae=cl q.Ae+1:=Aee _ _ (by omega) hc
  have:=u.len
  rw [e,aL,List.length_singleton];omega
 ·rcases aq.1 ha with ha | ha
  ·exact u.nc a ha
  ·rw [aP.1 ha]
   refine .inr ⟨rfl,λ y hy=>?_⟩
   dsimp only at hy
   rw [ah,hx] at hy
   cases hy;exact h3
theorem Prg.clen {b:Aa} {p w q q0:Ab} {t:Int} {as as0:List Ak} (u:Prg b p t q0 as0 w q as):as.length<=as0.length+b.Ad.length:=by
 have h1:=u.len
 have h2:=Aef q.Ae
 have h3:=u.mid.hq.ncl
 omega
theorem A7b {b:Aa} {p w q:Ab} {t:Int} {as:List Ak} (u:Mid b p w q t as) {i:Nat} (hi:i<b.Ac.length):Bf b w (i:Int)=Bf b p (i:Int):=Po (q:=w) (p:=p) u.bw (u.uw i hi)
theorem A2j {b:Aa} (h:Ap b) {p w q:Ab} {t:Int} {as:List Ak} (u:Mid b p w q t as) {i:Nat} (hi:i<b.Ac.length) (hu:Bf b p (i:Int)=true) (hd:A2 b q (C7 b i)=false):Mid b p (Gk w (brN b i)) (A7 b q (brN b i)) t (as++[⟨1,(brN b i:Int),0⟩])/\D1 b q (brN b i:Int)=true/\A2 b (A7 b q (brN b i)) (C7 b i)=true:=by
 obtain⟨eb,_,k2,kB,hg⟩:=Dv h hi
 obtain⟨hb1,hb2⟩:=Iz h hi
 obtain⟨u1,u2,_⟩:=J5 hu
 obtain⟨r1,r2⟩:=u.rdy i hi hu hd
 have hc:q.Ae.getD (brN b i) false=false:=by
  cases hc:q.Ae.getD (brN b i) false with
  | false=>rfl
  | true=>
   have:=(Jk h hb1).2 ⟨i,hi,_,by rw [D5 h u.hq hi,if_pos ⟨r2,hc⟩],Bm.refl _ _⟩
   rw [hd] at this;cases this
 unfold Bz at u2
 rw [eb,ah] at u2
 simp only [ac,aJ] at u2
 have hs:D1 b q (brN b i:Int)=true:=by
  unfold D1
  rw [ah,hc,u.bq,u2.1.1,u2.1.2,if_neg (by omega),if_pos k2,kB,u1,ah,r2]
  rfl
 have hst:(q.Ac.getD (b.Ad.getD (brN b i) default).B.toNat default).State=2:=by rw [kB,ah];exact r2
 obtain⟨c1,c2⟩:=A6p h u.hq u.all hg k2 hst hd u.exc
 exact⟨u.close h hg hs (.inr (.inl ⟨k2,hd⟩)) (λ _=>by rw [kB,ah];exact r1) c1 c2,hs,c2⟩
theorem Apt {b : Aa} (h : Ap b) {p w0 q0 : Ab} {t : Int} {as0 : List Ak} (u0 : Mid b p w0 q0 t as0) (h0 : as0.length <= 1000) (g : List Bool) : Ok (vS ⟨b, w0, g, as0⟩) λ y => ∃ (w q : Ab) (as : List Ak), y = ⟨b, w, g, as⟩ /\ Prg b p t q0 as0 w q as /\ ∀ i, i < b.Ac.length -> Bf b p (i : Int) = true -> A2 b q (C7 b i) = true := by
 have hso:=h.sol
 have hbb:=h.brl
 have hbu:=h.buses
 unfold vS
 refine Ok.andThen (A:=λ z=>∃ (w q:Ab) (as:List Ak),z.2=Hb b w g as/\Prg b p t q0 as0 w q as/\∀ i,i<b.Ac.length->Bf b p (i:Int)=true->A2 b q (C7 b i)=true) (B:=λ (_:Unit)=>False) ?_ (λ z hz=>?_) (λ _ h=>h.elim)
 ·refine c8 (λ z=>(0<=z.1/\z.1<=b.Al)/\∃ (w q:Ab) (as:List Ak),z.2=Hb b w g as/\Prg b p t q0 as0 w q as/\∀ i,i<b.Ac.length->Bf b p (i:Int)=true->(C7 b i:Int)<z.1->A2 b q (C7 b i)=true) (λ z=>(b.Al-z.1).toNat) _ _ ⟨⟨by dsimp only;omega,by dsimp only;omega⟩,w0,q0,as0,rfl,Prg.refl u0,λ i _ _ hi=>by dsimp only at hi;omega⟩ (by dsimp only;omega) ?_
  rintro⟨n,z⟩ ⟨⟨n0,n1⟩,w,q,as,hz,u,hl⟩
  dsimp only at n0 n1 hz hl
  subst hz
  unfold Zx
  dsimp only
  refine c4 (λ hq=>?_) (λ hq=>cX ⟨w,q,as,rfl,u,λ i hi hu=>hl i hi hu ?_⟩)
  ·simp only [dx] at hq
   refine Ok.inner (A:=λ z=>∃ (w q:Ab) (as:List Ak),z.2=Hb b w g as/\Prg b p t q0 as0 w q as/\∀ i,i<b.Ac.length->Bf b p (i:Int)=true->(C7 b i:Int)<n+1->A2 b q (C7 b i)=true) (B:=λ (_:Unit)=>False) ?_ (λ z hz=>?_) (λ _ h=>h.elim)
   ·refine c8 (λ z=>(0<=z.1/\z.1<=(b.Ac.length:Int))/\∃ (w q:Ab) (as:List Ak),z.2=Hb b w g as/\Prg b p t q0 as0 w q as/\∀ i,i<b.Ac.length->Bf b p (i:Int)=true->((C7 b i:Int)<n\/((C7 b i:Int)=n/\(i:Int)<z.1))->A2 b q (C7 b i)=true) (λ z=>((b.Ac.length:Int)-z.1).toNat) _ _ ⟨⟨by dsimp only;omega,by dsimp only;omega⟩,w,q,as,rfl,u,λ i hi hu hh=>hl i hi hu (by dsimp only at hh;omega)⟩ (by dsimp only;omega) ?_
    rintro⟨i,z⟩ ⟨⟨i0,i1⟩,w,q,as,hz,u,hl⟩
    dsimp only at i0 i1 hz hl
    subst hz
    obtain⟨i,rfl⟩:∃ k:Nat,i=(k:Int):=⟨i.toNat,by omega⟩
    have hal:=u.clen
    unfold Zw Ano
    dsimp only
    refine c4 (λ hq2=>?_) (λ hq2=>cX ⟨w,q,as,rfl,u,λ j hj hu hb=>hl j hj hu ?_⟩)
    ·simp only [dx] at hq2
     have hi:i<b.Ac.length:=by omega
     obtain⟨eb,_,_,_,hgb⟩:=Dv h hi
     obtain⟨hb1,hb2⟩:=Iz h hi
     have hwl:w.Ac.length=b.Ac.length:=u.mid.hw.nso
     have hbl:w.Ai.length<=1000:=by have:=u.mid.hw.brk.len;omega
     have hue:=T1 h (p:=w) hwl hbl (i:=(i:Int)) (by omega) (by omega)
     rw [A7b u.mid hi] at hue
     have hpl:=Ky h u.mid.hw (g:=g) (as:=as) (n:=n) ⟨n0,hq⟩
     rw [u.mid.live h (by omega)] at hpl
     have e1:w64 ((i:Int)+1)=((i+1:Nat):Int):=by rw [A5 (by omega)];omega
     have nxt:∀ (w q:Ab) (as:List Ak),Prg b p t q0 as0 w q as->(∀ j,j<b.Ac.length->Bf b p (j:Int)=true->((C7 b j:Int)<n\/((C7 b j:Int)=n/\(j:Int)<(i:Int)))->A2 b q (C7 b j)=true)->((C7 b i:Int)=n->Bf b p (i:Int)=true->A2 b q (C7 b i)=true)->(0<=((i+1:Nat):Int)/\((i+1:Nat):Int)<=(b.Ac.length:Int))/\∃ (w' q:Ab) (as':List Ak),Hb b w g as=Hb b w' g as'/\Prg b p t q0 as0 w' q as'/\∀ j,j<b.Ac.length->Bf b p (j:Int)=true->((C7 b j:Int)<n\/((C7 b j:Int)=n/\(j:Int)<((i+1:Nat):Int)))->A2 b q (C7 b j)=true:=λ w q as u hl hi2=>⟨by omega,w,q,as,rfl,u,λ j hj hu hb=>by
      by_cases e:j=i
      ·subst e
       rcases hb with hb | hb
       ·exact hl j hj hu (.inl hb)
       ·exact hi2 hb.1 hu
      ·exact hl j hj hu (by omega)⟩
     refine Ok.bind (P:=λ v=>v=(brN b i:Int)) (c7 (x:=(brN b i:Int)) (by show F56 b (i:Int)=_;rw [I0 h,eb]) rfl) λ v hv=>?_
     subst hv
     refine Ok.bind (P:=λ v=>v=b.Ad.getD (brN b i) default) (c7 (A8 hgb) rfl) λ v hv=>?_
     subst hv
     rw [hb2,e1]
     cases hA:((C7 b i:Int)==n) with
     | false=>
      simp only [dA] at hA
      refine Ok.bind (P:=λ _=>True) (d6 (λ hh=>absurd hh.1 (by simp)) λ _=>trivial) λ _ _=>?_
      refine Ok.bind (P:=λ _=>True) (d6 (λ hh=>absurd hh.1 (by simp)) λ _=>trivial) λ _ _=>?_
      exact c5 ⟨nxt w q as u hl (λ e=>absurd e hA),by dsimp only;omega⟩
     | true=>
      simp only [dz] at hA
      refine Ok.bind (P:=λ v=>v=Bf b p (i:Int)) (c7 (x:=Bf b p (i:Int)) hue rfl) λ v hv=>?_
      subst hv
      cases hu:Bf b p (i:Int) with
      | false=>
       refine Ok.bind (P:=λ _=>True) (d6 (λ hh=>absurd hh.1 (by simp)) λ _=>trivial) λ _ _=>?_
       exact c5 ⟨nxt w q as u hl (λ _ e=>by rw [hu] at e;cases e),by dsimp only;omega⟩
      | true=>
       refine Ok.bind (P:=λ v=>v=A2 b q n.toNat) (c7 (x:=A2 b q n.toNat) hpl rfl) λ v hv=>?_
       subst hv
       have en:n.toNat=C7 b i:=by omega
       rw [en]
       cases hlv:A2 b q (C7 b i) with
       | true=>exact c5 ⟨nxt w q as u hl (λ _ _=>hlv),by dsimp only;omega⟩
       | false=>
        obtain⟨m1,m2,m3⟩:=A2j h u.mid hi hu hlv
        have hk:=(aa.1 hgb).1
        have ha:=uX u.mid.hw (g:=g) (as:=as) (by omega) 1 hk
        refine Ok.bind (P:=λ v=>v=_) (c7 ha rfl) λ v hv=>?_
        subst hv
        obtain⟨_,_,k2,_,_⟩:=Dv h hi
        have u2:=u.close h hgb (by omega) m2 m1
        exact c5 ⟨nxt (Gk w (brN b i)) _ _ u2 (λ j hj hju hb=>Mid.mono h u.mid.hq hgb m1.hq (Iz h hj).1 (hl j hj hju hb)) (λ _ _=>m3),by dsimp only;omega⟩
    ·simp only [dy] at hq2
     omega
   ·obtain⟨w,q,as,hz,u,hl⟩:=hz
    obtain⟨i,z⟩:=z
    dsimp only at hz
    subst hz
    have e1:w64 (n+1)=n+1:=A5 (by omega)
    dsimp only
    rw [e1]
    exact c5 ⟨⟨by dsimp only;omega,w,q,as,rfl,u,hl⟩,by dsimp only;omega⟩
  ·simp only [dy] at hq
   have:=(Iz h hi).1
   omega
 ·obtain⟨w,q,as,hz,u,hl⟩:=hz
  obtain⟨n,z⟩:=z
  dsimp only at hz
  subst hz
  exact Ok.pure ⟨w,q,as,rfl,u,hl⟩
def Pz (b:Aa) (p q:Ab) (g:List Bool) (k:Nat) (x:Ah):Prop:=x.Kind=1/\q.Ae.getD k false=false/\Bz b p.Ai (k:Int)=true/\lv g x.A.toNat/\A2 b q x.A.toNat≠A2 b q x.B.toNat
theorem A30 {b:Aa} (h:Ap b) {p w q:Ab} {t:Int} {as:List Ak} (u:Mid b p w q t as) {g:List Bool} (hg:g.length=b.Al.toNat):Ok (vR ⟨b,w,g,as⟩) λ y=>(y.2=true/\∃ k x,y.1=((k:Nat):Int)/\b.Ad[k]? = some x/\Pz b p q g k x)\/(y.2=false/\∀ k x,b.Ad[k]? = some x->¬Pz b p q g k x):=by
 have hbb:=h.brl
 have hbl:w.Ai.length<=1000:=by have:=u.hw.brk.len;omega
 unfold vR
 refine Ok.andThen (A:=λ _=>∀ k x,b.Ad[k]? = some x->¬Pz b p q g k x) (B:=λ (y:Int×Bool)=>y.2=true/\∃ k x,y.1=((k:Nat):Int)/\b.Ad[k]? = some x/\Pz b p q g k x) ?_ (λ _ hn=>Ok.pure (.inr ⟨rfl,hn⟩)) (λ y hy=>Ok.pure (.inl hy))
 refine c6 (I:=λ j _=>∀ k x,k<j->b.Ad[k]? = some x->¬Pz b p q g k x) (λ k x hk=>by omega) (λ j x s hx hI=>?_) λ _ hI k x hx=>hI k x (aa.1 hx).1 hx
 have hx:b.Ad[j]? = some x:=hx
 have hj:=(aa.1 hx).1
 obtain⟨hA,hB⟩:=Dn h hx
 have nxt:¬Pz b p q g j x->∀ k y,k<j+1->b.Ad[k]? = some y->¬Pz b p q g k y:=λ hn k y hk hy=>by
  by_cases e:k=j
  ·subst e;rw [hx] at hy;cases hy;exact hn
  ·exact hI k y (by omega) hy
 have hc:w.Ae.getD j false=q.Ae.getD j false:=by rw [u.cl]
 unfold Zv
 dsimp only
 rw [Co (by omega)]
 by_cases hk:x.Kind=1
 ·have hB:=hB hk
  have ek:(x.Kind==1)=true:=by rw [hk];rfl
  have g1:getI w.Ae (j:Int)=some (q.Ae.getD j false):=by rw [←hc];exact A8 (G9 u.hw hj)
  have g2:=Rk h (p:=w) hbl (i:=(j:Int)) (by omega) (by omega)
  rw [u.bw] at g2
  have g3:getI g x.A=some (g.getD x.A.toNat false):=by
   have e:g[x.A.toNat]? = some (g.getD x.A.toNat false):=by
    rw [af (by omega)];simp [List.getD,List.getElem?_eq_getElem (show x.A.toNat<g.length by omega)]
   have:=A8 e;rwa [az hA.1] at this
  have g4:=Ky h u.hw (g:=g) (as:=as) hA
  have g5:=Ky h u.hw (g:=g) (as:=as) (n:=x.B) (by omega)
  rw [u.live h (by omega)] at g4 g5
  rw [ek,g1,g2,g3,g4,g5]
  simp only [Hw,ab,aM]
  refine c4 (λ hq=>Ok.ret ⟨rfl,j,x,rfl,hx,?_⟩) (λ hq=>c5 (nxt ?_))
  ·simp only [Xf,ek,aM,cond_true] at hq
   revert hq
   cases h1:q.Ae.getD j false <;> cases h2:Bz b p.Ai (j:Int) <;> cases h3:g.getD x.A.toNat false <;> simp
   intro h4
   exact⟨hk,h1,h2,h3,h4⟩
  ·rintro⟨_,t1,t2,t3,t4⟩
   unfold lv at t3
   simp only [Xf,ek,aM,cond_true,t1,t2,t3,Bool.not_false,bA,cg,dz] at hq
   exact t4 hq
 ·have ek:(x.Kind==1)=false:=dA.2 hk
  rw [ek]
  refine Ok.bind (P:=λ _=>True) (d6 (λ hh=>absurd hh.1 (by simp)) λ _=>trivial) λ _ _=>?_
  refine Ok.bind (P:=λ _=>True) (d6 (λ hh=>absurd hh.1 (by simp)) λ _=>trivial) λ _ _=>?_
  refine Ok.bind (P:=λ _=>True) (d6 (λ hh=>absurd hh.1 (by simp)) λ _=>trivial) λ _ _=>?_
  refine Ok.bind (P:=λ _=>True) (d6 (λ hh=>absurd hh.1 (by simp)) λ _=>trivial) λ _ _=>?_
  refine Ok.bind (P:=λ _=>True) (d6 (λ hh=>absurd hh.1 (by simp)) λ _=>trivial) λ _ _=>?_
  refine c4 (λ hq=>?_) (λ _=>c5 (nxt λ ht=>hk ht.1))
  simp [Xf,ek] at hq
theorem A2g {b:Aa} (h:Ap b) {p w q:Ab} {t:Int} {as:List Ak} (u:Mid b p w q t as) {g:List Bool} {k:Nat} {x:Ah} (hx:b.Ad[k]? = some x) (ht:Pz b p q g k x):Mid b p (Gk w k) (A7 b q k) t (as++[⟨1,(k:Int),0⟩])/\D1 b q (k:Int)=true:=by
 obtain⟨t1,t2,t3,_,t5⟩:=ht
 obtain⟨hA,hB⟩:=Dn h hx
 have hB:=hB t1
 unfold Bz at t3
 rw [ah,Cc hx] at t3
 dsimp only at t3
 rw [t1] at t3
 simp only [ac,aJ,dF,aT] at t3
 have hs:D1 b q (k:Int)=true:=by
  unfold D1
  rw [ah,Cc hx,t2,u.bq,t3.1.1,t3.1.2,if_pos t1,t3.2]
  rfl
 cases hlA:A2 b q x.A.toNat with
 | true=>
  have hlB:A2 b q x.B.toNat=false:=by
   cases hl:A2 b q x.B.toNat with
   | false=>rfl
   | true=>rw [hlA,hl] at t5;exact absurd rfl t5
  obtain⟨c1,c2,_⟩:=Avq h u.hq u.all hx t1 (u:=x.A.toNat) (v:=x.B.toNat) (.inl ⟨rfl,rfl⟩) hlA hlB u.exc
  exact⟨u.close h hx hs (.inr (.inr ⟨t1,.inr hlB⟩)) (λ e=>by omega) c1 c2,hs⟩
 | false=>
  have hlB:A2 b q x.B.toNat=true:=by
   cases hl:A2 b q x.B.toNat with
   | true=>rfl
   | false=>rw [hlA,hl] at t5;exact absurd rfl t5
  obtain⟨c1,_,c3⟩:=Avq h u.hq u.all hx t1 (u:=x.B.toNat) (v:=x.A.toNat) (.inr ⟨rfl,rfl⟩) hlB hlA u.exc
  exact⟨u.close h hx hs (.inr (.inr ⟨t1,.inl hlA⟩)) (λ e=>by omega) c1 c3,hs⟩
def P4 (b:Aa) (p q:Ab) (c:Int) (k:Nat) (x:Ah):Prop:=b.Ad[k]? = some x/\(x.Kind=3/\x.B=c)/\Bz b p.Ai (k:Int)=true/\A2 b q x.A.toNat=true
def A19 (b:Aa) (p q:Ab) (c:Int) (k:Nat) (x:Ah):Prop:=P4 b p q c k x/\∀ j y,j<k->¬P4 b p q c j y
def Sat (b:Aa) (p q:Ab) (c:Int):Prop:=B1 b q 3 c≠none\/brk p.Ai 4 c=true\/∀ k x,A19 b p q c k x->Ci b q x.A.toNat<Bp b q x.A.toNat+q.Am.getD c.toNat 0
structure Srv (b:Aa) (p:Ab) (t:Int) (q0:Ab) (as0:List Ak) (j:Nat) (ks:List (Nat×Nat)) (w q:Ab) (as:List Ak):Prop where
 mid:Mid b p w q t as
 len:as.length+cl q0.Ae=as0.length+cl q.Ae
 acts:as=as0++ks.map λ z=>(⟨1,(z.1:Int),0⟩:Ak)
 at3:∀ z,z∈ks->∃ x,b.Ad[z.1]? = some x/\x.Kind=3/\(Cs b)[z.2]? = some x.B
 low:∀ z,z∈ks->(Cs b).length-j<=z.2
 desc:ks.Pairwise λ y z=>z.2<y.2
 live:∀ n,n<b.Al.toNat->A2 b q n=A2 b q0 n
 more:∀ k:Nat,q0.Ae.getD k false=true->q.Ae.getD k false=true
 sat:∀ (m:Nat) c,(Cs b)[m]? = some c->(Cs b).length-j<=m->Sat b p q c
theorem Vl {b:Aa} (h:Ap b) {q:Ab} (hq:Ao b q) {k:Nat} {x:Ah} (hx:b.Ad[k]? = some x) (hk:x.Kind=3) (hr:Ao b (A7 b q k)) {n:Nat} (hn:n<b.Al.toNat):A2 b (A7 b q k) n=A2 b q n/\Ci b (A7 b q k) n=Ci b q n/\Bp b q n<=Bp b (A7 b q k) n:=by
 have hsrc:∀ i,i<b.Ac.length->(Fm b q n i↔Fm b (A7 b q k) n i):=λ i hi=>by
  unfold Fm
  rw [Sv h hq hx hr (by omega) hi]
  simp only [Gg hq hx hr (show x.Kind≠1 by omega)]
 have e:=dp h hn hn hsrc
 refine⟨Dq.live h hn hn hsrc,by unfold Ci;rw [e],?_⟩
 by_cases hs:0<(isl b q (Bc b q n)).Ac.length
 ·have hs2:0<(isl b (A7 b q k) (Bc b (A7 b q k) n)).Ac.length:=by rw [←e];exact hs
  rw [Iu b q n hs,Iu b (A7 b q k) n hs2]
  refine jZ (M1 b q _) (λ m hm=>?_) (qT h hr)
  obtain⟨j,rfl,hj,e1⟩:=Ei.1 hm
  obtain⟨a,e2,c⟩:=(Mb h hn).1 e1
  refine Ei.2 ⟨j,rfl,hj,(Mb h hn).2 ⟨a,?_,(Gg hq hx hr (by omega)).2 c⟩⟩
  obtain⟨k',x',g1,g2,g3,g4,g5⟩:=(Ek hq hj).1 e2
  exact (Ek hr hj).2 ⟨k',x',g1,g2,g3,(Ch hq hx k').2 (.inr g4),g5⟩
 ·have hs2:¬0<(isl b (A7 b q k) (Bc b (A7 b q k) n)).Ac.length:=by rw [←e];exact hs
  unfold Bp
  rw [if_neg hs,if_neg hs2]
  exact bB _
theorem Sat.keep {b:Aa} (h:Ap b) {p q:Ab} (hq:Ao b q) {k:Nat} {x:Ah} (hx:b.Ad[k]? = some x) (hk:x.Kind=3) (hr:Ao b (A7 b q k)) {c:Int} (hc:0<=c/\c<b.Af.length) (u:Sat b p q c):Sat b p (A7 b q k) c:=by
 rcases u with e | e | e
 ·left
  obtain⟨m,rfl⟩:∃ m:Nat,c=(m:Int):=⟨c.toNat,by omega⟩
  cases hl:B1 b q 3 (m:Int) with
  | none=>exact absurd hl e
  | some a=>
   obtain⟨k',x',g1,g2,g3,g4,g5⟩:=(Ek hq (by omega)).1 hl
   have:=(Ek hr (by omega)).2 ⟨k',x',g1,g2,g3,(Ch hq hx k').2 (.inr g4),g5⟩
   rw [this];intro hh;cases hh
 ·exact .inr (.inl e)
 ·right;right
  intro k' x' hf
  have hcand:∀ j y,P4 b p (A7 b q k) c j y↔P4 b p q c j y:=λ j y=>by
   unfold P4
   refine and_congr_right λ hy=>and_congr_right λ _=>and_congr_right λ _=>?_
   have:=(Dn h hy).1
   rw [(Vl h hq hx hk hr (n:=y.A.toNat) (by omega)).1]
  have hf2:A19 b p q c k' x':=⟨(hcand _ _).1 hf.1,λ j y hj hy=>hf.2 j y hj ((hcand _ _).2 hy)⟩
  have:=e k' x' hf2
  have hb:=(Dn h hf2.1.1).1
  obtain⟨_,r2,r3⟩:=Vl h hq hx hk hr (n:=x'.A.toNat) (by omega)
  have hl:(A7 b q k).Am=q.Am:=rfl
  rw [r2,hl]
  omega
theorem Srv.refl {b:Aa} {p w q:Ab} {t:Int} {as:List Ak} (u:Mid b p w q t as):Srv b p t q as 0 [] w q as where
 mid:=u
 len:=rfl
 acts:=by simp
 at3 z hz:=by cases hz
 low z hz:=by cases hz
 desc:=List.Pairwise.nil
 live _ _:=rfl
 more _ h:=h
 sat m c hm hl:=by
  have:=(aa.1 hm).1
  omega
theorem Srv.skip {b:Aa} {p w q q0:Ab} {t:Int} {as as0:List Ak} {j:Nat} {ks:List (Nat×Nat)} (u:Srv b p t q0 as0 j ks w q as) (hj:j<(Cs b).length) (hs:∀ c,(Cs b)[(Cs b).length-1-j]? = some c->Sat b p q c):Srv b p t q0 as0 (j+1) ks w q as:=
 ⟨u.mid,u.len,u.acts,u.at3,λ z hz=>by have:=u.low z hz;omega,u.desc,u.live,u.more,λ m c hm hl=>by
  by_cases e:m=(Cs b).length-1-j
  ·rw [e] at hm;exact hs c hm
  ·exact u.sat m c hm (by omega)⟩
theorem Srv.close {b:Aa} (h:Ap b) {p w q q0:Ab} {t:Int} {as as0:List Ak} {j:Nat} {ks:List (Nat×Nat)} (u:Srv b p t q0 as0 j ks w q as) (hj:j<(Cs b).length) {c:Nat} (hc:c<b.Af.length) (ho:(Cs b)[(Cs b).length-1-j]? = some (c:Int)) (hled:B1 b q 3 (c:Int)=none) (h4:brk p.Ai 4 (c:Int)=false) {k:Nat} {x:Ah} (hx:P4 b p q (c:Int) k x) (hl:Bp b q x.A.toNat+q.Am.getD c 0<=Ci b q x.A.toNat) :
  Srv b p t q0 as0 (j+1) (ks++[(k,(Cs b).length-1-j)]) (Gk w k) (A7 b q k) (as++[⟨1,(k:Int),0⟩]):=by
 obtain⟨hx,⟨k3,hB⟩,hso,hlv⟩:=hx
 have hk:=(aa.1 hx).1
 have hn:=u.mid.hq.ncl
 have hb:=(Dn h hx).1
 have hcl:q.Ae.getD k false=false:=by
  cases hcl:q.Ae.getD k false with
  | false=>rfl
  | true=>
   have:=(Ek u.mid.hq hc).2 ⟨k,x,hx,k3,hB,hcl,rfl⟩
   rw [hled] at this;cases this
 unfold Bz at hso
 rw [ah,Cc hx] at hso
 simp only [ac,aJ] at hso
 have hs:D1 b q (k:Int)=true:=by
  unfold D1
  rw [ah,Cc hx,hcl,u.mid.bq,hso.1.1,hso.1.2,if_neg (by omega),if_neg (by omega),hB,h4,hled]
  rfl
 have he:=A6o h u.mid.hq hx k3 hB hc hled hl u.mid.exc
 have hr:=Kj u.mid.hq hx (λ _=>by rw [hB];exact hled)
 have hlv2:A2 b (A7 b q k) x.A.toNat=true:=Mid.mono h u.mid.hq hx hr (by omega) hlv
 have m:=u.mid.close h hx hs (.inl k3) (λ e=>by omega) he hlv2
 have e:cl (A7 b q k).Ae=cl q.Ae+1:=Aee _ _ (by omega) hcl
 refine⟨m,?_,?_,λ z hz=>?_,λ z hz=>?_,?_,λ n hn2=>?_,λ i hi=>(Ch u.mid.hq hx i).2 (.inr (u.more i hi)),λ m' c' hm hl2=>?_⟩
 ·have:=u.len
  rw [e,aL,List.length_singleton];omega
 ·rw [u.acts,bo,aY];rfl
 ·rcases aq.1 hz with hz | hz
  ·exact u.at3 z hz
  ·rw [aP.1 hz]
   exact⟨x,hx,k3,by rw [hB];exact ho⟩
 ·rcases aq.1 hz with hz | hz
  ·have:=u.low z hz;omega
  ·rw [aP.1 hz];dsimp only;omega
 ·rw [List.pairwise_append]
  refine⟨u.desc,List.pairwise_singleton _ _,λ y hy z hz=>?_⟩
  rw [aP.1 hz]
  have:=u.low y hy
  dsimp only
  omega
 ·rw [(Vl h u.mid.hq hx k3 hr hn2).1];exact u.live n hn2
 ·by_cases e2:m'=(Cs b).length-1-j
  ·rw [e2,ho] at hm
   cases hm
   left
   rw [(Ek hr hc).2 ⟨k,x,hx,k3,hB,(Ch u.mid.hq hx k).2 (.inl rfl),rfl⟩]
   intro hh;cases hh
  ·have hin:=qH h (ae hm)
   exact (u.sat m' c' hm (by omega)).keep h u.mid.hq hx k3 hr hin
theorem Aye {b : Aa} (h : Ap b) {p w0 q0 : Ab} {t : Int} {as0 : List Ak} (u0 : Mid b p w0 q0 t as0) (h0 : as0.length <= 1000) (g : List Bool) : Ok (vQ ⟨b, w0, g, as0⟩) λ y => ∃ (w q : Ab) (as : List Ak) (ks : List (Nat × Nat)), y = ⟨b, w, g, as⟩ /\ Srv b p t q0 as0 (Cs b).length ks w q as := by
 have hbb:=h.brl
 have hcol:=h.col
 unfold vQ
 have hord:=(K0 h).1
 refine Ok.bind (P:=λ v=>v=Cs b) (c7 (x:=Cs b) hord rfl) λ v hv=>?_
 subst hv
 have hbw:(bw (Cs b)).length=(Cs b).length:=by simp [bw,Gl]
 refine Ok.andThen (A:=λ z=>∃ (w q:Ab) (as:List Ak) (ks:List (Nat×Nat)),z=Hb b w g as/\Srv b p t q0 as0 (Cs b).length ks w q as) (B:=λ (_:Unit)=>False) ?_ (λ z hz=>?_) (λ _ h=>h.elim)
 ·refine Ok.foldE (I := λ j z => ∃ (w q : Ab) (as : List Ak) (ks : List (Nat × Nat)), z = Hb b w g as /\ Srv b p t q0 as0 j ks w q as) _ 0 _ ⟨w0, q0, as0, [], rfl, Srv.refl u0⟩ (λ j x z hx hI => ?_) λ z hI => ?_
  ·rw [aE] at hI
   rw [aE]
   obtain⟨w,q,as,ks,rfl,u⟩:=hI
   have hj:j<(Cs b).length:=by have:=(aa.1 hx).1;omega
   have hoj:(Cs b)[(Cs b).length-1-j]? = some x.2:=by
    unfold bw Gl at hx
    rw [aA,bW hj] at hx
    have hx:=bg hx
    rw [←hx]
    have hlt:(Cs b).length-1-j<(Cs b).length:=by omega
    dsimp only
    rw [af hlt];rfl
   have hin:=qH h (ae hoj)
   obtain⟨i,c⟩:=x
   dsimp only at hoj hin
   obtain⟨c,rfl⟩:∃ m:Nat,c=(m:Int):=⟨c.toNat,by omega⟩
   have hc:c<b.Af.length:=by omega
   have hbl:w.Ai.length<=1000:=by have:=u.mid.hw.brk.len;omega
   have hwn:=u.mid.hw.ncl
   have hled:B1 b w 3 (c:Int)=B1 b q 3 (c:Int):=by unfold B1;rw [u.mid.cl]
   have hal:as.length<=as0.length+b.Ad.length:=by
    have h1:=u.len
    have h2:=Aef q.Ae
    have h3:=u.mid.hq.ncl
    omega
   unfold Ti
   dsimp only
   have hfed:F86 b w (c:Int)=some (Dt (B1 b q 3 (c:Int))):=by
    unfold F86
    rw [B4 h u.mid.hw,qZ h hwn,hled];rfl
   refine Ok.bind (P:=λ v=>v=Dt (B1 b q 3 (c:Int))) (c7 (x:=Dt (B1 b q 3 (c:Int))) hfed rfl) λ v hv=>?_
   subst hv
   have hbrk:F76 w 4 (c:Int)=some (brk p.Ai 4 (c:Int)):=by rw [C9 hbl,u.mid.bw]
   have stay:Sat b p q (c:Int)->∃ (w' q:Ab) (as':List Ak) (ks:List (Nat×Nat)),Hb b w g as=Hb b w' g as'/\Srv b p t q0 as0 (j+1) ks w' q as':=λ hs=>⟨w,q,as,ks,rfl,u.skip hj λ c' hc'=>by rw [hoj] at hc';cases hc';exact hs⟩
   cases hl:B1 b q 3 (c:Int) with
   | some a=>
    refine Ok.bind (P:=λ _=>True) (d6 (λ hh=>absurd hh.1 (by simp [Dt])) λ _=>trivial) λ v _=>?_
    exact c5 (stay (.inl (by rw [hl];intro hh;cases hh)))
   | none =>
    refine Ok.bind (P:=λ v=>v=brk p.Ai 4 (c:Int)) (c7 (x:=brk p.Ai 4 (c:Int)) hbrk rfl) λ v hv=>?_
    subst hv
    cases h4:brk p.Ai 4 (c:Int) with
    | true=>exact c5 (stay (.inr (.inl h4)))
    | false =>
     refine Ok.inner (A:=λ z=>∃ (w q:Ab) (as:List Ak) (ks:List (Nat×Nat)),z=Hb b w g as/\Srv b p t q0 as0 (j+1) ks w q as) (B:=λ (_:Unit)=>False) ?_ (λ z hz=>?_) (λ _ h=>h.elim)
     ·refine c6 (I:=λ m z=>z=Hb b w g as/\∀ k x,k<m->¬P4 b p q (c:Int) k x) ⟨rfl,λ k x hk=>by omega⟩ (λ m y z hy hI=>?_) λ z hI=>?_
      ·obtain⟨rfl,hno⟩:=hI
       have hy:b.Ad[m]? = some y:=hy
       have hm:=(aa.1 hy).1
       obtain⟨hA,_⟩:=Dn h hy
       have nxt:¬P4 b p q (c:Int) m y->Hb b w g as=Hb b w g as/\∀ k x,k<m+1->¬P4 b p q (c:Int) k x:=λ hn=>⟨rfl,λ k x hk hx=>by
        by_cases e:k=m
        ·subst e
         have:=hx.1
         rw [hy] at this;cases this
         exact hn hx
        ·exact hno k x (by omega) hx⟩
       have g2:=Rk h (p:=w) hbl (i:=(m:Int)) (by omega) (by omega)
       rw [u.mid.bw] at g2
       have g4:=Ky h u.mid.hw (g:=g) (as:=as) hA
       rw [u.mid.live h (by omega)] at g4
       unfold Zu
       dsimp only
       rw [Co (by omega)]
       by_cases hk:y.Kind=3/\y.B=(c:Int)
       ·have e1:((y.Kind != 3) || (y.B != (c:Int)))=false:=by rw [hk.1,hk.2];simp
        rw [e1]
        refine Ok.bind (P:=λ v=>v=Bz b p.Ai (m:Int)) (c7 (x:=Bz b p.Ai (m:Int)) g2 rfl) λ v hv=>?_
        subst hv
        cases hso:Bz b p.Ai (m:Int) with
        | false=>
         refine Ok.bind (P:=λ _=>True) (d6 (λ hh=>absurd hh.1 (by simp)) λ _=>trivial) λ v _=>?_
         refine c4 (λ _=>c5 (nxt λ hh=>by have:=hh.2.2.1;rw [hso] at this;cases this)) (λ hq=>?_)
         simp [Qv] at hq
        | true=>
         refine Ok.bind (P:=λ v=>v=A2 b q y.A.toNat) (c7 (x:=A2 b q y.A.toNat) g4 rfl) λ v hv=>?_
         subst hv
         cases hlv:A2 b q y.A.toNat with
         | false=>
          refine c4 (λ _=>c5 (nxt λ hh=>by have:=hh.2.2.2;rw [hlv] at this;cases this)) (λ hq=>?_)
          simp [Qv] at hq
         | true=>
          have hcand:P4 b p q (c:Int) m y:=⟨hy,hk,hso,hlv⟩
          refine c4 (λ hq=>?_) (λ _=>?_)
          ·simp [Qv,hk.1,hk.2] at hq
          have eA:y.A=((y.A.toNat:Nat):Int):=by omega
          obtain⟨l1,l2,l3⟩:=zS h u.mid.hw (n:=y.A.toNat) (by omega)
          obtain⟨r1,r2,r3⟩:=O3 h u.mid.hw (n:=y.A.toNat) (by omega)
          rw [←eA] at l1 r1
          obtain⟨m1,m2⟩:=u.mid.load h (n:=y.A.toNat) (by omega)
          rw [m1] at l1 l2 l3
          rw [m2] at r1
          obtain⟨d1,d2,d3,d4⟩:=Sc h u.mid.hw (c:=(c:Int)) (by omega) (by omega)
          rw [ah] at d1 d2 d3 d4
          have eL:w.Am.getD c 0=q.Am.getD c 0:=by rw [u.mid.li]
          rw [eL] at d1 d2 d4
          refine Ok.bind (P:=λ v=>v=Bp b q y.A.toNat) (c7 (x:=Bp b q y.A.toNat) l1 rfl) λ v hv=>?_
          subst hv
          refine Ok.bind (P:=λ v=>v=q.Am.getD c 0) (c7 (x:=q.Am.getD c 0) d1 rfl) λ v hv=>?_
          subst hv
          refine Ok.bind (P:=λ v=>v=Ci b q y.A.toNat) (c7 (x:=Ci b q y.A.toNat) r1 rfl) λ v hv=>?_
          subst hv
          rw [A5 (by omega)]
          refine c4 (λ hle=>?_) (λ hle=>cX ?_)
          ·simp only [dx] at hle
           have ha:=uX u.mid.hw (g:=g) (as:=as) (by omega) 1 hm
           refine Ok.bind (P:=λ v=>v=_) (c7 ha rfl) λ v hv=>cX ?_
           subst hv
           exact⟨Gk w m,_,_,_,rfl,u.close h hj hc hoj hl h4 hcand hle⟩
          ·simp only [dy] at hle
           refine stay (.inr (.inr λ k x hf=>?_))
           have hkm:k=m:=by
            rcases bI k m with e | e | e
            ·exact absurd hf.1 (hno k x e)
            ·exact e
            ·exact absurd hcand (hf.2 m y e)
           subst hkm
           have:=hf.1.1
           rw [hy] at this;cases this
           rw [ah]
           omega
       ·have e1:((y.Kind != 3) || (y.B != (c:Int)))=true:=by
         rw [aB,dG,dG]
         by_cases e:y.Kind=3
         ·exact .inr λ e2=>hk ⟨e,e2⟩
         ·exact .inl e
        rw [e1]
        refine Ok.bind (P:=λ _=>True) (d6 (λ hh=>absurd hh.1 (by simp)) λ _=>trivial) λ v _=>?_
        refine Ok.bind (P:=λ _=>True) (d6 (λ hh=>absurd hh.1 (by simp)) λ _=>trivial) λ v _=>?_
        refine c4 (λ _=>c5 (nxt λ hh=>hk hh.2.1)) (λ hq=>?_)
        simp only [Qv] at hq
        rw [e1] at hq
        simp at hq
      ·obtain⟨rfl,hno⟩:=hI
       exact stay (.inr (.inr λ k x hf=>absurd hf.1 (hno k x (aa.1 hf.1.1).1)))
     ·obtain⟨w',q',as',ks',rfl,u'⟩:=hz
      exact c5 ⟨w',q',as',ks',rfl,u'⟩
  ·rw [aE,hbw] at hI;exact hI
 ·obtain⟨w,q,as,ks,rfl,u⟩:=hz
  exact Ok.pure ⟨w,q,as,ks,rfl,u⟩
theorem Aff {b:Aa} (h:Ap b) {p:Ab} (hp:Ao b p):Ok (F33 b p) λ v=>v=false↔∀ (k:Nat) x,b.Ad[k]? = some x->x.Kind=1->p.Ae.getD k false=true->brk p.Ai 2 (k:Int)=true->A2 b p x.A.toNat=true:=by
 have hbb:=h.brl
 have hbl:p.Ai.length<=1000:=by have:=hp.brk.len;omega
 unfold F33
 refine Ok.andThen (A:=λ _=>∀ (k:Nat) x,b.Ad[k]? = some x->x.Kind=1->p.Ae.getD k false=true->brk p.Ai 2 (k:Int)=true->A2 b p x.A.toNat=true) (B:=λ (v:Bool)=>v=true/\¬ ∀ (k:Nat) x,b.Ad[k]? = some x->x.Kind=1->p.Ae.getD k false=true->brk p.Ai 2 (k:Int)=true->A2 b p x.A.toNat=true) ?_ (λ _ hs=>Ok.pure ⟨λ _=>hs,λ _=>rfl⟩) (λ v hv=>Ok.pure ⟨λ e=>absurd (hv.1.symm.trans e) (by simp),λ e=>absurd e hv.2⟩)
 refine c6 (I:=λ j _=>∀ (k:Nat) x,k<j->b.Ad[k]? = some x->x.Kind=1->p.Ae.getD k false=true->brk p.Ai 2 (k:Int)=true->A2 b p x.A.toNat=true) (λ k x hk=>by omega) (λ j x s hx hI=>?_) λ _ hI k x hx=>hI k x (aa.1 hx).1 hx
 have hj:=(aa.1 hx).1
 have hA:=(Dn h hx).1
 have nxt:(x.Kind=1->p.Ae.getD j false=true->brk p.Ai 2 (j:Int)=true->A2 b p x.A.toNat=true)->∀ (k:Nat) y,k<j+1->b.Ad[k]? = some y->y.Kind=1->p.Ae.getD k false=true->brk p.Ai 2 (k:Int)=true->A2 b p y.A.toNat=true:=λ hn k y hk hy=>by
  by_cases e:k=j
  ·subst e;rw [hx] at hy;cases hy;exact hn
  ·exact hI k y (by omega) hy
 have eA:x.A=((x.A.toNat:Nat):Int):=by omega
 have g5:=W6 h hp (n:=x.A.toNat) (by omega)
 rw [←eA] at g5
 unfold Ak4
 rw [Co (by omega),A8 (G9 hp hj),C9 hbl,g5]
 simp only [Hw,ab]
 refine c4 (λ hq=>Ok.ret ⟨rfl,λ hall=>?_⟩) (λ hq=>c5 (nxt λ h1 h2 h3=>?_))
 ·have:=hall j x hx
  revert hq this
  simp only [Ap4]
  cases hk:(x.Kind==1) <;> cases p.Ae.getD j false <;> cases brk p.Ai 2 (j:Int) <;> cases A2 b p x.A.toNat <;> simp
  simpa using hk
 ·have ek:(x.Kind==1)=true:=by rw [h1];rfl
  simp only [Ap4,ek,h2,h3,aM,cond_true,cg] at hq
  exact hq
theorem Acu (l:List Bool) (v:Bool) (h:l.length<=1000):Ok (F34 l v) λ _=>True:=by
 unfold F34 F77
 refine Ok.bind (P:=λ _=>True) ?_ λ _ _=>Ok.pure trivial
 refine Ok.andThen (A:=λ _=>True) (B:=λ (_:Int)=>True) ?_ (λ _ _=>Ok.pure trivial) (λ _ _=>Ok.pure trivial)
 refine c6 (I:=λ _ _=>True) trivial (λ j x s hx _=>?_) λ _ _=>trivial
 unfold Akq
 exact c4 (λ _=>Ok.ret trivial) (λ _=>c5 trivial)
theorem X4 {b:Aa} (h:Ap b) {p:Ab} (hp:Ao b p):Ok (F24 b p) λ v=>(∀ n,lv (Eg b (Bf b p) (Bz b p.Ai)) n->A2 b p n=true)->v=true:=by
 have hbu:=h.buses
 have hgl:=Ij b (Bf b p) (Bz b p.Ai)
 unfold F24
 rw [W_ h hp,B4 h hp]
 simp only [ab]
 refine Ok.andThen (A:=λ _=>True) (B:=λ (v:Bool)=>¬ ∀ n,lv (Eg b (Bf b p) (Bz b p.Ai)) n->A2 b p n=true) ?_ (λ _ _=>Ok.pure λ _=>rfl) (λ v hv=>Ok.pure λ hh=>absurd hh hv)
 refine c6 (I:=λ _ _=>True) trivial (λ j x s hx _=>?_) λ _ _=>trivial
 have hj:=(aa.1 hx).1
 have ex:(Eg b (Bf b p) (Bz b p.Ai)).getD j false=x:=by rw [a9,hx];rfl
 unfold Ak7
 rw [Co (by omega),W6 h hp (n:=j) (by omega)]
 simp only [Hw,ab]
 refine c4 (λ hq=>Ok.ret λ hall=>?_) (λ _=>c5 trivial)
 have:=hall j
 unfold lv at this
 rw [ex] at this
 cases x with
 | false=>simp at hq
 | true=>rw [this rfl] at hq;simp at hq
structure A3w (b:Aa) (p:Ab) (l:List Ak) (w q:Ab) (t:Int) (q1:Ab) (as1:List Ak) (ks:List (Nat×Nat)):Prop where
 stable:Md b p
 srv:Srv b p t q1 as1 (Cs b).length ks w q l
 goal:∀ n,lv (Eg b (Bf b p) (Bz b p.Ai)) n->A2 b q n=true
 keep:∀ (k:Nat) x,b.Ad[k]? = some x->p.Ae.getD k false=true->A2 b p x.A.toNat=true->q.Ae.getD k false=true
 nc:∀ a,a∈as1->a.Kind=1->∀ x,b.Ad[a.Unit.toNat]? = some x->x.Kind≠3
 len:∀ M,0<=M->(∀ x,x∈b.Ac->x.Start<=M)->(l.length:Int)<=2*b.Ad.length+b.Ac.length+M+1
theorem Aux {b:Aa} (h:Ap b) {p w q:Ab} {t:Int} {as:List Ak} (u:Mid b p w q t as) (hs:∀ i,i<b.Ac.length->Bf b p (i:Int)=true->A2 b q (C7 b i)=true) (ht:∀ k x,b.Ad[k]? = some x->¬Pz b p q (Eg b (Bf b p) (Bz b p.Ai)) k x) {n:Nat} (hn:lv (Eg b (Bf b p) (Bz b p.Ai)) n):A2 b q n=true:=by
 obtain⟨j,hj,r,hc⟩:=(Sm h).1 hn
 have hjl:lv (Eg b (Bf b p) (Bz b p.Ai)) j:=(Sm h).2 ⟨j,hj,Bm.refl _ _⟩
 have hlt:=Mx hj
 rw [Ja] at hlt
 obtain⟨i,hi,hu,hA⟩:=(Ay4 hlt).1 hj
 have hj0:A2 b q j=true:=by
  have:=hs i hi hu
  have e:C7 b i=j:=hA
  rwa [e] at this
 have key:∀ (r m:Nat),De (Lf b (Bz b p.Ai)) j r m->lv (Eg b (Bf b p) (Bz b p.Ai)) m/\A2 b q m=true:=by
  intro r m hc
  induction hc with
  | refl=>exact⟨hjl,hj0⟩
  | stay _ ih=>exact ih
  | step _ tie ih=>
   rename_i m m'
   have hlt2:=Ys h _ _ _ tie
   have hgm':=Azo h tie ih.1
   refine⟨hgm',?_⟩
   obtain⟨k,x,hx,hk,hso,he⟩:=O0.1 tie
   have hgA:lv (Eg b (Bf b p) (Bz b p.Ai)) x.A.toNat:=by
    rcases he with⟨e,_⟩ | ⟨e,_⟩
    ·rw [e];exact ih.1
    ·rw [e];exact hgm'
   have hab:A2 b q x.A.toNat=A2 b q x.B.toNat:=by
    cases hcl:q.Ae.getD k false with
    | true=>exact L4 h (by omega) (by omega) ((Bm.refl _ _).tie ((D0 u.hq.ncl).2 ⟨k,x,hx,hk,hcl,.inl ⟨rfl,rfl⟩⟩))
    | false=>exact Decidable.byContradiction λ hne=>ht k x hx ⟨hk,hcl,hso,hgA,hne⟩
   rcases he with⟨e1,e2⟩ | ⟨e1,e2⟩
   ·rw [←e2,←hab,e1];exact ih.2
   ·rw [←e1,hab,e2];exact ih.2
 exact (key r n hc).2
theorem Auc {b:Aa} (h:Ap b) {p:Ab} (s:Md b p) (u:Sep b p (Cw b p b.Ad.length)) (hst:∀ (k:Nat) x,b.Ad[k]? = some x->x.Kind=1->p.Ae.getD k false=true->brk p.Ai 2 (k:Int)=true->A2 b p x.A.toNat=true):Im b p (Ba p (Bk p.Ae (Cw b p b.Ad.length))) (Dx (Cw b p b.Ad.length)):=
 ⟨s,u.st,rfl,rfl,rfl,λ k hk=>((R5 (λ i hi=>by obtain⟨k,rfl,_⟩:=Ks.1 hi;omega) k).1 hk).1,u.live,A2o h s hst u,u.agr,u.exc,u.goes,λ a ha=>by
  unfold Dx at ha
  obtain⟨i,_,rfl⟩:=an.1 ha
  dsimp only;omega⟩
theorem A2w {b:Aa} (h:Ap b) {p:Ab} (hp:Ao b p) (hsi:∀ x,x∈p.Ac->x.Since<=20):Ok (F8 b p) λ y=>(y.2=9\/y.2=11)\/(y.2=0/\∃ w q t q1 as1 ks,A3w b p y.1 w q t q1 as1 ks):=by
 have hbb:=h.brl
 have hso:=h.sol
 have hbu:=h.buses
 have hgl:=Ij b (Bf b p) (Bz b p.Ai)
 unfold F8
 obtain⟨p1,p2,_⟩:=Mu h hp
 refine Ok.bind (P:=λ v=>v=(F2 b p,yY b p,(0:Int))) (c7 (x:=(F2 b p,yY b p,(0:Int))) p1 rfl) λ v hv=>?_
 subst hv
 refine c4 (λ hc=>by simp at hc) (λ _=>?_)
 obtain⟨s1,s2⟩:=A2p (hp.lens h) (F2 b p)
 refine Ok.bind (P:=λ v=>v=Rt p (F2 b p)) (c7 (x:=Rt p (F2 b p)) s1 rfl) λ v hv=>?_
 subst hv
 cases hsm:Rt p (F2 b p) with
 | false=>
  refine Ok.bind (P:=λ _=>True) (d6 (λ hh=>absurd hh.1 (by simp)) λ _=>trivial) λ v _=>?_
  exact Ok.pure (.inl (.inr rfl))
 | true=>
  have s:=Ar1 h hp (s2 hsm)
  refine Ok.bind (P:=λ v=>v=false↔∀ (k:Nat) x,b.Ad[k]? = some x->x.Kind=1->p.Ae.getD k false=true->brk p.Ai 2 (k:Int)=true->A2 b p x.A.toNat=true) (cU (λ _=>Aff h hp) λ hn=>absurd ⟨rfl,trivial⟩ hn) λ v hv=>?_
  refine c4 (λ _=>Ok.pure (.inl (.inr rfl))) (λ hstk=>?_)
  have hst:=hv.1 (by simpa using hstk)
  rw [W_ h hp]
  simp only [ab]
  refine (Acu _ true (by omega)).bind λ y11 _=>?_
  refine Ok.bind (P:=λ _=>True) (d6 (λ _=>(X4 h hp).mono λ _ _=>trivial) λ _=>trivial) λ y13 _=>?_
  refine c4 (λ _=>Ok.pure (.inl (.inl rfl))) (λ _=>?_)
  rw [C3 h hp]
  simp only [ab]
  generalize hG:Eg b (Bf b p) (Bz b p.Ai)=G at hgl ⊢
  obtain⟨e1,u1⟩:=Alw h s G
  have hsl:(Cw b p b.Ad.length).length<=b.Ad.length:=C1 _ _
  have hpl:(Dx (Cw b p b.Ad.length)).length<=b.Ad.length:=by unfold Dx;rw [ax];exact hsl
  have o:=Auc h s u1 hst
  refine Ok.bind (P:=λ v=>v=_) (c7 e1 rfl) λ v hv=>?_
  subst hv
  refine (At6 h o (by omega) G).bind λ v hv=>?_
  obtain⟨wt,S,Q,as,rfl,hbeg⟩:=hv
  have hw0:=hbeg.wt0
  have hz:=Wtd.zero h o hsi hbeg
  obtain⟨R,hR⟩:=Wtd.all h o hw0.2 hz wt.toNat (by omega)
  have m0:=Aue h o hbeg hR
  have hal:=hbeg.len
  have hl0:(as++List.replicate wt.toNat aW).length=as.length+wt.toNat:=by rw [aL,cR]
  refine (Apt h m0 (by omega) G).bind λ v hv=>?_
  obtain⟨w2,q2,as2,rfl,g2,l2⟩:=hv
  have hc2:=g2.clen
  dsimp only
  generalize hq0:(⟨(Ba p (Bk p.Ae (Cw b p b.Ad.length))).Ae,R,(Ba p (Bk p.Ae (Cw b p b.Ad.length))).Am,(Ba p (Bk p.Ae (Cw b p b.Ad.length))).Ai⟩:Ab)=q0 at m0 g2
  generalize has0:as++List.replicate wt.toNat aW=as0 at m0 g2 hl0 hc2
  refine Ok.andThen (A:=λ z=>∃ (w q:Ab) (l:List Ak),z=Hb b w G l/\Prg b p (20+wt) q0 as0 w q l/\(∀ i,i<b.Ac.length->Bf b p (i:Int)=true->A2 b q (C7 b i)=true)/\∀ k x,b.Ad[k]? = some x->¬Pz b p q G k x) (B:=λ (_:Unit)=>False) ?_ (λ z hz=>?_) (λ _ h=>h.elim)
  ·refine c8 (λ z=>∃ (w q:Ab) (l:List Ak),z=Hb b w G l/\Prg b p (20+wt) q0 as0 w q l/\(∀ i,i<b.Ac.length->Bf b p (i:Int)=true->A2 b q (C7 b i)=true)) (λ z=>b.Ad.length-cl z.2.2.2.2.2.2.1) _ _ ⟨w2,q2,as2,rfl,g2,l2⟩ (by omega) ?_
   rintro z ⟨w,q,l,rfl,u,hl⟩
   have hul:=u.clen
   unfold Arg
   dsimp only
   refine Ok.bind (A30 h u.mid hgl) λ y hy=>?_
   rcases hy with⟨hy,k,x,ek,hx,ht⟩ | ⟨hy,hno⟩
   ·rw [hy]
    refine c4 (λ hc=>by simp at hc) (λ _=>?_)
    rw [ek]
    have hk:=(aa.1 hx).1
    obtain⟨m1,m2⟩:=A2g h u.mid hx ht
    have ha:=uX u.mid.hw (g:=G) (as:=l) (by omega) 1 hk
    refine Ok.bind (P:=λ v=>v=_) (c7 ha rfl) λ v hv=>c5 ?_
    subst hv
    have u2:=u.close h hx (by rw [ht.1];decide) m2 m1
    have hcl:=ht.2.1
    have e1:cl (Gk w k).Ae=cl w.Ae+1:=Aee _ _ (by have:=u.mid.hw.ncl;omega) (by rw [←u.mid.cl];exact hcl)
    have e2:=Aef (Gk w k).Ae
    have e3:(Gk w k).Ae.length=b.Ad.length:=u2.mid.hw.ncl
    refine⟨⟨Gk w k,_,_,rfl,u2,λ i hi hu=>Mid.mono h u.mid.hq hx m1.hq (Iz h hi).1 (hl i hi hu)⟩,?_⟩
    show b.Ad.length-cl (Gk w k).Ae<b.Ad.length-cl w.Ae
    omega
   ·rw [hy]
    exact c4 (λ _=>cX ⟨w,q,l,rfl,u,hl,hno⟩) (λ hc=>by simp at hc)
  ·obtain⟨w,q,l,rfl,u,hl,hno⟩:=hz
   have hul:=u.clen
   refine (Aye h u.mid (by omega) G).bind λ v hv=>Ok.pure (.inr ⟨rfl,?_⟩)
   obtain⟨w',q',l',ks,rfl,sv⟩:=hv
   refine⟨w',q',20+wt,q,l,ks,s,sv,λ n hn=>?_,λ k x hx hc hlv=>?_,λ a ha hk=>?_,λ M hM hx=>?_⟩
   ·have hn2:=Mx hn
    rw [Ij] at hn2
    rw [sv.live n hn2]
    rw [←hG] at hno
    exact Aux h u.mid hl hno hn
   ·refine sv.more k (u.more k ?_)
    rw [←hq0]
    refine (R5 (λ i hi=>by obtain⟨k,rfl,_⟩:=Ks.1 hi;omega) k).2 ⟨hc,λ hm=>?_⟩
    obtain⟨k',e,_,_,hs⟩:=Ks.1 hm
    have e:k=k':=by omega
    subst e
    unfold Rs at hs
    rw [Cc hx,hlv] at hs
    simp at hs
   ·rcases u.nc a ha with ha | ⟨_,ha⟩
    ·exfalso
     rw [←has0] at ha
     rcases aq.1 ha with ha | ha
     ·exact hbeg.k3 a ha hk
     ·rw [(List.mem_replicate.1 ha).2] at hk
      cases hk
    ·exact ha
   ·have h1:=sv.len
    have h2:=u.len
    have h3:=Aef q'.Ae
    have h4:=sv.mid.hq.ncl
    have h5:=hbeg.wtM M hM hx
    dsimp only
    omega
theorem Auh {b:Aa} {q:Ab} {n:Nat} (he:Bn b q n=0) (as:List Ak):∀ l:List Int,G1 b q n l (q.Am,as)=(q.Am,as)
 | []=>rfl
 | c::l=>by
  have e:Ic b q n (q.Am,as) c=(q.Am,as):=by
   unfold Ic
   rw [if_neg]
   have:Dj b (Bj q q.Am) n c<=Bn b q n:=Int.min_le_left _ _
   dsimp only
   omega
  show G1 b q n l (Ic b q n (q.Am,as) c)=_
  rw [e];exact Auh he as l
theorem Amj {b:Aa} {q:Ab} {n:Nat} (he:Bn b q n=0) (as:List Ak):∀ l:List Int,Ed b q n l (q.Ae,as)=(q.Ae,as)
 | []=>rfl
 | c::l=>by
  have e:Fi b q n (q.Ae,as) c=(q.Ae,as):=by
   unfold Fi
   rw [if_neg]
   intro hh
   have h2:0<Bn b q n:=hh.2
   omega
  show Ed b q n l (Fi b q n (q.Ae,as) c)=_
  rw [e];exact Amj he as l
theorem A2t {b:Aa} {q:Ab} {x:Aj} (he:Bn b q (Ea x)=0) (as:List Ak):Gy b (q,as) x=(q,as):=by
 have e1:H9 b x (q,as)=(q.Am,as):=Auh he as _
 have e2:Kw b x (q,as)=(q.Ae,as):=by
  unfold Kw
  rw [e1]
  exact Amj (q:=Bj q q.Am) he as _
 unfold Gy
 split
 ·rw [e1,e2];rfl
 ·rfl
theorem A34 {b:Aa} (h:Ap b) {q:Ab} (hq:Ao b q) (hs:∀ (k:Nat) x,b.Ad[k]? = some x->q.Ae.getD k false=true->Bx q x=false) (ha:Hz b q) (hag:Di b q) (he:∀ n,n<b.Al.toNat->Bn b q n=0):F2 b q=q:=by
 have h1:(B3 b q).Ae=q.Ae:=by
  refine Sp (by rw [(K_ hq).ncl,hq.ncl]) λ k=>⟨λ hk=>Q0 b _ _ hq.ncl k hk,λ hk=>?_⟩
  have hkl:k<b.Ad.length:=by
   have:=Mx (s:=q.Ae) hk
   have:=hq.ncl
   omega
  have hx:b.Ad[k]? = some (b.Ad.getD k default):=by
   rw [af hkl];simp [List.getD,List.getElem?_eq_getElem hkl]
  show (acC b q.Ae (Bx q)).getD k false=true
  rw [I1 b _ _ hkl,hk,hs k _ hx hk];rfl
 have hclr:B3 b q=q:=by
  show (⟨(B3 b q).Ae,q.Ac,q.Am,q.Ai⟩:Ab)=q
  rw [h1]
 have h2:(I9 b q).Ae=q.Ae:=by
  refine Sp (by rw [(Nh hq).ncl,hq.ncl]) λ k=>⟨λ hk=>?_,λ hk=>?_⟩
  ·have:=Q0 b _ _ (K_ hq).ncl k hk
   rwa [h1] at this
  have hkl:k<b.Ad.length:=by
   have:=Mx (s:=q.Ae) hk
   have:=hq.ncl
   omega
  have hx:b.Ad[k]? = some (b.Ad.getD k default):=by
   rw [af hkl];simp [List.getD,List.getElem?_eq_getElem hkl]
  show (acC b (B3 b q).Ae (Ck b (B3 b q))).getD k false=true
  rw [I1 b _ _ hkl,hclr,hk]
  unfold Ck
  rw [ha k _ hx hk];simp
 have hclr2:I9 b q=q:=by
  show (⟨(I9 b q).Ae,q.Ac,q.Am,q.Ai⟩:Ab)=q
  rw [h2]
 have hclrP:Gs b q=q:=by
  show (⟨(I9 b q).Ae,Cr b (I9 b q),q.Am,q.Ai⟩:Ab)=q
  rw [hclr2,Ah9 hq.nso hag]
 have key:∀ (l:List Aj) (as:List Ak),(∀ x,x∈l->Bn b q (Ea x)=0)->(F1 b l (q,as)).1=q:=by
  intro l
  induction l with
  | nil=>intro as _;rfl
  | cons x l ih=>
   intro as hl
   show (F1 b l (Gy b (q,as) x)).1=q
   rw [A2t (hl x ag)]
   exact ih as λ y hy=>hl y (ai _ hy)
 unfold F2 Ayl
 rw [hclrP]
 exact key _ _ λ x hx=>he _ (Ob (Ql h hx)).2
theorem Ahe {b:Aa} (h:Ap b) {p w q:Ab} {t:Int} {as:List Ak} (u:Mid b p w q t as):∀ (k:Nat) x,b.Ad[k]? = some x->q.Ae.getD k false=true->Bx q x=false:=λ k x hx hc=>by
 obtain⟨d1,d2,d3,d4⟩:=u.safe k x hx hc
 obtain⟨hk,k2,_⟩:=kinds h hx
 unfold Bx
 rw [u.bq,d1,aT]
 by_cases e1:x.Kind=1
 ·rw [if_pos e1];exact d2 e1
 ·by_cases e2:x.Kind=2
  ·obtain⟨b0,b1⟩:=k2 e2
   obtain⟨i,ei⟩:∃ i:Nat,x.B=(i:Int):=⟨x.B.toNat,by omega⟩
   have hi:i<b.Ac.length:=by omega
   have ek:=Sx h hi hx e2 ei
   have:=(u.run i hi (by rw [←ek];exact hc)).2
   rw [if_neg e1,if_pos e2,d3 e2,ei,ah,this];rfl
  ·rw [if_neg e1,if_neg e2];exact d4 (by omega)
theorem Auv {b:Aa} (h:Ap b) {p w q:Ab} {t:Int} {as:List Ak} (u:Mid b p w q t as) {n:Nat} (hn:lv (Eg b (Bf b q) (Bz b q.Ai)) n):lv (Eg b (Bf b p) (Bz b p.Ai)) n:=by
 rw [u.bq] at hn
 exact (Auw (λ i hi hu=>by rw [Po (q:=q) (p:=p) u.bq (u.uq i hi)] at hu;exact hu) (λ _ _ _ _ hs=>hs)).getD n hn
theorem At8 {b:Aa} (h:Ap b) {p w q:Ab} {t:Int} {as:List Ak} (u:Mid b p w q t as) (hg:∀ n,lv (Eg b (Bf b p) (Bz b p.Ai)) n->A2 b q n=true):F8 b q=some ([],9)/\F24 b q=some true:=by
 have hq:=u.hq
 have hbu:=h.buses
 have hgl:=Ij b (Bf b q) (Bz b q.Ai)
 have hpro:=A34 h hq (Ahe h u) u.all u.agr u.exc
 have hres:F24 b q=some true:=by
  obtain⟨v,e,hv⟩:=X4 h hq
  rw [hv λ n hn=>hg n (Auv h u hn)] at e
  exact e
 refine⟨d5 ?_,hres⟩
 unfold F8
 obtain⟨p1,_,_⟩:=Mu h hq
 rw [hpro] at p1
 refine Ok.bind (P:=λ v=>v=(q,yY b q,(0:Int))) (c7 (x:=(q,yY b q,(0:Int))) p1 rfl) λ v hv=>?_
 subst hv
 refine c4 (λ hc=>by simp at hc) (λ _=>?_)
 refine Ok.bind (P:=λ v=>v=true) (c7 (Asc (hq.lens h)) rfl) λ v hv=>?_
 subst hv
 obtain⟨v,e,hv⟩:=Aff h hq
 rw [hv.2 λ k x hx _ hc _=>u.all k x hx hc] at e
 refine Ok.bind (P:=λ v=>v=false) (c7 (x:=false) (by rw [Qo];exact e) rfl) λ v hv=>?_
 subst hv
 refine c4 (λ hc=>by simp at hc) (λ _=>?_)
 rw [W_ h hq]
 simp only [ab]
 refine (Acu _ true (by omega)).bind λ y11 _=>?_
 cases y11 with
 | false=>
  refine Ok.bind (P:=λ _=>True) (d6 (λ hh=>absurd hh.1 (by simp)) λ _=>trivial) λ _ _=>?_
  exact Ok.pure rfl
 | true=>
  refine Ok.bind (P:=λ v=>v=true) (c7 (x:=true) (by rw [Qo];exact hres) rfl) λ v hv=>?_
  subst hv
  exact Ok.pure rfl
theorem qA (B0:Ag):∀ (idx:List Int) (ss:List Ag) (n:Nat),((Et B0 idx ss).getD n default).Since=(ss.getD n default).Since
 | [],_,_=>rfl
 | i::idx,ss,n=>by
  show ((Et B0 idx _).getD n default).Since=_
  rw [qA B0 idx,Jl]
  split
  ·rename_i e;rw [←e.1];rfl
  ·rfl
theorem Ad4 (b:Aa) (p:Ab) (n:Nat):((Cr b p).getD n default).Since=(p.Ac.getD n default).Since:=by
 have key:∀ (l:List Aj) (s:List Ag),((l.foldl (Cz p) s).getD n default).Since=(s.getD n default).Since:=by
  intro l
  induction l with
  | nil=>intro s;rfl
  | cons x l ih=>
   intro s
   rw [aU,ih]
   unfold Cz
   split
   ·rfl
   ·exact qA _ _ _ _
 exact key _ _
theorem Ax6 {s:Au} (hs:B6 s):Ok (F7 s) λ y=>A69 y.1/\Ao y.1 y.2.1/\∀ x,x∈y.2.1.Ac->x.Since<=20:=by
 unfold F7
 refine (A0x hs).bind λ b hb=>(Axz hb.1.ok hb.2).bind λ p hp=>?_
 have h:=hb.1.ok
 have hpn:=hp.1.1.1.nso
 refine (Ahd h hp.1.1.1).bind λ q hq=>Ok.pure ⟨hb.1,hq.1,λ x hx=>?_⟩
 dsimp only at hx
 rw [hq.2.1] at hx
 obtain⟨i,hi,rfl⟩:=cd hx
 have e:(Gs b.1 p.1).Ac[i]=(Cr b.1 (I9 b.1 p.1)).getD i default:=by
  have hi2:i<(Cr b.1 (I9 b.1 p.1)).length:=hi
  rw [a9,af hi2];rfl
 rw [e,Ad4]
 have hl:(Gs b.1 p.1).Ac.length=p.1.Ac.length:=Ft b.1 (I9 b.1 p.1)
 have:(I9 b.1 p.1).Ac.getD i default∈p.1.Ac:=by
  show p.1.Ac.getD i default∈_
  rw [a9,af (by omega)]
  exact cJ _
 have:=hp.2 _ this
 omega
theorem A2q {b:Aa} (h:Ap b) {q s:Ab} (hq:Ao b q) {t:Int} (ht:0<=t/\t<=1000000) {a:Ak} (he:Fy b q t a=(s,0)):F10 b q t [a]=some (s,if a.Kind=7 then t+1 else t,1,0):=by
 refine d5 ?_
 unfold F10
 rw [B4 h hq,C3 h hq]
 simp only [ab]
 refine c4 (λ hc=>by simp at hc) (λ _=>?_)
 have ha:=(Xi h hq t a).1
 rw [he] at ha
 have e1:w64 (t+1)=t+1:=A5 (by omega)
 refine Ok.andThen (A:=λ z=>z=(if a.Kind=7 then t+1 else t,s.Ae,s.Ac,s.Am,s.Ai)) (B:=λ (_:Ab×Int×Int×Int)=>False) ?_ (λ z hz=>?_) (λ _ h=>h.elim)
 ·refine c6 (I:=λ j z=>z=if j=0 then (t,q.Ae,q.Ac,q.Am,q.Ai) else (if a.Kind=7 then t+1 else t,s.Ae,s.Ac,s.Am,s.Ai)) rfl (λ j x z hx hI=>?_) λ z hI=>hI
  have hj:j=0:=by
   have:=(aa.1 hx).1
   simp at this;exact this
  subst hj
  have hx:x=a:=by simpa using hx.symm
  subst hx
  rw [if_pos rfl] at hI
  subst hI
  unfold Alq
  refine Ok.bind (P:=λ v=>v=(s,(0:Int))) (c7 (x:=(s,(0:Int))) ha rfl) λ v hv=>?_
  subst hv
  refine c4 (λ hc=>by simp at hc) (λ _=>c4 (λ hk=>c5 ?_) (λ hk=>c5 ?_))
  ·rw [if_neg (by omega),if_pos (by simpa using hk),e1]
  ·rw [if_neg (by omega),if_neg (by simpa using hk)]
 ·subst hz
  exact Ok.pure rfl
theorem F_.time {b:Aa}:∀ {l:List Ak} {q r:Ab} {t u:Int},F_ b q t l r u->t<=u
 | [],_,_,_,_,h=>by rw [h.2];exact bB _
 | a::l,_,_,_,_,h=>by
  obtain⟨s,_,_,_,_,h5⟩:=h
  have:=F_.time h5
  split at this <;> omega
theorem A0c {b:Aa} (h:Ap b):Ok (F19 b) λ y=>∃ M,0<=M/\(∀ x,x∈b.Ac->x.Start<=M)/\y=2*(b.Ad.length:Int)+b.Ac.length+M+1:=by
 have hbb:=h.brl
 have hso:=h.sol
 unfold F19
 rw [Za h]
 simp only [ab]
 refine c4 (λ hc=>by simp at hc) (λ _=>?_)
 refine Ok.andThen (A:=λ M=>(0<=M/\M<=600)/\∀ x,x∈b.Ac->x.Start<=M) (B:=λ (_:Unit)=>False) ?_ (λ M hM=>?_) (λ _ h=>h.elim)
 ·refine c6 (I:=λ j M=>(0<=M/\M<=600)/\∀ x,x∈b.Ac.take j->x.Start<=M) ⟨by omega,λ x hx=>by simp at hx⟩ (λ j x M hx hI=>?_) λ M hI=>?_
  ·have hst:=(h.so x (ae hx)).2.2
   unfold Ale
   refine c5 ⟨by omega,λ y hy=>?_⟩
   rw [Bi hx] at hy
   rcases aq.1 hy with hy | hy
   ·have:=hI.2 y hy;omega
   ·rw [aP.1 hy];omega
  ·rw [ay] at hI;exact hI
 ·refine Ok.pure ⟨M,hM.1.1,hM.2,?_⟩
  rw [A5 (n:=2*(b.Ad.length:Int)) (by omega),A5 (n:=2*(b.Ad.length:Int)+b.Ac.length) (by omega),A5 (n:=2*(b.Ad.length:Int)+b.Ac.length+M) (by omega),A5 (by omega)]
theorem restoreReaches_law (t:List Int):F4 t=some true:=by
 refine d5 ?_
 unfold F4
 refine (A67 t).bind λ s hs=>(Ax6 hs).bind λ w hw=>?_
 obtain⟨hmk,hp,hsi⟩:=hw
 have h:=hmk.ok
 have hbu:=h.buses
 have hgl:=Ij w.1 (Bf w.1 w.2.1) (Bz w.1 w.2.1.Ai)
 refine (A2w h hp hsi).bind λ y hy=>?_
 rcases hy with hy | ⟨hy,w1,q,tt,q1,as1,ks,hpl⟩
 ·refine c4 (λ _=>?_) (λ hc=>?_)
  ·have e:((y.2==9) || (y.2==11))=true:=by rcases hy with e | e <;> rw [e] <;> rfl
   rw [e,Asb]
   exact Ok.pure rfl
  ·rcases hy with e | e <;> rw [e] at hc <;> simp at hc
 ·rw [hy]
  refine c4 (λ hc=>by simp at hc) (λ _=>?_)
  have um:=hpl.srv.mid
  have htm:=um.tim
  refine (A0c h).bind λ bd hbd=>?_
  obtain⟨M,hM,hMx,ebd⟩:=hbd
  have hlen:=hpl.len M hM hMx
  refine c4 (λ hc=>?_) (λ _=>?_)
  ·simp only [dx] at hc;omega
  refine Ok.andThen (A:=λ z=>z=(tt,q.Ae,q.Ac,q.Am,q.Ai)) (B:=λ (_:Bool)=>False) ?_ (λ z hz=>?_) (λ _ h=>h.elim)
  ·refine c6 (I:=λ j z=>∃ (r:Ab) (u:Int),z=(u,r.Ae,r.Ac,r.Am,r.Ai)/\Ao w.1 r/\0<=u/\F_ w.1 r u (y.1.drop j) q tt) ⟨w.2.1,20,rfl,hp,by omega,um.goes⟩ (λ j a z ha hI=>?_) λ z hI=>?_
   ·obtain⟨r,u,rfl,hr,hu,hg⟩:=hI
    have hj:=(aa.1 ha).1
    have hd:y.1.drop j=a::y.1.drop (j+1):=by
     rw [cK hj,(aa.1 ha).2]
    have htt:=hg.time
    rw [hd] at hg
    obtain⟨r',g1,g2,g3,g4,g5⟩:=hg
    unfold Arj
    have hrun:=A2q h hr (t:=u) ⟨hu,by omega⟩ g1
    refine Ok.bind (P:=λ v=>v=(r',(if a.Kind=7 then u+1 else u),(1:Int),(0:Int))) (c7 (x:=(r',(if a.Kind=7 then u+1 else u),(1:Int),(0:Int))) hrun rfl) λ v hv=>?_
    subst hv
    have hbad:=A6y h hr g2 g3
    refine Ok.bind (P:=λ v=>v=false) (c7 (x:=false) hbad rfl) λ v hv=>?_
    subst hv
    refine c4 (λ hc=>?_) (λ _=>?_)
    ·simp [A6s] at hc
    refine Ok.bind (P:=λ v=>v=Bg w.1 r') (c7 (N3 h g2) rfl) λ v hv=>?_
    subst hv
    refine Ok.inner (A:=λ _=>True) (B:=λ (_:Bool)=>False) ?_ (λ _ _=>c5 ⟨r',_,rfl,g2,by dsimp only;split <;> omega,g5⟩) (λ _ h=>h.elim)
    refine c6 (I:=λ _ _=>True) trivial (λ i x _ hx _=>?_) λ _ _=>trivial
    obtain⟨hb0,hlt⟩:=Ob (Ql h (ae hx))
    unfold Ari
    rw [hb0]
    simp only [ab]
    rw [A2x h g2 hlt,g4 _ hlt]
    exact c5 trivial
   ·obtain⟨r,u,rfl,_,_,hg⟩:=hI
    rw [List.drop_length] at hg
    obtain⟨rfl,rfl⟩:=hg
    rfl
  ·subst hz
   rw [W_ h hp]
   simp only [ab]
   obtain⟨pn1,pn2⟩:=At8 h um hpl.goal
   generalize hG:Eg w.1 (Bf w.1 w.2.1) (Bz w.1 w.2.1.Ai)=G at hgl ⊢
   refine Ok.andThen (A:=λ _=>True) (B:=λ (_:Bool)=>False) ?_ (λ _ _=>?_) (λ _ h=>h.elim)
   ·refine c8 (λ z=>0<=z/\z<=w.1.Al) (λ z=>(100-z).toNat) _ _ ⟨by omega,by omega⟩ (by omega) ?_
    rintro z ⟨z0,z1⟩
    unfold Arh
    refine c4 (λ hq=>?_) (λ _=>cX trivial)
    simp only [dx] at hq
    obtain⟨k,rfl⟩:∃ k:Nat,z=(k:Int):=⟨z.toNat,by omega⟩
    have hkl:k<G.length:=by omega
    have e1:w64 ((k:Int)+1)=(k:Int)+1:=A5 (by omega)
    have d1:decide ((k:Int)<(G.length:Int))=true:=dC (by omega)
    have g1:getI G (k:Int)=some (G.getD k false):=A8 (by rw [af hkl];simp [List.getD,List.getElem?_eq_getElem hkl])
    have g2:=Ach h um.hq (n:=k) (by omega)
    have g2:F14 w.1 ⟨q.Ae,q.Ac,q.Am,q.Ai⟩ (k:Int)=some (A2 w.1 q k):=g2
    rw [d1,g1,g2,e1]
    simp only [Hw,ab,aM,cond_true]
    refine c4 (λ hc=>?_) (λ _=>c5 ⟨⟨by omega,by omega⟩,by omega⟩)
    exfalso
    simp only [A6r,d1,aM] at hc
    have hgk:=hpl.goal k
    rw [hG] at hgk
    unfold lv at hgk
    cases hgv:G.getD k false with
    | false=>rw [hgv] at hc;simp at hc
    | true=>rw [hgv,hgk hgv] at hc;simp at hc
   ·refine Ok.bind (P:=λ v=>v=(([]:List Ak),(9:Int))) (c7 (x:=(([]:List Ak),(9:Int))) pn1 rfl) λ v hv=>?_
    subst hv
    refine Ok.bind (P:=λ v=>v=true) (c7 (x:=true) pn2 rfl) λ v hv=>?_
    subst hv
    have e:((G.length:Int)==w.1.Al)=true:=by rw [dz];omega
    rw [e,Asb]
    exact Ok.pure rfl
end Go.Proofs.YtcigbocngfaopaaGreat
