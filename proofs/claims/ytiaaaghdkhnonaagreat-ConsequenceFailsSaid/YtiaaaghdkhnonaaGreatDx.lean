import Derived.Test.YtiaaaghdkhnonaaGreatTy
set_option linter.unusedVariables false
namespace Go.Proofs.YtiaaaghdkhnonaaGreat
open Go.SL
variable{a b p q:a_}
def Dv(a b:a_):Bool:=decide (a.Kind<b.Kind) || (a.Kind==b.Kind&&decide (a.Number<b.Number))
theorem Ame(h1:a.Kind=b.Kind)(h2:a.Number=b.Number):a=b:=by cases a;cases b;grind
theorem Hc:Dv a b=true↔a.Kind<b.Kind\/a.Kind=b.Kind/\a.Number<b.Number:=by unfold Dv;grind
theorem Y1(a b:a_):Dv a b=true\/a=b\/Dv b a=true:=by
 rw[Hc,Hc];rcases Int.lt_trichotomy a.Kind b.Kind with h|h|h
 .exact .inl (.inl h)
 .rcases Int.lt_trichotomy a.Number b.Number with g|g|g
  .exact .inl (.inr ⟨h,g⟩)
  .exact .inr (.inl (Ame h g))
  grind
 .exact .inr (.inr (.inl h))
theorem L4(a:a_):Dv a a=false:=by
 cases h:Dv a a with
 |false=>rfl
 |true=>rw[Hc]at h;omega
theorem Ld{c:a_}(h1:Dv a b=true)(h2:Dv b c=true):Dv a c=true:=by rw[Hc]at *;omega
def Ib(p:a_):List a_->List a_
 | []=>[p]
 |q::l=>bif Dv p q then p::q::l else bif Dv q p then q::Ib p l else q::l
def Ke(l:List a_):List a_:=l.foldr Ib []
def D6(l:List a_):Prop:=l.Pairwise λa b=>Dv a b=true
theorem Fx(p:a_):∀(l:List a_)(x:a_),x∈Ib p l↔x=p\/x∈l
 | [],x=>by simp[Ib]
 | q :: l, x => by
  unfold Ib;cases h1:Dv p q with
  |true=>simp
  | false=>
   cases h2:Dv q p with
   |true=>simp only[eB,ez,ag,Fx p l x];grind
   | false=>
    have e:p=q:=by
     rcases Y1 p q with h|h|h
     .rw[h1]at h;cases h
     .exact h
     .rw[h2]at h;cases h
    subst e;simp
theorem Ik(p:a_):∀{l:List a_},D6 l->D6 (Ib p l)
 | [],_=>by simp[Ib,D6]
 | q::l,h=>by
  unfold D6 at h;rw[aL]at h;obtain⟨hq,hl⟩:=h;unfold Ib;cases h1:Dv p q with
  |true=>
   simp only[ez];refine aL.2 ⟨λx hx=>?_,aL.2 ⟨hq,hl⟩⟩;rcases ag.1 hx with e|e
   .rw[e];exact h1
   .exact Ld h1 (hq x e)
  | false=>
   cases h2:Dv q p with
   |true=>
    simp only[eB,ez];refine aL.2 ⟨λx hx=>?_,Ik p hl⟩;rcases(Fx p l x).1 hx with e|e
    .rw[e];exact h2
    .exact hq x e
   |false=>simp only[eB];exact aL.2 ⟨hq,hl⟩
theorem Jd:∀(l:List a_)(x:a_),x∈Ke l↔x∈l
 | [],x=>by simp[Ke]
 |p::l,x=>by show x∈Ib p (Ke l)↔_;rw[Fx,Jd l x,ag]
theorem Ii:∀(l:List a_),D6 (Ke l)
 | []=>bF
 |p::l=>Ik p (Ii l)
theorem Iq:∀{l m:List a_},D6 l->D6 m->(∀x,x∈l↔x∈m)->l=m
 | [],[],_,_,_=>rfl
 | [],q::m,_,_,h=>by have:=(h q).2 ai;cases this
 |p::l,[],_,_,h=>by have:=(h p).1 ai;cases this
 | p :: l, q :: m, hl, hm, h => by
  unfold D6 at hl hm;rw[aL]at hl hm;have e:p=q:=by
   have h1:=(h p).1 ai;have h2:=(h q).2 ai;rcases ag.1 h1 with e|e
   .exact e
   .rcases ag.1 h2 with e2|e2
    .exact e2.symm
    .have:=Ld (hm.1 p e) (hl.1 q e2);rw[L4]at this;cases this
  subst e;congr 1;refine Iq hl.2 hm.2 λx=>?_;constructor
  .intro hx;rcases ag.1 ((h x).1 (al p hx)) with e|e
   .have:=hl.1 x hx;rw[e,L4]at this;cases this
   .exact e
  .intro hx;rcases ag.1 ((h x).2 (al p hx)) with e|e
   .have:=hm.1 x hx;rw[e,L4]at this;cases this
   .exact e
def Fj(a b:a_):Bool:=a.Kind==b.Kind&&a.Number==b.Number
theorem D8:Fj a b=true↔a=b:=by unfold Fj;simp only[ac,dQ];exact⟨λh=>Ame h.1 h.2,λh=>by rw[h];exact⟨rfl,rfl⟩⟩
def Dw(l:List a_)(p:a_):Bool:=l.any λx=>Fj x p
theorem H0{l:List a_}:Dw l p=true↔p∈l:=by grind[Dw,D8]
def toP(L:List A_)(p:a_):List a_:=(L.filter λx=>Fj x.From p).map (·.To)
def Ih(L:List A_):Nat->List a_->List a_->Option (List a_)
 |_,seen,[]=>some seen
 |0,_,_::_=>none
 |n+1,seen,p::next=>bif Dw seen p then Ih L n seen next else Ih L n (p::seen) (next++toP L p)
inductive Led(L:List A_)(b:List a_):a_->Prop
 |at {p:a_} (h:p∈b):Led L b p
 |by {p q:a_} (h:Led L b p) (x:A_) (hx:x∈L) (h1:x.From=p) (h2:x.To=q):Led L b q
theorem vV{L:List A_}:q∈toP L p↔∃x,x∈L/\x.From=p/\x.To=q:=by
 unfold toP;rw[an];constructor
 .rintro⟨x,hx,h⟩;rw[ar]at hx;exact⟨x,hx.1,D8.1 hx.2,h⟩
 .rintro⟨x,h1,h2,h3⟩;exact⟨x,ar.2 ⟨h1,D8.2 h2⟩,h3⟩
theorem Ax7(L:List A_)(b:List a_):∀(n:Nat)(seen next r:List a_),Ih L n seen next=some r->(∀p,p∈seen->Led L b p)->(∀p,p∈next->Led L b p) ->
  (∀p,p∈seen->∀q,q∈toP L p->q∈seen\/q∈next)->(∀p,p∈b->p∈seen\/p∈next)->∀p,p∈r↔Led L b p:=by
 have close:∀(seen:List a_),(∀p,p∈seen->Led L b p)->(∀p,p∈seen->∀q,q∈toP L p->q∈seen)->(∀p,p∈b->p∈seen)->∀p,p∈seen↔Led L b p:=λseen h1 h2 h3 p=>by
  refine⟨h1 p,λh=>?_⟩;induction h with
  | «at» h=>exact h3 _ h
  | «by» h x hx e1 e2 ih=>exact h2 _ ih _ (vV.2 ⟨x,hx,e1,e2⟩)
 intro n;induction n with
 | zero=>
  intro seen next r h h1 h2 h3 h4;cases next with
  |nil=>simp only[Ih,ah]at h;subst h;exact close seen h1 (λp hp q hq=>(h3 p hp q hq).resolve_right (by simp)) λp hp=>(h4 p hp).resolve_right (by simp)
  |cons p next=>simp[Ih]at h
 | succ n ih=>
  intro seen next r h h1 h2 h3 h4;cases next with
  |nil=>simp only[Ih,ah]at h;subst h;exact close seen h1 (λp hp q hq=>(h3 p hp q hq).resolve_right (by simp)) λp hp=>(h4 p hp).resolve_right (by simp)
  | cons p next=>
   unfold Ih at h;cases hs:Dw seen p with
   |true=>rw[hs]at h;simp only[ez]at h;have hm:=H0.1 hs;grind
   | false=>
    rw[hs]at h;simp only[eB]at h;have hp:=h2 p ai;refine ih (p::seen) (next++toP L p) r h (λq hq=>?_) (λq hq=>?_) (λq hq z hz=>?_) λq hq=>?_
    .rcases ag.1 hq with e|e
     .rw[e];exact hp
     .exact h1 q e
    .rcases am.1 hq with e|e
     .exact h2 q (al p e)
     .obtain⟨x,x1,x2,x3⟩:=vV.1 e;exact .by hp x x1 x2 x3
    .grind
    .rcases h4 q hq with e|e
     .exact .inl (al p e)
     .rcases ag.1 e with e|e
      .exact .inl (by rw[e];exact ai)
      .exact .inr (bp _ e)
def Qi(L:List A_)(seen:List a_):List A_:=L.filter λx=>!Dw seen x.From
theorem U7(p:a_)(seen:List a_)(hp:Dw seen p=false):∀L:List A_,(Qi L (p::seen)).length+(toP L p).length=(Qi L seen).length
 | []=>rfl
 | x::L=>by
  have ih:=U7 p seen hp L;unfold Qi toP at ih ⊢;rw[ao]at ih ⊢;have e:Dw (p::seen) x.From=(Fj p x.From || Dw seen x.From):=rfl;rw[aX,aX,aX,e];cases h1:Fj x.From p with
  |true=>have hx:=D8.1 h1;grind
  | false=>
   have h2:Fj p x.From=false:=by
    cases h:Fj p x.From with
    |false=>rfl
    |true=>rw[D8.1 h]at h1;rw[D8.2 rfl]at h1;cases h1
   grind
theorem P9(L:List A_):∀(n:Nat)(seen next:List a_),next.length+(Qi L seen).length<=n->∃r,Ih L n seen next=some r
 |0,seen,[],_=>⟨seen,rfl⟩
 |n+1,seen,[],_=>⟨seen,rfl⟩
 |0,seen,p::next,h=>by simp at h
 | n+1,seen,p::next,h=>by
  simp only[bi]at h;unfold Ih;cases hs:Dw seen p with
  |true=>simp only[ez];exact P9 L n seen next (by omega)
  |false=>simp only[eB];have:=U7 p seen hs L;exact P9 L n (p::seen) (next++toP L p) (by rw[aE];omega)
theorem Tw(L:List A_):∀(n:Nat)(seen next r:List a_),Ih L n seen next=some r->seen.Nodup->r.Nodup
 |0,seen,[],r,h,hn=>by simp only[Ih,ah]at h;rw[←h];exact hn
 |n+1,seen,[],r,h,hn=>by simp only[Ih,ah]at h;rw[←h];exact hn
 |0,seen,p::next,r,h,_=>by simp[Ih]at h
 | n+1,seen,p::next,r,h,hn=>by
  unfold Ih at h;cases hs:Dw seen p with
  |true=>rw[hs]at h;exact Tw L n seen next r h hn
  |false=>rw[hs]at h;refine Tw L n (p::seen) _ r h (cG.2 ⟨λhm=>?_,hn⟩);rw[H0.2 hm]at hs;cases hs
def Er(L:List A_)(b:List a_):List a_:=match Ih L (b.length+L.length) [] b with
 |some r=>Ke r
 |none=>[]
theorem Ob(L:List A_)(b:List a_):D6 (Er L b):=by
 unfold Er;split
 .exact Ii _
 .exact bF
theorem Te(L:List A_)(b:List a_)(p:a_):p∈Er L b↔Led L b p:=by
 have e:(Qi L []).length=L.length:=by unfold Qi;have:(L.filter λx=>!Dw [] x.From)=L:=cd.2 λx _=>rfl;rw[this]
 obtain⟨r,hr⟩:=P9 L (b.length+L.length) [] b (by omega);unfold Er;rw[hr];simp only;rw[Jd];exact Ax7 L b _ [] b r hr (by simp) (λq hq=>.at hq) (by simp) (λq hq=>.inr hq) p
def Iu(a b:List a_):List a_:=Ke (a++b)
end Go.Proofs.YtiaaaghdkhnonaaGreat
