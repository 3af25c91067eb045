import Derived.Test.YtiaaaghdkhnonaaGreatTy
set_option linter.unusedVariables false
namespace Go.Proofs.YtiaaaghdkhnonaaGreat
open Go.SL
variable{a b p:Ab}
def Dh(a b:Ab):Bool:=decide (a.Kind<b.Kind) || (a.Kind==b.Kind&&decide (a.Number<b.Number))
theorem Aj9(h1:a.Kind=b.Kind)(h2:a.Number=b.Number):a=b:=by
 cases a;cases b;simp only at h1 h2;subst h1;subst h2;rfl
theorem F7:Dh a b=true↔a.Kind<b.Kind\/a.Kind=b.Kind/\a.Number<b.Number:=by
 unfold Dh;simp only[ay,ae,dA,dD]
theorem W5(a b:Ab):Dh a b=true\/a=b\/Dh b a=true:=by
 rw[F7,F7];rcases Int.lt_trichotomy a.Kind b.Kind with h|h|h
 ·exact .inl (.inl h)
 ·rcases Int.lt_trichotomy a.Number b.Number with g|g|g
  ·exact .inl (.inr ⟨h,g⟩)
  ·exact .inr (.inl (Aj9 h g))
  ·exact .inr (.inr (.inr ⟨h.symm,g⟩))
 ·exact .inr (.inr (.inl h))
theorem Jf(a:Ab):Dh a a=false:=by
 cases h:Dh a a with
 |false=>rfl
 |true=>rw[F7]at h;omega
theorem Ke{c:Ab}(h1:Dh a b=true)(h2:Dh b c=true):Dh a c=true:=by
 rw[F7]at *;omega
def Jk(p:Ab):List Ab->List Ab
 | []=>[p]
 |q::l=>bif Dh p q then p::q::l else bif Dh q p then q::Jk p l else q::l
def I8(l:List Ab):List Ab:=l.foldr Jk []
def Es(l:List Ab):Prop:=l.Pairwise λa b=>Dh a b=true
theorem Jj(p:Ab):∀(l:List Ab)(x:Ab),x∈Jk p l↔x=p\/x∈l
 | [],x=>by simp[Jk]
 | q :: l, x => by
  unfold Jk;cases h1:Dh p q with
  |true=>simp
  | false=>
   cases h2:Dh q p with
   | true=>
    simp only[cond_false,cond_true,ah,Jj p l x];constructor
    ·rintro (h|h|h)
     ·exact .inr (.inl h)
     ·exact .inl h
     ·exact .inr (.inr h)
    ·rintro (h|h|h)
     ·exact .inr (.inl h)
     ·exact .inl h
     ·exact .inr (.inr h)
   | false=>
    have e:p=q:=by
     rcases W5 p q with h|h|h
     ·rw[h1]at h;cases h
     ·exact h
     ·rw[h2]at h;cases h
    subst e;simp
theorem Nn(p:Ab):∀{l:List Ab},Es l->Es (Jk p l)
 | [],_=>by simp[Jk,Es]
 | q::l,h=>by
  unfold Es at h;rw[aO]at h;obtain⟨hq,hl⟩:=h;unfold Jk;cases h1:Dh p q with
  |true=>
   simp only[cond_true];refine aO.2 ⟨λx hx=>?_,aO.2 ⟨hq,hl⟩⟩;rcases ah.1 hx with e|e
   ·rw[e];exact h1
   ·exact Ke h1 (hq x e)
  | false=>
   cases h2:Dh q p with
   |true=>
    simp only[cond_false,cond_true];refine aO.2 ⟨λx hx=>?_,Nn p hl⟩;rcases(Jj p l x).1 hx with e|e
    ·rw[e];exact h2
    ·exact hq x e
   |false=>
    simp only[cond_false];exact aO.2 ⟨hq,hl⟩
theorem Ju:∀(l:List Ab)(x:Ab),x∈I8 l↔x∈l
 | [],x=>by simp[I8]
 |p::l,x=>by
  show x∈Jk p (I8 l)↔_;rw[Jj,Ju l x,ah]
theorem H1:∀(l:List Ab),Es (I8 l)
 | []=>bS
 |p::l=>Nn p (H1 l)
theorem My:∀{l m:List Ab},Es l->Es m->(∀x,x∈l↔x∈m)->l=m
 | [],[],_,_,_=>rfl
 | [],q::m,_,_,h=>by have:=(h q).2 ak;cases this
 |p::l,[],_,_,h=>by have:=(h p).1 ak;cases this
 | p :: l, q :: m, hl, hm, h => by
  unfold Es at hl hm;rw[aO]at hl hm;have e:p=q:=by
   have h1:=(h p).1 ak;have h2:=(h q).2 ak;rcases ah.1 h1 with e|e
   ·exact e
   ·rcases ah.1 h2 with e2|e2
    ·exact e2.symm
    ·have:=Ke (hm.1 p e) (hl.1 q e2);rw[Jf]at this;cases this
  subst e;congr 1;refine My hl.2 hm.2 λx=>?_;constructor
  ·intro hx;rcases ah.1 ((h x).1 (al p hx)) with e|e
   ·have:=hl.1 x hx;rw[e,Jf]at this;cases this
   ·exact e
  ·intro hx;rcases ah.1 ((h x).2 (al p hx)) with e|e
   ·have:=hm.1 x hx;rw[e,Jf]at this;cases this
   ·exact e
def E1(a b:Ab):Bool:=a.Kind==b.Kind&&a.Number==b.Number
theorem Di:E1 a b=true↔a=b:=by
 unfold E1;simp only[ae,dD];exact⟨λh=>Aj9 h.1 h.2,λh=>by rw[h];exact⟨rfl,rfl⟩⟩
def Er(l:List Ab)(p:Ab):Bool:=l.any λx=>E1 x p
theorem Jm{l:List Ab}:Er l p=true↔p∈l:=by
 unfold Er;rw[List.any_eq_true];constructor
 ·rintro⟨x,hx,h⟩;rw[Di]at h;rw[←h];exact hx
 ·intro h;exact⟨p,h,Di.2 rfl⟩
def toP(L:List Bc)(p:Ab):List Ab:=(L.filter λx=>E1 x.From p).map (·.To)
def G8(L:List Bc):Nat->List Ab->List Ab->Option (List Ab)
 |_,seen,[]=>some seen
 |0,_,_::_=>none
 |n+1,seen,p::next=>bif Er seen p then G8 L n seen next else G8 L n (p::seen) (next++toP L p)
inductive Led(L:List Bc)(b:List Ab):Ab->Prop
 |at {p:Ab} (h:p∈b):Led L b p
 |by {p q:Ab} (h:Led L b p) (x:Bc) (hx:x∈L) (h1:x.From=p) (h2:x.To=q):Led L b q
theorem jP{L:List Bc}{q:Ab}:q∈toP L p↔∃x,x∈L/\x.From=p/\x.To=q:=by
 unfold toP;rw[ao];constructor
 ·rintro⟨x,hx,h⟩;rw[az]at hx;exact⟨x,hx.1,Di.1 hx.2,h⟩
 ·rintro⟨x,h1,h2,h3⟩;exact⟨x,az.2 ⟨h1,Di.2 h2⟩,h3⟩
theorem At7(L:List Bc)(b:List Ab):∀(n:Nat)(seen next r:List Ab),G8 L n seen next=some r->(∀p,p∈seen->Led L b p)->(∀p,p∈next->Led L b p) ->
  (∀p,p∈seen->∀q,q∈toP L p->q∈seen\/q∈next)->(∀p,p∈b->p∈seen\/p∈next)->∀p,p∈r↔Led L b p:=by
 have close:∀(seen:List Ab),(∀p,p∈seen->Led L b p)->(∀p,p∈seen->∀q,q∈toP L p->q∈seen)->(∀p,p∈b->p∈seen)->∀p,p∈seen↔Led L b p:=λseen h1 h2 h3 p=>by
  refine⟨h1 p,λh=>?_⟩;induction h with
  | «at» h=>exact h3 _ h
  | «by» h x hx e1 e2 ih=>exact h2 _ ih _ (jP.2 ⟨x,hx,e1,e2⟩)
 intro n;induction n with
 | zero=>
  intro seen next r h h1 h2 h3 h4;cases next with
  |nil=>
   simp only[G8,ai]at h;subst h;exact close seen h1 (λp hp q hq=>(h3 p hp q hq).resolve_right (by simp)) λp hp=>(h4 p hp).resolve_right (by simp)
  |cons p next=>simp[G8]at h
 | succ n ih=>
  intro seen next r h h1 h2 h3 h4;cases next with
  |nil=>
   simp only[G8,ai]at h;subst h;exact close seen h1 (λp hp q hq=>(h3 p hp q hq).resolve_right (by simp)) λp hp=>(h4 p hp).resolve_right (by simp)
  | cons p next=>
   unfold G8 at h;cases hs:Er seen p with
   | true=>
    rw[hs]at h;simp only[cond_true]at h;have hm:=Jm.1 hs;refine ih seen next r h h1 (λq hq=>h2 q (al p hq)) (λq hq z hz=>?_) λq hq=>?_
    ·rcases h3 q hq z hz with e|e
     ·exact .inl e
     ·rcases ah.1 e with e|e
      ·exact .inl (e ▸ hm)
      ·exact .inr e
    ·rcases h4 q hq with e|e
     ·exact .inl e
     ·rcases ah.1 e with e|e
      ·exact .inl (e ▸ hm)
      ·exact .inr e
   | false=>
    rw[hs]at h;simp only[cond_false]at h;have hp:=h2 p ak;refine ih (p::seen) (next++toP L p) r h (λq hq=>?_) (λq hq=>?_) (λq hq z hz=>?_) λq hq=>?_
    ·rcases ah.1 hq with e|e
     ·rw[e];exact hp
     ·exact h1 q e
    ·rcases an.1 hq with e|e
     ·exact h2 q (al p e)
     ·obtain⟨x,x1,x2,x3⟩:=jP.1 e;exact .by hp x x1 x2 x3
    ·rcases ah.1 hq with e|e
     ·subst e;exact .inr (bl _ hz)
     ·rcases h3 q e z hz with e|e
      ·exact .inl (al p e)
      ·rcases ah.1 e with e|e
       ·exact .inl (by rw[e];exact ak)
       ·exact .inr (bg _ e)
    ·rcases h4 q hq with e|e
     ·exact .inl (al p e)
     ·rcases ah.1 e with e|e
      ·exact .inl (by rw[e];exact ak)
      ·exact .inr (bg _ e)
def Ow(L:List Bc)(seen:List Ab):List Bc:=L.filter λx=>!Er seen x.From
theorem Tg(p:Ab)(seen:List Ab)(hp:Er seen p=false):∀L:List Bc,(Ow L (p::seen)).length+(toP L p).length=(Ow L seen).length
 | []=>rfl
 | x::L=>by
  have ih:=Tg p seen hp L;unfold Ow toP at ih ⊢;rw[au]at ih ⊢;have e:Er (p::seen) x.From=(E1 p x.From || Er seen x.From):=rfl;rw[bk,bk,bk,e];cases h1:E1 x.From p with
  |true=>
   have hx:=Di.1 h1;have h2:E1 p x.From=true:=Di.2 hx.symm;have h3:Er seen x.From=false:=by rw[hx];exact hp
   rw[h2,h3];simp only[Bool.true_or,aR,Bool.not_false,if_true,bC,if_false,aS];omega
  | false=>
   have h2:E1 p x.From=false:=by
    cases h:E1 p x.From with
    |false=>rfl
    |true=>rw[Di.1 h]at h1;rw[Di.2 rfl]at h1;cases h1
   rw[h2];cases h3:Er seen x.From with
   |true=>
    simp only[aX,aR,bC,if_false];exact ih
   |false=>
    simp only[aX,Bool.not_false,if_true,bC,if_false,aS];omega
theorem On(L:List Bc):∀(n:Nat)(seen next:List Ab),next.length+(Ow L seen).length<=n->∃r,G8 L n seen next=some r
 |0,seen,[],_=>⟨seen,rfl⟩
 |n+1,seen,[],_=>⟨seen,rfl⟩
 |0,seen,p::next,h=>by simp at h
 | n+1,seen,p::next,h=>by
  simp only[aS]at h;unfold G8;cases hs:Er seen p with
  |true=>simp only[cond_true];exact On L n seen next (by omega)
  |false=>
   simp only[cond_false];have:=Tg p seen hs L;exact On L n (p::seen) (next++toP L p) (by rw[aC];omega)
theorem R5(L:List Bc):∀(n:Nat)(seen next r:List Ab),G8 L n seen next=some r->seen.Nodup->r.Nodup
 |0,seen,[],r,h,hn=>by simp only[G8,ai]at h;rw[←h];exact hn
 |n+1,seen,[],r,h,hn=>by simp only[G8,ai]at h;rw[←h];exact hn
 |0,seen,p::next,r,h,_=>by simp[G8]at h
 | n+1,seen,p::next,r,h,hn=>by
  unfold G8 at h;cases hs:Er seen p with
  |true=>rw[hs]at h;exact R5 L n seen next r h hn
  |false=>
   rw[hs]at h;refine R5 L n (p::seen) _ r h (List.nodup_cons.2 ⟨λhm=>?_,hn⟩);rw[Jm.2 hm]at hs;cases hs
def Gs(L:List Bc)(b:List Ab):List Ab:=match G8 L (b.length+L.length) [] b with
 |some r=>I8 r
 |none=>[]
theorem Akz(L:List Bc)(b:List Ab):Es (Gs L b):=by
 unfold Gs;split
 ·exact H1 _
 ·exact bS
theorem Aky(L:List Bc)(b:List Ab)(p:Ab):p∈Gs L b↔Led L b p:=by
 have e:(Ow L []).length=L.length:=by
  unfold Ow;have:(L.filter λx=>!Er [] x.From)=L:=cm.2 λx _=>rfl;rw[this]
 obtain⟨r,hr⟩:=On L (b.length+L.length) [] b (by omega);unfold Gs;rw[hr];simp only;rw[Ju];exact At7 L b _ [] b r hr (by simp) (λq hq=>.at hq) (by simp) (λq hq=>.inr hq) p
def Ka(a b:List Ab):List Ab:=I8 (a++b)
end Go.Proofs.YtiaaaghdkhnonaaGreat
