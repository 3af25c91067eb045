import Derived.Test.YtiaaaghdkhnonaaGreatTy
set_option linter.unusedVariables false
namespace Go.Proofs.YtiaaaghdkhnonaaGreat
open Go.SL
variable{a b p:Ab}
def Dm(a b:Ab):Bool:=decide (a.Kind<b.Kind) || (a.Kind==b.Kind&&decide (a.Number<b.Number))
theorem Anr(h1:a.Kind=b.Kind)(h2:a.Number=b.Number):a=b:=by
 cases a;cases b;simp only at h1 h2;subst h1;subst h2;rfl
theorem Gk:Dm a b=true↔a.Kind<b.Kind\/a.Kind=b.Kind/\a.Number<b.Number:=by
 unfold Dm;simp only[an,ac,dJ,dL]
theorem Yx(a b:Ab):Dm a b=true\/a=b\/Dm b a=true:=by
 rw[Gk,Gk];rcases Int.lt_trichotomy a.Kind b.Kind with h|h|h
 ·exact .inl (.inl h)
 ·rcases Int.lt_trichotomy a.Number b.Number with g|g|g
  ·exact .inl (.inr ⟨h,g⟩)
  ·exact .inr (.inl (Anr h g))
  ·exact .inr (.inr (.inr ⟨h.symm,g⟩))
 ·exact .inr (.inr (.inl h))
theorem Ju(a:Ab):Dm a a=false:=by
 cases h:Dm a a with
 |false=>rfl
 |true=>rw[Gk]at h;omega
theorem Kt{c:Ab}(h1:Dm a b=true)(h2:Dm b c=true):Dm a c=true:=by
 rw[Gk]at *;omega
def J0(p:Ab):List Ab->List Ab
 | []=>[p]
 |q::l=>bif Dm p q then p::q::l else bif Dm q p then q::J0 p l else q::l
def Jm(l:List Ab):List Ab:=l.foldr J0 []
def Eg(l:List Ab):Prop:=l.Pairwise λa b=>Dm a b=true
theorem Iv(p:Ab):∀(l:List Ab)(x:Ab),x∈J0 p l↔x=p\/x∈l
 | [],x=>by simp[J0]
 | q :: l, x => by
  unfold J0;cases h1:Dm p q with
  |true=>simp
  | false=>
   cases h2:Dm q p with
   | true=>
    simp only[cond_false,cond_true,ag,Iv p l x];constructor
    ·rintro (h|h|h)
     ·exact .inr (.inl h)
     ·exact .inl h
     ·exact .inr (.inr h)
    ·rintro (h|h|h)
     ·exact .inr (.inl h)
     ·exact .inl h
     ·exact .inr (.inr h)
   | false=>
    have e:p=q:=by
     rcases Yx p q with h|h|h
     ·rw[h1]at h;cases h
     ·exact h
     ·rw[h2]at h;cases h
    subst e;simp
theorem Ll(p:Ab):∀{l:List Ab},Eg l->Eg (J0 p l)
 | [],_=>by simp[J0,Eg]
 | q::l,h=>by
  unfold Eg at h;rw[aP]at h;obtain⟨hq,hl⟩:=h;unfold J0;cases h1:Dm p q with
  |true=>
   simp only[cond_true];refine aP.2 ⟨λx hx=>?_,aP.2 ⟨hq,hl⟩⟩;rcases ag.1 hx with e|e
   ·rw[e];exact h1
   ·exact Kt h1 (hq x e)
  | false=>
   cases h2:Dm q p with
   |true=>
    simp only[cond_false,cond_true];refine aP.2 ⟨λx hx=>?_,Ll p hl⟩;rcases(Iv p l x).1 hx with e|e
    ·rw[e];exact h2
    ·exact hq x e
   |false=>
    simp only[cond_false];exact aP.2 ⟨hq,hl⟩
theorem J9:∀(l:List Ab)(x:Ab),x∈Jm l↔x∈l
 | [],x=>by simp[Jm]
 |p::l,x=>by
  show x∈J0 p (Jm l)↔_;rw[Iv,J9 l x,ag]
theorem Ih:∀(l:List Ab),Eg (Jm l)
 | []=>bS
 |p::l=>Ll p (Ih l)
theorem Nt:∀{l m:List Ab},Eg l->Eg m->(∀x,x∈l↔x∈m)->l=m
 | [],[],_,_,_=>rfl
 | [],q::m,_,_,h=>by have:=(h q).2 aj;cases this
 |p::l,[],_,_,h=>by have:=(h p).1 aj;cases this
 | p :: l, q :: m, hl, hm, h => by
  unfold Eg at hl hm;rw[aP]at hl hm;have e:p=q:=by
   have h1:=(h p).1 aj;have h2:=(h q).2 aj;rcases ag.1 h1 with e|e
   ·exact e
   ·rcases ag.1 h2 with e2|e2
    ·exact e2.symm
    ·have:=Kt (hm.1 p e) (hl.1 q e2);rw[Ju]at this;cases this
  subst e;congr 1;refine Nt hl.2 hm.2 λx=>?_;constructor
  ·intro hx;rcases ag.1 ((h x).1 (ak p hx)) with e|e
   ·have:=hl.1 x hx;rw[e,Ju]at this;cases this
   ·exact e
  ·intro hx;rcases ag.1 ((h x).2 (ak p hx)) with e|e
   ·have:=hm.1 x hx;rw[e,Ju]at this;cases this
   ·exact e
def Ez(a b:Ab):Bool:=a.Kind==b.Kind&&a.Number==b.Number
theorem Dn:Ez a b=true↔a=b:=by
 unfold Ez;simp only[ac,dL];exact⟨λh=>Anr h.1 h.2,λh=>by rw[h];exact⟨rfl,rfl⟩⟩
def Di(l:List Ab)(p:Ab):Bool:=l.any λx=>Ez x p
theorem J2{l:List Ab}:Di l p=true↔p∈l:=by
 unfold Di;rw[cu];constructor
 ·rintro⟨x,hx,h⟩;rw[Dn]at h;rw[←h];exact hx
 ·intro h;exact⟨p,h,Dn.2 rfl⟩
def toP(L:List Bh)(p:Ab):List Ab:=(L.filter λx=>Ez x.From p).map (·.To)
def Hj(L:List Bh):Nat->List Ab->List Ab->Option (List Ab)
 |_,seen,[]=>some seen
 |0,_,_::_=>none
 |n+1,seen,p::next=>bif Di seen p then Hj L n seen next else Hj L n (p::seen) (next++toP L p)
inductive Led(L:List Bh)(b:List Ab):Ab->Prop
 |at {p:Ab} (h:p∈b):Led L b p
 |by {p q:Ab} (h:Led L b p) (x:Bh) (hx:x∈L) (h1:x.From=p) (h2:x.To=q):Led L b q
theorem vZ{L:List Bh}{q:Ab}:q∈toP L p↔∃x,x∈L/\x.From=p/\x.To=q:=by
 unfold toP;rw[ao];constructor
 ·rintro⟨x,hx,h⟩;rw[az]at hx;exact⟨x,hx.1,Dn.1 hx.2,h⟩
 ·rintro⟨x,h1,h2,h3⟩;exact⟨x,az.2 ⟨h1,Dn.2 h2⟩,h3⟩
theorem Ayh(L:List Bh)(b:List Ab):∀(n:Nat)(seen next r:List Ab),Hj L n seen next=some r->(∀p,p∈seen->Led L b p)->(∀p,p∈next->Led L b p) ->
  (∀p,p∈seen->∀q,q∈toP L p->q∈seen\/q∈next)->(∀p,p∈b->p∈seen\/p∈next)->∀p,p∈r↔Led L b p:=by
 have close:∀(seen:List Ab),(∀p,p∈seen->Led L b p)->(∀p,p∈seen->∀q,q∈toP L p->q∈seen)->(∀p,p∈b->p∈seen)->∀p,p∈seen↔Led L b p:=λseen h1 h2 h3 p=>by
  refine⟨h1 p,λh=>?_⟩;induction h with
  | «at» h=>exact h3 _ h
  | «by» h x hx e1 e2 ih=>exact h2 _ ih _ (vZ.2 ⟨x,hx,e1,e2⟩)
 intro n;induction n with
 | zero=>
  intro seen next r h h1 h2 h3 h4;cases next with
  |nil=>
   simp only[Hj,ah]at h;subst h;exact close seen h1 (λp hp q hq=>(h3 p hp q hq).resolve_right (by simp)) λp hp=>(h4 p hp).resolve_right (by simp)
  |cons p next=>simp[Hj]at h
 | succ n ih=>
  intro seen next r h h1 h2 h3 h4;cases next with
  |nil=>
   simp only[Hj,ah]at h;subst h;exact close seen h1 (λp hp q hq=>(h3 p hp q hq).resolve_right (by simp)) λp hp=>(h4 p hp).resolve_right (by simp)
  | cons p next=>
   unfold Hj at h;cases hs:Di seen p with
   | true=>
    rw[hs]at h;simp only[cond_true]at h;have hm:=J2.1 hs;refine ih seen next r h h1 (λq hq=>h2 q (ak p hq)) (λq hq z hz=>?_) λq hq=>?_
    ·rcases h3 q hq z hz with e|e
     ·exact .inl e
     ·rcases ag.1 e with e|e
      ·exact .inl (e ▸ hm)
      ·exact .inr e
    ·rcases h4 q hq with e|e
     ·exact .inl e
     ·rcases ag.1 e with e|e
      ·exact .inl (e ▸ hm)
      ·exact .inr e
   | false=>
    rw[hs]at h;simp only[cond_false]at h;have hp:=h2 p aj;refine ih (p::seen) (next++toP L p) r h (λq hq=>?_) (λq hq=>?_) (λq hq z hz=>?_) λq hq=>?_
    ·rcases ag.1 hq with e|e
     ·rw[e];exact hp
     ·exact h1 q e
    ·rcases am.1 hq with e|e
     ·exact h2 q (ak p e)
     ·obtain⟨x,x1,x2,x3⟩:=vZ.1 e;exact .by hp x x1 x2 x3
    ·rcases ag.1 hq with e|e
     ·subst e;exact .inr (bo _ hz)
     ·rcases h3 q e z hz with e|e
      ·exact .inl (ak p e)
      ·rcases ag.1 e with e|e
       ·exact .inl (by rw[e];exact aj)
       ·exact .inr (bh _ e)
    ·rcases h4 q hq with e|e
     ·exact .inl (ak p e)
     ·rcases ag.1 e with e|e
      ·exact .inl (by rw[e];exact aj)
      ·exact .inr (bh _ e)
def Pt(L:List Bh)(seen:List Ab):List Bh:=L.filter λx=>!Di seen x.From
theorem Uy(p:Ab)(seen:List Ab)(hp:Di seen p=false):∀L:List Bh,(Pt L (p::seen)).length+(toP L p).length=(Pt L seen).length
 | []=>rfl
 | x::L=>by
  have ih:=Uy p seen hp L;unfold Pt toP at ih ⊢;rw[aw]at ih ⊢;have e:Di (p::seen) x.From=(Ez p x.From || Di seen x.From):=rfl;rw[bn,bn,bn,e];cases h1:Ez x.From p with
  |true=>
   have hx:=Dn.1 h1;have h2:Ez p x.From=true:=Dn.2 hx.symm;have h3:Di seen x.From=false:=by rw[hx];exact hp
   rw[h2,h3];simp only[Bool.true_or,aH,Bool.not_false,if_true,bI,if_false,aU];omega
  | false=>
   have h2:Ez p x.From=false:=by
    cases h:Ez p x.From with
    |false=>rfl
    |true=>rw[Dn.1 h]at h1;rw[Dn.2 rfl]at h1;cases h1
   rw[h2];cases h3:Di seen x.From with
   |true=>
    simp only[aW,aH,bI,if_false];exact ih
   |false=>
    simp only[aW,Bool.not_false,if_true,bI,if_false,aU];omega
theorem Pj(L:List Bh):∀(n:Nat)(seen next:List Ab),next.length+(Pt L seen).length<=n->∃r,Hj L n seen next=some r
 |0,seen,[],_=>⟨seen,rfl⟩
 |n+1,seen,[],_=>⟨seen,rfl⟩
 |0,seen,p::next,h=>by simp at h
 | n+1,seen,p::next,h=>by
  simp only[aU]at h;unfold Hj;cases hs:Di seen p with
  |true=>simp only[cond_true];exact Pj L n seen next (by omega)
  |false=>
   simp only[cond_false];have:=Uy p seen hs L;exact Pj L n (p::seen) (next++toP L p) (by rw[aF];omega)
theorem Tf(L:List Bh):∀(n:Nat)(seen next r:List Ab),Hj L n seen next=some r->seen.Nodup->r.Nodup
 |0,seen,[],r,h,hn=>by simp only[Hj,ah]at h;rw[←h];exact hn
 |n+1,seen,[],r,h,hn=>by simp only[Hj,ah]at h;rw[←h];exact hn
 |0,seen,p::next,r,h,_=>by simp[Hj]at h
 | n+1,seen,p::next,r,h,hn=>by
  unfold Hj at h;cases hs:Di seen p with
  |true=>rw[hs]at h;exact Tf L n seen next r h hn
  |false=>
   rw[hs]at h;refine Tf L n (p::seen) _ r h (List.nodup_cons.2 ⟨λhm=>?_,hn⟩);rw[J2.2 hm]at hs;cases hs
def G6(L:List Bh)(b:List Ab):List Ab:=match Hj L (b.length+L.length) [] b with
 |some r=>Jm r
 |none=>[]
theorem Aom(L:List Bh)(b:List Ab):Eg (G6 L b):=by
 unfold G6;split
 ·exact Ih _
 ·exact bS
theorem Aol(L:List Bh)(b:List Ab)(p:Ab):p∈G6 L b↔Led L b p:=by
 have e:(Pt L []).length=L.length:=by
  unfold Pt;have:(L.filter λx=>!Di [] x.From)=L:=cv.2 λx _=>rfl;rw[this]
 obtain⟨r,hr⟩:=Pj L (b.length+L.length) [] b (by omega);unfold G6;rw[hr];simp only;rw[J9];exact Ayh L b _ [] b r hr (by simp) (λq hq=>.at hq) (by simp) (λq hq=>.inr hq) p
def Kn(a b:List Ab):List Ab:=Jm (a++b)
end Go.Proofs.YtiaaaghdkhnonaaGreat
