import Derived.Test.YtiaaaghdkhnonaaGreatTy
set_option linter.unusedVariables false
namespace Go.Proofs.YtiaaaghdkhnonaaGreat
open Go.SL
variable{a b p:Aa}
def Dg(a b:Aa):Bool:=decide (a.Kind<b.Kind) || (a.Kind==b.Kind&&decide (a.Number<b.Number))
theorem Aki(h1:a.Kind=b.Kind)(h2:a.Number=b.Number):a=b:=by
 cases a;cases b;simp only at h1 h2;subst h1;subst h2;rfl
theorem Gb:Dg a b=true↔a.Kind<b.Kind\/a.Kind=b.Kind/\a.Number<b.Number:=by
 unfold Dg;simp only[az,ac,dy,dA]
theorem Xc(a b:Aa):Dg a b=true\/a=b\/Dg b a=true:=by
 rw[Gb,Gb];rcases Int.lt_trichotomy a.Kind b.Kind with h|h|h
 ·exact .inl (.inl h)
 ·rcases Int.lt_trichotomy a.Number b.Number with g|g|g
  ·exact .inl (.inr ⟨h,g⟩)
  ·exact .inr (.inl (Aki h g))
  ·exact .inr (.inr (.inr ⟨h.symm,g⟩))
 ·exact .inr (.inr (.inl h))
theorem Jp(a:Aa):Dg a a=false:=by
 cases h:Dg a a with
 |false=>rfl
 |true=>rw[Gb]at h;omega
theorem Km{c:Aa}(h1:Dg a b=true)(h2:Dg b c=true):Dg a c=true:=by
 rw[Gb]at *;omega
def G_(p:Aa):List Aa->List Aa
 | []=>[p]
 |q::l=>bif Dg p q then p::q::l else bif Dg q p then q::G_ p l else q::l
def Jh(l:List Aa):List Aa:=l.foldr G_ []
def Di(l:List Aa):Prop:=l.Pairwise λa b=>Dg a b=true
theorem Ez(p:Aa):∀(l:List Aa)(x:Aa),x∈G_ p l↔x=p\/x∈l
 | [],x=>by simp[G_]
 | q :: l, x => by
  unfold G_;cases h1:Dg p q with
  |true=>simp
  | false=>
   cases h2:Dg q p with
   | true=>
    simp only[cond_false,cond_true,ag,Ez p l x];constructor
    ·rintro (h|h|h)
     ·exact .inr (.inl h)
     ·exact .inl h
     ·exact .inr (.inr h)
    ·rintro (h|h|h)
     ·exact .inr (.inl h)
     ·exact .inl h
     ·exact .inr (.inr h)
   | false=>
    have e:p=q:=by
     rcases Xc p q with h|h|h
     ·rw[h1]at h;cases h
     ·exact h
     ·rw[h2]at h;cases h
    subst e;simp
theorem Hm(p:Aa):∀{l:List Aa},Di l->Di (G_ p l)
 | [],_=>by simp[G_,Di]
 | q::l,h=>by
  unfold Di at h;rw[aO]at h;obtain⟨hq,hl⟩:=h;unfold G_;cases h1:Dg p q with
  |true=>
   simp only[cond_true];refine aO.2 ⟨λx hx=>?_,aO.2 ⟨hq,hl⟩⟩;rcases ag.1 hx with e|e
   ·rw[e];exact h1
   ·exact Km h1 (hq x e)
  | false=>
   cases h2:Dg q p with
   |true=>
    simp only[cond_false,cond_true];refine aO.2 ⟨λx hx=>?_,Hm p hl⟩;rcases(Ez p l x).1 hx with e|e
    ·rw[e];exact h2
    ·exact hq x e
   |false=>
    simp only[cond_false];exact aO.2 ⟨hq,hl⟩
theorem Ia:∀(l:List Aa)(x:Aa),x∈Jh l↔x∈l
 | [],x=>by simp[Jh]
 |p::l,x=>by
  show x∈G_ p (Jh l)↔_;rw[Ez,Ia l x,ag]
theorem Hh:∀(l:List Aa),Di (Jh l)
 | []=>bG
 |p::l=>Hm p (Hh l)
theorem Hr:∀{l m:List Aa},Di l->Di m->(∀x,x∈l↔x∈m)->l=m
 | [],[],_,_,_=>rfl
 | [],q::m,_,_,h=>by have:=(h q).2 aj;cases this
 |p::l,[],_,_,h=>by have:=(h p).1 aj;cases this
 | p :: l, q :: m, hl, hm, h => by
  unfold Di at hl hm;rw[aO]at hl hm;have e:p=q:=by
   have h1:=(h p).1 aj;have h2:=(h q).2 aj;rcases ag.1 h1 with e|e
   ·exact e
   ·rcases ag.1 h2 with e2|e2
    ·exact e2.symm
    ·have:=Km (hm.1 p e) (hl.1 q e2);rw[Jp]at this;cases this
  subst e;congr 1;refine Hr hl.2 hm.2 λx=>?_;constructor
  ·intro hx;rcases ag.1 ((h x).1 (ak p hx)) with e|e
   ·have:=hl.1 x hx;rw[e,Jp]at this;cases this
   ·exact e
  ·intro hx;rcases ag.1 ((h x).2 (ak p hx)) with e|e
   ·have:=hm.1 x hx;rw[e,Jp]at this;cases this
   ·exact e
def Ei(a b:Aa):Bool:=a.Kind==b.Kind&&a.Number==b.Number
theorem C7:Ei a b=true↔a=b:=by
 unfold Ei;simp only[ac,dA];exact⟨λh=>Aki h.1 h.2,λh=>by rw[h];exact⟨rfl,rfl⟩⟩
def Ct(l:List Aa)(p:Aa):Bool:=l.any λx=>Ei x p
theorem G2{l:List Aa}:Ct l p=true↔p∈l:=by
 unfold Ct;rw[List.any_eq_true];constructor
 ·rintro⟨x,hx,h⟩;rw[C7]at h;rw[←h];exact hx
 ·intro h;exact⟨p,h,C7.2 rfl⟩
def toP(L:List A6)(p:Aa):List Aa:=(L.filter λx=>Ei x.From p).map (·.To)
def He(L:List A6):Nat->List Aa->List Aa->Option (List Aa)
 |_,seen,[]=>some seen
 |0,_,_::_=>none
 |n+1,seen,p::next=>bif Ct seen p then He L n seen next else He L n (p::seen) (next++toP L p)
inductive Led(L:List A6)(b:List Aa):Aa->Prop
 |at {p:Aa} (h:p∈b):Led L b p
 |by {p q:Aa} (h:Led L b p) (x:A6) (hx:x∈L) (h1:x.From=p) (h2:x.To=q):Led L b q
theorem qB{L:List A6}{q:Aa}:q∈toP L p↔∃x,x∈L/\x.From=p/\x.To=q:=by
 unfold toP;rw[an];constructor
 ·rintro⟨x,hx,h⟩;rw[ay]at hx;exact⟨x,hx.1,C7.1 hx.2,h⟩
 ·rintro⟨x,h1,h2,h3⟩;exact⟨x,ay.2 ⟨h1,C7.2 h2⟩,h3⟩
theorem Aut(L:List A6)(b:List Aa):∀(n:Nat)(seen next r:List Aa),He L n seen next=some r->(∀p,p∈seen->Led L b p)->(∀p,p∈next->Led L b p) ->
  (∀p,p∈seen->∀q,q∈toP L p->q∈seen\/q∈next)->(∀p,p∈b->p∈seen\/p∈next)->∀p,p∈r↔Led L b p:=by
 have close:∀(seen:List Aa),(∀p,p∈seen->Led L b p)->(∀p,p∈seen->∀q,q∈toP L p->q∈seen)->(∀p,p∈b->p∈seen)->∀p,p∈seen↔Led L b p:=λseen h1 h2 h3 p=>by
  refine⟨h1 p,λh=>?_⟩;induction h with
  | «at» h=>exact h3 _ h
  | «by» h x hx e1 e2 ih=>exact h2 _ ih _ (qB.2 ⟨x,hx,e1,e2⟩)
 intro n;induction n with
 | zero=>
  intro seen next r h h1 h2 h3 h4;cases next with
  |nil=>
   simp only[He,ah]at h;subst h;exact close seen h1 (λp hp q hq=>(h3 p hp q hq).resolve_right (by simp)) λp hp=>(h4 p hp).resolve_right (by simp)
  |cons p next=>simp[He]at h
 | succ n ih=>
  intro seen next r h h1 h2 h3 h4;cases next with
  |nil=>
   simp only[He,ah]at h;subst h;exact close seen h1 (λp hp q hq=>(h3 p hp q hq).resolve_right (by simp)) λp hp=>(h4 p hp).resolve_right (by simp)
  | cons p next=>
   unfold He at h;cases hs:Ct seen p with
   | true=>
    rw[hs]at h;simp only[cond_true]at h;have hm:=G2.1 hs;refine ih seen next r h h1 (λq hq=>h2 q (ak p hq)) (λq hq z hz=>?_) λq hq=>?_
    ·rcases h3 q hq z hz with e|e
     ·exact .inl e
     ·rcases ag.1 e with e|e
      ·exact .inl (e ▸ hm)
      ·exact .inr e
    ·rcases h4 q hq with e|e
     ·exact .inl e
     ·rcases ag.1 e with e|e
      ·exact .inl (e ▸ hm)
      ·exact .inr e
   | false=>
    rw[hs]at h;simp only[cond_false]at h;have hp:=h2 p aj;refine ih (p::seen) (next++toP L p) r h (λq hq=>?_) (λq hq=>?_) (λq hq z hz=>?_) λq hq=>?_
    ·rcases ag.1 hq with e|e
     ·rw[e];exact hp
     ·exact h1 q e
    ·rcases am.1 hq with e|e
     ·exact h2 q (ak p e)
     ·obtain⟨x,x1,x2,x3⟩:=qB.1 e;exact .by hp x x1 x2 x3
    ·rcases ag.1 hq with e|e
     ·subst e;exact .inr (bk _ hz)
     ·rcases h3 q e z hz with e|e
      ·exact .inl (ak p e)
      ·rcases ag.1 e with e|e
       ·exact .inl (by rw[e];exact aj)
       ·exact .inr (bh _ e)
    ·rcases h4 q hq with e|e
     ·exact .inl (ak p e)
     ·rcases ag.1 e with e|e
      ·exact .inl (by rw[e];exact aj)
      ·exact .inr (bh _ e)
def O7(L:List A6)(seen:List Aa):List A6:=L.filter λx=>!Ct seen x.From
theorem Tu(p:Aa)(seen:List Aa)(hp:Ct seen p=false):∀L:List A6,(O7 L (p::seen)).length+(toP L p).length=(O7 L seen).length
 | []=>rfl
 | x::L=>by
  have ih:=Tu p seen hp L;unfold O7 toP at ih ⊢;rw[ar]at ih ⊢;have e:Ct (p::seen) x.From=(Ei p x.From || Ct seen x.From):=rfl;rw[aW,aW,aW,e];cases h1:Ei x.From p with
  |true=>
   have hx:=C7.1 h1;have h2:Ei p x.From=true:=C7.2 hx.symm;have h3:Ct seen x.From=false:=by rw[hx];exact hp
   rw[h2,h3];simp only[Bool.true_or,aP,Bool.not_false,if_true,bC,if_false,aR];omega
  | false=>
   have h2:Ei p x.From=false:=by
    cases h:Ei p x.From with
    |false=>rfl
    |true=>rw[C7.1 h]at h1;rw[C7.2 rfl]at h1;cases h1
   rw[h2];cases h3:Ct seen x.From with
   |true=>
    simp only[aT,aP,bC,if_false];exact ih
   |false=>
    simp only[aT,Bool.not_false,if_true,bC,if_false,aR];omega
theorem Oz(L:List A6):∀(n:Nat)(seen next:List Aa),next.length+(O7 L seen).length<=n->∃r,He L n seen next=some r
 |0,seen,[],_=>⟨seen,rfl⟩
 |n+1,seen,[],_=>⟨seen,rfl⟩
 |0,seen,p::next,h=>by simp at h
 | n+1,seen,p::next,h=>by
  simp only[aR]at h;unfold He;cases hs:Ct seen p with
  |true=>simp only[cond_true];exact Oz L n seen next (by omega)
  |false=>
   simp only[cond_false];have:=Tu p seen hs L;exact Oz L n (p::seen) (next++toP L p) (by rw[aB];omega)
theorem Sg(L:List A6):∀(n:Nat)(seen next r:List Aa),He L n seen next=some r->seen.Nodup->r.Nodup
 |0,seen,[],r,h,hn=>by simp only[He,ah]at h;rw[←h];exact hn
 |n+1,seen,[],r,h,hn=>by simp only[He,ah]at h;rw[←h];exact hn
 |0,seen,p::next,r,h,_=>by simp[He]at h
 | n+1,seen,p::next,r,h,hn=>by
  unfold He at h;cases hs:Ct seen p with
  |true=>rw[hs]at h;exact Sg L n seen next r h hn
  |false=>
   rw[hs]at h;refine Sg L n (p::seen) _ r h (List.nodup_cons.2 ⟨λhm=>?_,hn⟩);rw[G2.2 hm]at hs;cases hs
def El(L:List A6)(b:List Aa):List Aa:=match He L (b.length+L.length) [] b with
 |some r=>Jh r
 |none=>[]
theorem M3(L:List A6)(b:List Aa):Di (El L b):=by
 unfold El;split
 ·exact Hh _
 ·exact bG
theorem M2(L:List A6)(b:List Aa)(p:Aa):p∈El L b↔Led L b p:=by
 have e:(O7 L []).length=L.length:=by
  unfold O7;have:(L.filter λx=>!Ct [] x.From)=L:=ck.2 λx _=>rfl;rw[this]
 obtain⟨r,hr⟩:=Oz L (b.length+L.length) [] b (by omega);unfold El;rw[hr];simp only;rw[Ia];exact Aut L b _ [] b r hr (by simp) (λq hq=>.at hq) (by simp) (λq hq=>.inr hq) p
def E5(a b:List Aa):List Aa:=Jh (a++b)
end Go.Proofs.YtiaaaghdkhnonaaGreat
