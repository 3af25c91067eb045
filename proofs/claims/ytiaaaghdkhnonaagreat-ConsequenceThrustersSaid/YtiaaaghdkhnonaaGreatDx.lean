import Derived.Test.YtiaaaghdkhnonaaGreatTy
set_option linter.unusedVariables false
namespace Go.Proofs.YtiaaaghdkhnonaaGreat
open Go.SL
def Dh (a b:Ab):Bool:=decide (a.Kind<b.Kind) || (a.Kind==b.Kind&&decide (a.Number<b.Number))
theorem Aif {a b:Ab} (h1:a.Kind=b.Kind) (h2:a.Number=b.Number):a=b:=by
 cases a;cases b;simp only at h1 h2;subst h1;subst h2;rfl
theorem Ga {a b:Ab}:Dh a b=true↔a.Kind<b.Kind\/a.Kind=b.Kind/\a.Number<b.Number:=by
 unfold Dh
 simp only [aA,ab,dE,dG]
theorem Ws (a b:Ab):Dh a b=true\/a=b\/Dh b a=true:=by
 rw [Ga,Ga]
 rcases Int.lt_trichotomy a.Kind b.Kind with h | h | h
 ·exact .inl (.inl h)
 ·rcases Int.lt_trichotomy a.Number b.Number with g | g | g
  ·exact .inl (.inr ⟨h,g⟩)
  ·exact .inr (.inl (Aif h g))
  ·exact .inr (.inr (.inr ⟨h.symm,g⟩))
 ·exact .inr (.inr (.inl h))
theorem K5 (a:Ab):Dh a a=false:=by
 cases h:Dh a a with
 | false=>rfl
 | true=>rw [Ga] at h;omega
theorem Ki {a b c:Ab} (h1:Dh a b=true) (h2:Dh b c=true):Dh a c=true:=by
 rw [Ga] at *
 omega
def Gl (p:Ab):List Ab->List Ab
 | []=>[p]
 | q::l=>bif Dh p q then p::q::l else bif Dh q p then q::Gl p l else q::l
def Ip (l:List Ab):List Ab:=l.foldr Gl []
def Dr (l:List Ab):Prop:=l.Pairwise λ a b=>Dh a b=true
theorem E8 (p:Ab):∀ (l:List Ab) (x:Ab),x∈Gl p l↔x=p\/x∈l
 | [],x=>by simp [Gl]
 | q :: l, x => by
  unfold Gl
  cases h1:Dh p q with
  | true=>simp
  | false=>
   cases h2:Dh q p with
   | true=>
    simp only [cond_false,cond_true,ag,E8 p l x]
    constructor
    ·rintro (h | h | h)
     ·exact .inr (.inl h)
     ·exact .inl h
     ·exact .inr (.inr h)
    ·rintro (h | h | h)
     ·exact .inr (.inl h)
     ·exact .inl h
     ·exact .inr (.inr h)
   | false=>
    have e:p=q:=by
     rcases Ws p q with h | h | h
     ·rw [h1] at h;cases h
     ·exact h
     ·rw [h2] at h;cases h
    subst e
    simp
theorem Ig (p:Ab):∀ {l:List Ab},Dr l->Dr (Gl p l)
 | [],_=>by simp [Gl,Dr]
 | q::l,h=>by
  unfold Dr at h
  rw [aP] at h
  obtain⟨hq,hl⟩:=h
  unfold Gl
  cases h1:Dh p q with
  | true=>
   simp only [cond_true]
   refine aP.2 ⟨λ x hx=>?_,aP.2 ⟨hq,hl⟩⟩
   rcases ag.1 hx with e | e
   ·rw [e];exact h1
   ·exact Ki h1 (hq x e)
  | false=>
   cases h2:Dh q p with
   | true=>
    simp only [cond_false,cond_true]
    refine aP.2 ⟨λ x hx=>?_,Ig p hl⟩
    rcases (E8 p l x).1 hx with e | e
    ·rw [e];exact h2
    ·exact hq x e
   | false=>
    simp only [cond_false]
    exact aP.2 ⟨hq,hl⟩
theorem H5:∀ (l:List Ab) (x:Ab),x∈Ip l↔x∈l
 | [],x=>by simp [Ip]
 | p::l,x=>by
  show x∈Gl p (Ip l)↔_
  rw [E8,H5 l x,ag]
theorem Hc:∀ (l:List Ab),Dr (Ip l)
 | []=>bQ
 | p::l=>Ig p (Hc l)
theorem Iz:∀ {l m:List Ab},Dr l->Dr m->(∀ x,x∈l↔x∈m)->l=m
 | [],[],_,_,_=>rfl
 | [],q::m,_,_,h=>by have:=(h q).2 ak;cases this
 | p::l,[],_,_,h=>by have:=(h p).1 ak;cases this
 | p :: l, q :: m, hl, hm, h => by
  unfold Dr at hl hm
  rw [aP] at hl hm
  have e:p=q:=by
   have h1:=(h p).1 ak
   have h2:=(h q).2 ak
   rcases ag.1 h1 with e | e
   ·exact e
   ·rcases ag.1 h2 with e2 | e2
    ·exact e2.symm
    ·have:=Ki (hm.1 p e) (hl.1 q e2)
     rw [K5] at this;cases this
  subst e
  congr 1
  refine Iz hl.2 hm.2 λ x=>?_
  constructor
  ·intro hx
   rcases ag.1 ((h x).1 (al p hx)) with e | e
   ·have:=hl.1 x hx
    rw [e,K5] at this;cases this
   ·exact e
  ·intro hx
   rcases ag.1 ((h x).2 (al p hx)) with e | e
   ·have:=hm.1 x hx
    rw [e,K5] at this;cases this
   ·exact e
def Ek (a b:Ab):Bool:=a.Kind==b.Kind&&a.Number==b.Number
theorem De {a b:Ab}:Ek a b=true↔a=b:=by
 unfold Ek
 simp only [ab,dG]
 exact⟨λ h=>Aif h.1 h.2,λ h=>by rw [h];exact⟨rfl,rfl⟩⟩
def Df (l:List Ab) (p:Ab):Bool:=l.any λ x=>Ek x p
theorem Gc {l:List Ab} {p:Ab}:Df l p=true↔p∈l:=by
 unfold Df
 rw [List.any_eq_true]
 constructor
 ·rintro⟨x,hx,h⟩
  rw [De] at h;rw [←h];exact hx
 ·intro h
  exact⟨p,h,De.2 rfl⟩
def toP (L:List A6) (p:Ab):List Ab:=(L.filter λ x=>Ek x.From p).map (·.To)
def Ha (L:List A6):Nat->List Ab->List Ab->Option (List Ab)
 | _,seen,[]=>some seen
 | 0,_,_::_=>none
 | n+1,seen,p::next=>bif Df seen p then Ha L n seen next else Ha L n (p::seen) (next++toP L p)
inductive Led (L:List A6) (b:List Ab):Ab->Prop
 | at {p:Ab} (h:p∈b):Led L b p
 | by {p q:Ab} (h:Led L b p) (x:A6) (hx:x∈L) (h1:x.From=p) (h2:x.To=q):Led L b q
theorem Zz {L:List A6} {p q:Ab}:q∈toP L p↔∃ x,x∈L/\x.From=p/\x.To=q:=by
 unfold toP
 rw [ao]
 constructor
 ·rintro⟨x,hx,h⟩
  rw [ax] at hx
  exact⟨x,hx.1,De.1 hx.2,h⟩
 ·rintro⟨x,h1,h2,h3⟩
  exact⟨x,ax.2 ⟨h1,De.2 h2⟩,h3⟩
theorem Asj (L:List A6) (b:List Ab):∀ (n:Nat) (seen next r:List Ab),Ha L n seen next=some r->(∀ p,p∈seen->Led L b p)->(∀ p,p∈next->Led L b p) ->
  (∀ p,p∈seen->∀ q,q∈toP L p->q∈seen\/q∈next)->(∀ p,p∈b->p∈seen\/p∈next)->∀ p,p∈r↔Led L b p:=by
 have close:∀ (seen:List Ab),(∀ p,p∈seen->Led L b p)->(∀ p,p∈seen->∀ q,q∈toP L p->q∈seen)->(∀ p,p∈b->p∈seen)->∀ p,p∈seen↔Led L b p:=λ seen h1 h2 h3 p=>by
  refine⟨h1 p,λ h=>?_⟩
  induction h with
  | «at» h=>exact h3 _ h
  | «by» h x hx e1 e2 ih=>exact h2 _ ih _ (Zz.2 ⟨x,hx,e1,e2⟩)
 intro n
 induction n with
 | zero=>
  intro seen next r h h1 h2 h3 h4
  cases next with
  | nil=>
   simp only [Ha,ah] at h
   subst h
   exact close seen h1 (λ p hp q hq=>(h3 p hp q hq).resolve_right (by simp)) λ p hp=>(h4 p hp).resolve_right (by simp)
  | cons p next=>simp [Ha] at h
 | succ n ih=>
  intro seen next r h h1 h2 h3 h4
  cases next with
  | nil=>
   simp only [Ha,ah] at h
   subst h
   exact close seen h1 (λ p hp q hq=>(h3 p hp q hq).resolve_right (by simp)) λ p hp=>(h4 p hp).resolve_right (by simp)
  | cons p next=>
   unfold Ha at h
   cases hs:Df seen p with
   | true=>
    rw [hs] at h
    simp only [cond_true] at h
    have hm:=Gc.1 hs
    refine ih seen next r h h1 (λ q hq=>h2 q (al p hq)) (λ q hq z hz=>?_) λ q hq=>?_
    ·rcases h3 q hq z hz with e | e
     ·exact .inl e
     ·rcases ag.1 e with e | e
      ·exact .inl (e ▸ hm)
      ·exact .inr e
    ·rcases h4 q hq with e | e
     ·exact .inl e
     ·rcases ag.1 e with e | e
      ·exact .inl (e ▸ hm)
      ·exact .inr e
   | false=>
    rw [hs] at h
    simp only [cond_false] at h
    have hp:=h2 p ak
    refine ih (p::seen) (next++toP L p) r h (λ q hq=>?_) (λ q hq=>?_) (λ q hq z hz=>?_) λ q hq=>?_
    ·rcases ag.1 hq with e | e
     ·rw [e];exact hp
     ·exact h1 q e
    ·rcases am.1 hq with e | e
     ·exact h2 q (al p e)
     ·obtain⟨x,x1,x2,x3⟩:=Zz.1 e
      exact .by hp x x1 x2 x3
    ·rcases ag.1 hq with e | e
     ·subst e;exact .inr (bi _ hz)
     ·rcases h3 q e z hz with e | e
      ·exact .inl (al p e)
      ·rcases ag.1 e with e | e
       ·exact .inl (by rw [e];exact ak)
       ·exact .inr (bf _ e)
    ·rcases h4 q hq with e | e
     ·exact .inl (al p e)
     ·rcases ag.1 e with e | e
      ·exact .inl (by rw [e];exact ak)
      ·exact .inr (bf _ e)
def O1 (L:List A6) (seen:List Ab):List A6:=L.filter λ x=>!Df seen x.From
theorem S5 (p:Ab) (seen:List Ab) (hp:Df seen p=false):∀ L:List A6,(O1 L (p::seen)).length+(toP L p).length=(O1 L seen).length
 | []=>rfl
 | x::L=>by
  have ih:=S5 p seen hp L
  unfold O1 toP at ih ⊢
  rw [au] at ih ⊢
  have e:Df (p::seen) x.From=(Ek p x.From || Df seen x.From):=rfl
  rw [aT,aT,aT,e]
  cases h1:Ek x.From p with
  | true=>
   have hx:=De.1 h1
   have h2:Ek p x.From=true:=De.2 hx.symm
   have h3:Df seen x.From=false:=by rw [hx];exact hp
   rw [h2,h3]
   simp only [Bool.true_or,aR,Bool.not_false,if_true,bm,if_false,aL]
   omega
  | false=>
   have h2:Ek p x.From=false:=by
    cases h:Ek p x.From with
    | false=>rfl
    | true=>rw [De.1 h] at h1;rw [De.2 rfl] at h1;cases h1
   rw [h2]
   cases h3:Df seen x.From with
   | true=>
    simp only [aV,aR,bm,if_false]
    exact ih
   | false=>
    simp only [aV,Bool.not_false,if_true,bm,if_false,aL]
    omega
theorem Ot (L:List A6):∀ (n:Nat) (seen next:List Ab),next.length+(O1 L seen).length<=n->∃ r,Ha L n seen next=some r
 | 0,seen,[],_=>⟨seen,rfl⟩
 | n+1,seen,[],_=>⟨seen,rfl⟩
 | 0,seen,p::next,h=>by simp at h
 | n+1,seen,p::next,h=>by
  simp only [aL] at h
  unfold Ha
  cases hs:Df seen p with
  | true=>simp only [cond_true];exact Ot L n seen next (by omega)
  | false=>
   simp only [cond_false]
   have:=S5 p seen hs L
   exact Ot L n (p::seen) (next++toP L p) (by rw [aF];omega)
theorem Ru (L:List A6):∀ (n:Nat) (seen next r:List Ab),Ha L n seen next=some r->seen.Nodup->r.Nodup
 | 0,seen,[],r,h,hn=>by simp only [Ha,ah] at h;rw [←h];exact hn
 | n+1,seen,[],r,h,hn=>by simp only [Ha,ah] at h;rw [←h];exact hn
 | 0,seen,p::next,r,h,_=>by simp [Ha] at h
 | n+1,seen,p::next,r,h,hn=>by
  unfold Ha at h
  cases hs:Df seen p with
  | true=>rw [hs] at h;exact Ru L n seen next r h hn
  | false=>
   rw [hs] at h
   refine Ru L n (p::seen) _ r h (List.nodup_cons.2 ⟨λ hm=>?_,hn⟩)
   rw [Gc.2 hm] at hs;cases hs
def Hn (L:List A6) (b:List Ab):List Ab:=match Ha L (b.length+L.length) [] b with
 | some r=>Ip r
 | none=>[]
theorem Ye (L:List A6) (b:List Ab):Dr (Hn L b):=by
 unfold Hn
 split
 ·exact Hc _
 ·exact bQ
theorem Mw (L:List A6) (b:List Ab) (p:Ab):p∈Hn L b↔Led L b p:=by
 have e:(O1 L []).length=L.length:=by
  unfold O1
  have:(L.filter λ x=>!Df [] x.From)=L:=cC.2 λ x _=>rfl
  rw [this]
 obtain⟨r,hr⟩:=Ot L (b.length+L.length) [] b (by omega)
 unfold Hn
 rw [hr]
 simp only
 rw [H5]
 exact Asj L b _ [] b r hr (by simp) (λ q hq=>.at hq) (by simp) (λ q hq=>.inr hq) p
def Kc (a b:List Ab):List Ab:=Ip (a++b)
end Go.Proofs.YtiaaaghdkhnonaaGreat
