import Derived.Test.YtedojeimigneaaaGreatDoorTy
set_option linter.unusedVariables false
namespace Go.Proofs.YtedojeimigneaaaGreatDoor
open Go.SL
variable{a b p:Aa}
def Ew(a b:Aa):Bool:=decide (a.Kind<b.Kind) || (a.Kind==b.Kind&&decide (a.Number<b.Number))
theorem Az5(h1:a.Kind=b.Kind)(h2:a.Number=b.Number):a=b:=by cases a;cases b;simp only at h1 h2;subst h1;subst h2;rfl
theorem Lr:Ew a b=true↔a.Kind<b.Kind\/a.Kind=b.Kind/\a.Number<b.Number:=by unfold Ew;simp only[aS,aa,dM,dQ]
theorem Aca(a b:Aa):Ew a b=true\/a=b\/Ew b a=true:=by
 rw[Lr,Lr];rcases Int.lt_trichotomy a.Kind b.Kind with h|h|h
 .exact .inl (.inl h)
 .rcases Int.lt_trichotomy a.Number b.Number with g|g|g
  .exact .inl (.inr ⟨h,g⟩)
  .exact .inr (.inl (Az5 h g))
  .exact .inr (.inr (.inr ⟨h.symm,g⟩))
 .exact .inr (.inr (.inl h))
theorem Sd(a:Aa):Ew a a=false:=by
 cases h:Ew a a with
 |false=>rfl
 |true=>rw[Lr]at h;omega
theorem Nt{c:Aa}(h1:Ew a b=true)(h2:Ew b c=true):Ew a c=true:=by rw[Lr]at *;omega
def K_(p:Aa):List Aa->List Aa
 | []=>[p]
 |q::l=>bif Ew p q then p::q::l else bif Ew q p then q::K_ p l else q::l
def Fe(l:List Aa):Prop:=l.Pairwise λa b=>Ew a b=true
theorem Jg(p:Aa):∀(l:List Aa)(x:Aa),x∈K_ p l↔x=p\/x∈l
 | [],x=>by simp[K_]
 | q :: l, x => by
  unfold K_;cases h1:Ew p q with
  |true=>simp
  | false=>
   cases h2:Ew q p with
   | true=>
    simp only[eg,eh,ah,Jg p l x];constructor
    .rintro (h|h|h)
     .exact .inr (.inl h)
     .exact .inl h
     .exact .inr (.inr h)
    .rintro (h|h|h)
     .exact .inr (.inl h)
     .exact .inl h
     .exact .inr (.inr h)
   | false=>
    have e:p=q:=by
     rcases Aca p q with h|h|h
     .rw[h1]at h;cases h
     .exact h
     .rw[h2]at h;cases h
    subst e;simp
theorem Lw(p:Aa):∀{l:List Aa},Fe l->Fe (K_ p l)
 | [],_=>by simp[K_,Fe]
 | q::l,h=>by
  unfold Fe at h;rw[aI]at h;obtain⟨hq,hl⟩:=h;unfold K_;cases h1:Ew p q with
  |true=>
   simp only[eh];refine aI.2 ⟨λx hx=>?_,aI.2 ⟨hq,hl⟩⟩;rcases ah.1 hx with e|e
   .rw[e];exact h1
   .exact Nt h1 (hq x e)
  | false=>
   cases h2:Ew q p with
   |true=>
    simp only[eg,eh];refine aI.2 ⟨λx hx=>?_,Lw p hl⟩;rcases(Jg p l x).1 hx with e|e
    .rw[e];exact h2
    .exact hq x e
   |false=>simp only[eg];exact aI.2 ⟨hq,hl⟩
theorem Tb:∀{l m:List Aa},Fe l->Fe m->(∀x,x∈l↔x∈m)->l=m
 | [],[],_,_,_=>rfl
 | [],q::m,_,_,h=>by have:=(h q).2 an;cases this
 |p::l,[],_,_,h=>by have:=(h p).1 an;cases this
 | p :: l, q :: m, hl, hm, h => by
  unfold Fe at hl hm;rw[aI]at hl hm;have e:p=q:=by
   have h1:=(h p).1 an;have h2:=(h q).2 an;rcases ah.1 h1 with e|e
   .exact e
   .rcases ah.1 h2 with e2|e2
    .exact e2.symm
    .have:=Nt (hm.1 p e) (hl.1 q e2);rw[Sd]at this;cases this
  subst e;congr 1;refine Tb hl.2 hm.2 λx=>?_;constructor
  .intro hx;rcases ah.1 ((h x).1 (am p hx)) with e|e
   .have:=hl.1 x hx;rw[e,Sd]at this;cases this
   .exact e
  .intro hx;rcases ah.1 ((h x).2 (am p hx)) with e|e
   .have:=hm.1 x hx;rw[e,Sd]at this;cases this
   .exact e
def Gv(a b:Aa):Bool:=a.Kind==b.Kind&&a.Number==b.Number
theorem Hb:Gv a b=true↔a=b:=by unfold Gv;simp only[aa,dQ];exact⟨λh=>Az5 h.1 h.2,λh=>by rw[h];exact⟨rfl,rfl⟩⟩
def La(l:List Aa)(p:Aa):Bool:=l.any λx=>Gv x p
theorem Oz{l:List Aa}:La l p=true↔p∈l:=by
 unfold La;rw[List.any_eq_true];constructor
 .rintro⟨x,hx,h⟩;rw[Hb]at h;rw[←h];exact hx
 .intro h;exact⟨p,h,Hb.2 rfl⟩
inductive Led(L:List Bl)(b:List Aa):Aa->Prop
 |at {p:Aa} (h:p∈b):Led L b p
 |by {p q:Aa} (h:Led L b p) (x:Bl) (hx:x∈L) (h1:x.From=p) (h2:x.To=q):Led L b q
end Go.Proofs.YtedojeimigneaaaGreatDoor
