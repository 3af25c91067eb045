import Derived.Test.YtaplakgdkkmpfaaGreatDoorPc
set_option linter.unusedVariables false
set_option linter.unusedSimpArgs false
namespace Go.Proofs.YtaplakgdkkmpfaaGreatDoor
open Go Go.RowKit Go.Shelf Go.SL
theorem Cx.get {w:World} {B:Nat}:∀ {cs:List Aa} {xs:List Value},Cx w B cs xs->∀ {i:Nat} {c:Aa},cs[i]? = some c->xs[i*2]? = some (.int .i64 c.Kind)/\∃ v,xs[i*2+1]? = some v/\D3 w B v c.Numbers
 | c0::cs,k::v::xs,⟨h1,h2,h3⟩,0,c,h=>by
  simp at h;subst h
  exact⟨by simp [h1],v,by simp,h2⟩
 | c0::cs,k::v::xs,⟨h1,h2,h3⟩,i+1,c,h=>by
  obtain⟨q1,u,q2,q3⟩:=h3.get (i:=i) (by simpa using h)
  have e1:(i+1)*2=i*2+1+1:=by omega
  rw [e1]
  exact⟨by simpa using q1,u,by simpa using q2,q3⟩
 | [],_,_,i,c,h=>by simp at h
 | _::_,[],q,_,_,_=>q.elim
 | _::_,[_],q,_,_,_=>q.elim
theorem Z8 {S:Nat->Prop} {w:World} {B:Nat} {v:Value} {cs:List Aa} {xs:List Value} (h:w.ownsRow B 26 2 v cs.length xs) (hc:Cx w B cs xs) (hS:∀ g,B<=g->g<w.heap.size->S g):RdP S w v (.s (cs.map q26)):=by
 have hl:(cs.map q26).length=cs.length:=by simp
 rcases h.2 with⟨rfl,h0⟩ | ⟨g,cap,cur,rfl,hB,hg,h1,h2,h3,h4⟩
 ·have:cs=[]:=bZ.1 h0
  subst this
  exact .s none ⟨0,0,none⟩ 0 0 [] (λ _ _=>undef) (ae _) (ba _) (λ _=>rfl) (by simp) (by simp) (by simp)
 ·have hlt:g<w.heap.size:=(aI.1 hg).1
  have at1:∀ j u,xs[j]? = some u->w.cell? ⟨g,0+j,none⟩=some u:=λ j u hj=>by
   rw [aQ]
   simp only [World.cell?,hg]
   rw [←h4,au] at hj
   split at hj
   ·rw [bD] at hj;simpa using hj
   ·cases hj
  have key:=RdP.s (S:=S) (w:=w) (some ⟨g,0,none⟩) ⟨g,0,none⟩ cap 2 (cs.map q26) (λ i j=>(xs[i*2+j]?).getD undef) (by rw [hl];exact h1) h2 (λ h=>by cases h)
   (λ row hr=>by obtain⟨x,_,rfl⟩:=aK.1 hr;rfl)
   (λ i row hi j d hj=>by
    rw [al] at hi
    obtain⟨c,hci,rfl⟩:=A5 hi
    obtain⟨q1,u,q2,q3⟩:=hc.get hci
    refine⟨rfl,hS g hB hlt,?_⟩
    rw [A3]
    match j,hj with
    | 0,hj=>rw [bf,q1];exact at1 _ _ q1
    | 1,hj=>rw [q2];exact at1 _ _ q2
    | j+2,hj=>simp [q26] at hj)
   (λ i row hi j d hj=>by
    rw [al] at hi
    obtain⟨c,hci,rfl⟩:=A5 hi
    obtain⟨q1,u,q2,q3⟩:=hc.get hci
    match j,hj with
    | 0,hj=>
     simp only [q26,List.getElem?_cons_zero,ah] at hj
     subst hj
     rw [bf,q1]
     exact .v _ rfl
    | 1,hj=>
     simp only [q26,bY,List.getElem?_cons_zero,ah] at hj
     subst hj
     rw [q2]
     exact Tm q3 hS
    | j+2,hj=>simp [q26] at hj)
  rw [hl] at key
  exact key
theorem qV (V:Aa->Option Bool) (L:Aa->Option ByteArray)
  (hV:∀ c r,V c=some r->CallOk Tryz.prog 13 [.agg (d26 c)] [] (.d (.p (.v (.bool r)))) [])
  (hL:∀ c r,L c=some r->CallOk Tryz.prog 26 [.agg (d26 c)] [] (.d (.p (.v (.string r)))) [])
  (s:ByteArray) (r:List Aa×Int×Int) (h:Jv V L s=some r) :
  CallOk Tryz.prog 20 [.d (.p (.v (.string s)))] [] (.tup [.d (DS q26 r.1),.d (I r.2.1),.d (I r.2.2)]) []:=by
 intro S w ρ vs hS hA
 obtain⟨v0,rfl,r0⟩:∃ v0,vs=[v0]/\RdA S w ρ v0 (.d (.p (.v (.string s)))):=by
  match vs,hA with
  | [v0],h=>exact⟨v0,rfl,h.1⟩
  | [],h=>exact h.elim
  | _::_::_,h=>exact h.2.elim
 have e0:=r0.exact_inv
 subst e0
 refine (Su V L hV hL s r h w (hS.gl.mono (λ b hb=>hS.sup b hb) λ _ _=>rfl)).mono λ e w' hp=>?_
 obtain⟨hb,v,xs,rfl,hr,hc⟩:=hp
 refine⟨_,(λ b=>S b\/(w.heap.size<=b/\b<w'.heap.size)),ρ,rfl,?_,hS.inv.grow (λ _ h=>.inl h) (λ b hb=>hb) hb.block hb.size hb.os hb.tape hb.output⟩
 refine .tup (vs:=[v,.int .i64 r.2.1,.int .i64 r.2.2]) rfl λ j x a hj ha=>?_
 match j,hj,ha with
 | 0,hj,ha=>
  cases hj;cases ha
  exact .d (.p (Z8 hr hc λ g h1 h2=>.inr ⟨h1,h2⟩))
 | 1,hj,ha=>
  cases hj;cases ha
  exact .d (.p (.v _ rfl))
 | 2,hj,ha=>
  cases hj;cases ha
  exact .d (.p (.v _ rfl))
 | j+3,hj,_=>simp at hj
end Go.Proofs.YtaplakgdkkmpfaaGreatDoor
