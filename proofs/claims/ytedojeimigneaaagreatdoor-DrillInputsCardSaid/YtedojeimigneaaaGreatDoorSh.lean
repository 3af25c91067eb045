import Derived.Test.YtedojeimigneaaaGreatDoorSg
set_option linter.unusedVariables false
namespace Go.SL
variable{K:Act->World->Prop}{ops:Array Oper}{is js:ey}{i t:Nat}
section
variable{P:Program}{C:Ctx}{n:Nat}{L:List Ent}{st:St}{R R':List Res}{a a':Act}{w w':World}
theorem Zi{b:Bool}(h:a.eval (.tmp t)=.bool b):a.tmps[t]?=some (.bool b):=by
 simp only[Act.eval,bt]at h;cases hq:a.tmps[t]? with
 |none=>rw[hq]at h;cases h
 |some v=>rw[hq]at h;simp only[cG]at h;rw[h]
def selP(L : List Ent) : ey -> Option St
 | []=>some []
 |t::ts=>match Ds L t with
  | some e=>bif e.p.all (λg=>match Zf L (.tmp g.1) with
    |some b=>b==g.2
    |none=>false)then (selP L ts).map ((t,e.v) :: ·) else none
  |none=>none
theorem Sat.selP(hs:Sat n C L R a w):∀{ts:ey}{st':St},selP L ts=some st'->Sat n C (mkL st') R a w:=by
 obtain⟨h1,h2,S,ρ,h3,h4⟩:=hs;intro ts st' h;refine⟨h1,h2,S,ρ,h3,?_⟩;induction ts generalizing st' with
 |nil=>simp only[Go.SL.selP,ae]at h;subst h;intro e he;cases he
 | cons t ts ih=>
  simp only[Go.SL.selP]at h;split at h
  .rename_i e0 he0;generalize hb:(e0.p.all _)=bb at h;cases bb with
   |false=>cases h
   | true=>
    simp only[eh,Option.map_eq_some_iff]at h;obtain⟨s1,h5,rfl⟩:=h;intro e he;rcases ah.1 he with rfl|he
    .obtain⟨hm,hte⟩:=C5 he0;have hp:pt a e0.p:=λg hg=>by
      have:=(aD.1 hb) g hg;split at this
      .rename_i b hf;have hbg:b=g.2:=by simpa using this
       rw[←hbg];exact Zi (Su (C:=C) ⟨h1,h2,S,ρ,h3,h4⟩ hf)
      .cases this
     obtain⟨v,hv,hr⟩:=(h4 e0 hm).1 hp;exact⟨λ_=>⟨v,by rw[←hte];exact hv,hr⟩,λhn=>absurd Bz hn⟩
    .exact ih h5 e he
  .cases h
def A34(P:Program)(n:Nat)(ops:Array Oper)(is:ey)(st:St)(R:List Res)(cls:List Cl)(ts:ey):Option (St×List Res×List Cl):=
 match Pw P n ops is (mkL st) R cls with
 |some (L,R',cs)=>match selP L ts with
  |some st'=>some (st',R',cs)
  |none=>none
 |none=>none
theorem Md.opsP{cls:List Cl}(hm:Md n C st R a w)(ts:ey)(st':St)(R':List Res)(hok:Da P cls)(e:A34 P n ops is st R cls ts=some (st',R',cls))
  (hK:∀a' w',Md n C st' R' a' w'->Kp w w'->C4 P ops K js a' w'):C4 P ops K (is++js) a w:=by
 refine Rw ?_;obtain⟨h1,h2,S,ρ,i1,i2,i3,i4⟩:=hm;have hseg:=i1.seg C.h i1.pre [] λd hd=>by cases hd
 unfold A34 at e;split at e
 .rename_i L R1 cs e1;split at e
  .rename_i s1 e2;simp only[ae,al]at e;obtain⟨rfl,rfl,rfl⟩:=e;refine O5 (C:=⟨w,S,Ei ρ R,C.h,[]⟩) e1 hok ⟨h1,h2,S,ρ,hseg,i2⟩ λa' w' hs=>?_;obtain⟨k1,k2,S',ρ',k3,k4⟩:=hs.selP e2;have hT:=i1.trans k3 k3.pre;refine hK a' w' ⟨k1,k2,λk=>S' k/\(k<C.w.heap.size\/∃vs t f,w'.heap[k]?=some (.cells vs t f)),ρ',hT.trim (λk hS hc=>⟨hS,.inr hc⟩) (λ_ h=>h.1) (λk hC=>⟨hT.sub k hC,.inl (i1.gl.2.1 k hC).1⟩),λe he=>?_,λ_ h=>h.elim,λk h=>h.2⟩ ⟨λk o ho hc=>?_,k3.size,k3.tape⟩
   .obtain⟨q1,q2⟩:=k4 e he;exact⟨λhp=>by obtain⟨x,hx,hr⟩:=q1 hp;exact⟨x,hx,hr.trim λk hS hc=>⟨hS,.inr hc⟩⟩,q2⟩
   .refine(k3.frm k (aL.1 ho).1 λ⟨i,r,v,g1,g2,g3⟩=>?_).trans ho;obtain⟨vs,t,f,q⟩:=Ic (i1.ok i r v g1 g2) g3;rw[ho]at q;cases q;cases hc
  .cases e
 .cases e
theorem A1o{d:Option Tmp}{op:Op}(v:Value)(w':World)(ty:TypeId)(j t:Nat)(b:Bool)(ho:(ops[i]?).map (λo=>(o.dst,o.op,o.type,o.guard))=some (d,op,ty,some (j,b)))
  (hj:(ops[j]?).bind (·.dst)=some t)(hb:a.eval (.tmp t)=.bool b)(hd:∀c,op ≠ .defer c)(hr:∀o:Oper,o.op=op->o.type=ty->(execOp a.eval o).run P w=.ok (.value v) w')(hK:C4 P ops K is (a.put d v) w'):C4 P ops K (i::is) a w:=by
 cases hq:ops[i]? with
 |none=>rw[hq]at ho;cases ho
 | some o=>
  rw[hq]at ho;simp only[aU,ae,al]at ho;obtain⟨h1,h2,h4,h3⟩:=ho;show Gp P ops i _ a w;unfold Gp;rw[hq];simp only;rw[ei (by unfold Region.wanted yielded;rw[h3];simp only[hj,aj,Zi hb];cases b <;> simp)]
  exact⟨λc e=>hd c (h2 ▸ e),De (hr o h2 h4) (by rw[h1];exact hK)⟩
end
end Go.SL
