import Derived.Test.YtiaaaghdkhnonaaGreatRt
set_option linter.unusedVariables false
namespace Go.SL
variable{t:Nat}
section
variable{P:Program}{ro:Option Nat}{n:Nat}{st st':St}{S S' T:Nat->Prop}{a a':Act}{w w':World}{Q:Exit->Act->World->Prop}
def Pu(n:Nat)(S:Nat->Prop)(st:St)(a:Act)(w:World):Prop:=
 a.defers=[]/\a.tmps.size=n/\Co S w [] a (mkL st)/\Qu S w/\∀k,S k->k<w.heap.size
structure Ext(S:Nat->Prop)(w:World)(S':Nat->Prop)(w':World):Prop where
 sub:∀k,S k->S' k
 new:∀k,S' k->S k\/w.heap.size<=k/\∃vs t f,w'.heap[k]?=some (.cells vs t f)
 gr:w.grownBy w' none
 dr:drw=true->w.drawn<=w'.drawn
theorem Pu.run{items:List It}(hm:Pu n S st a w)(h:∀D:Ctx,D.h=[]->D.df=[]->(∀st' R' a' w',Ol 0 st'=true->Sat n D (mkL st') R' a' w'->∃S',Ext S w S' w'/\Pu n S' st' a' w')->WI ro P n D Q items st []):Qs ro P items Q .normal a w:=by
 obtain⟨h1,h2,h3,h4,h5⟩:=hm;have hst:Start S w [] []:=⟨rfl,λi r x h=>by simp at h,λi j r r' x x' b _ h=>by simp at h,λi r x b h=>by simp at h,h5,h4⟩;refine h ⟨w,S,Em [] [],[],[]⟩ rfl rfl (λst' R' a' w' hb hs=>?_) a w ⟨h1,h2,S,[],hst.inv,h3⟩;obtain⟨k1,k2,S1,ρ1,k3,k4⟩:=hs;have hF:∀b,¬Em ([]:eU) ([]:List Res) b:=λb ⟨i,r,x,g,_⟩=>by simp at g
 have hw:∀b,b<w.heap.size->w'.heap[b]?=w.heap[b]?:=λb hb=>k3.frm b hb (hF b);have hsub:∀k,S k->(S1 k/\(k<w.heap.size\/∃vs t f,w'.heap[k]?=some (.cells vs t f))):=λk hk=>⟨k3.sub k hk,.inl (h5 k hk)⟩;refine⟨λk=>S1 k/\(k<w.heap.size\/∃vs t f,w'.heap[k]?=some (.cells vs t f)),⟨hsub,λk hk=>?_,⟨k3.os,k3.tape.1,k3.output,k3.size,λb hb _=>hw b hb⟩,k3.tape.2⟩,k1,k2,λe he=>?_,h4.mono hsub (λb hb=>hw b (h5 b hb)),λk hk=>(k3.sup k hk.1).1⟩
 .rcases(k3.sup k hk.1).2 with q|q|q
  .exact .inl q
  .exact(hF k q).elim
  .have q:w.heap.size<=k:=q;rcases hk.2 with p|p
   .omega
   .exact .inr ⟨q,p⟩
 .obtain⟨q1,q2⟩:=k4 e he;refine⟨λhp=>?_,q2⟩;obtain⟨x,hx,hr⟩:=q1 hp;exact⟨x,hx,(hr.trim (T:=λk=>S1 k/\(k<w.heap.size\/∃vs t f,w'.heap[k]?=some (.cells vs t f))) λk hS hc=>⟨hS,.inr hc⟩).monoK (k:=0) (λ_ h=>h) (λ_ _=>rfl) (λi v hi=>by omega) (Ka hb he)⟩
theorem Pu.put(h:Pu n S st a w)(v:Value)(av:AV)(ht:t<n)(hav:RdA S w [] v av):Pu n S ((t,av)::st.filter λx=>!(Nat.beq x.1 t)) (a.put (some t) v) w:=by
 obtain⟨h1,h2,i2,i3,i4⟩:=h;refine⟨h1,by simp[Act.put,h2],λe he=>?_,i3,i4⟩;rcases ag.1 he with rfl|he
 .exact⟨λ_=>⟨v,Jg (by rw[h2];exact ht),hav⟩,λhn=>absurd Cd hn⟩
 .obtain⟨m1,m2⟩:=Ku he;rw[ar]at m1;obtain⟨m3,m4⟩:=m1;have hne:t≠e.t:=by
   intro q;subst q;simp at m4
  have he':=O3 m3;obtain⟨q1,q2⟩:=i2 _ he';obtain⟨x,hx,hr⟩:=q1 Cd;refine⟨λ_=>⟨x,by rw[Hm hne];exact hx,hr⟩,λhn=>absurd (by rw[m2];exact Cd) hn⟩
theorem Pu.put0(h:Pu n S st a w)(v:Value)(hk:(Jj st).all (λu=>!(Nat.beq u t))=true):Pu n S st (a.put (some t) v) w:=by
 obtain⟨h1,h2,i2,i3,i4⟩:=h;refine⟨h1,by simp[Act.put,h2],λe he=>?_,i3,i4⟩;have hne:t≠e.t:=by intro q;have:=(aG.1 hk) e.t (yJ he);rw[q]at this;simp at this
 obtain⟨q1,q2⟩:=i2 _ he;obtain⟨x,hx,hr⟩:=q1 (by rw[D9 he];exact Cd);exact⟨λ_=>⟨x,by rw[Hm hne];exact hx,hr⟩,λhn=>absurd (by rw[D9 he];exact Cd) hn⟩
theorem Pu.sub(h:Pu n S st a w)(ts:eR)(hs:sel (mkL st) ts=some st'):Pu n S st' a w:=by obtain⟨h1,h2,i2,i3,i4⟩:=h;exact⟨h1,h2,λe he=>i2 e (On hs e he),i3,i4⟩
theorem Pu.get(h:Pu n S st a w){av:AV}(hc:(Eu (mkL st) t).map Ent.v=some av):RdA S w [] (a.eval (.tmp t)) av:=by
 obtain⟨h1,h2,i2,_,_⟩:=h;cases he:Eu (mkL st) t with
 |none=>rw[he]at hc;cases hc
 |some e=>
  rw[he]at hc;simp only[be,ah]at hc;obtain⟨hm,hte⟩:=Dh he;obtain⟨v,hv,hr⟩:=(i2 e hm).1 (by rw[D9 hm];exact Cd);rw[hc]at hr;rw[hte]at hv;have:a.eval (.tmp t)=v:=by simp[Act.eval,eu,hv]
  rw[this];exact hr
theorem Pu.mono(h:Pu n S st a w)(hw:∀k,S k->w'.heap[k]?=w.heap[k]?)(hs:w.heap.size<=w'.heap.size):Pu n S st a w':=by obtain⟨h1,h2,i2,i3,i4⟩:=h;refine⟨h1,h2,λe he=>?_,i3.mono (λ_ h=>h) hw,λk hk=>aJ (i4 k hk) hs⟩;obtain⟨q1,q2⟩:=i2 e he;refine⟨λhp=>?_,q2⟩;obtain⟨x,hx,hr⟩:=q1 hp;exact⟨x,hx,hr.mono (λ_ h=>h) hw (Pre.refl _)⟩
theorem ju{α:Type}{J:List α->(Nat->Prop)->World->Prop}{pre:List α}(hJ:∀pre T T' A A',J pre T A->A.grownBy A' none->(drw=true->A.drawn<=A'.drawn)->(∀k,T' k->T k\/A.heap.size<=k/\∃vs t f,A'.heap[k]?=some (.cells vs t f))->J pre T' A')
  {st0:St}{a0:Act}(h0:Pu n (λk=>S k\/T k) st0 a0 w)(h:J pre T w)(hE:Ext (λk=>S k\/T k) w S' w')(hP:Pu n S' st a' w'):∃T',J pre T' w'/\Pu n (λk=>S k\/T' k) st a' w':=by
 have hn:∀k,w.heap.size<=k->S' k->∃vs t f,w'.heap[k]?=some (.cells vs t f):=λk g1 g2=>by
  rcases hE.new k g2 with q|q
  .have:=h0.2.2.2.2 k q;omega
  .exact q.2
 refine⟨λk=>T k\/(w.heap.size<=k/\S' k),hJ pre T _ w w' h hE.gr hE.dr (λk hk=>hk.imp id λ⟨g1,g2⟩=>⟨g1,hn k g1 g2⟩),?_⟩
 .have:(λk=>S k\/T k\/(w.heap.size<=k/\S' k))=S':=by
   funext k;refine propext ⟨λh=>?_,λh=>?_⟩
   .rcases h with h|h|h
    .exact hE.sub k (.inl h)
    .exact hE.sub k (.inr h)
    .exact h.2
   .rcases hE.new k h with q|q
    .exact q.elim .inl λq=>.inr (.inl q)
    .exact .inr (.inr ⟨q.1,h⟩)
  rw[this];exact hP
end
end Go.SL
