import Derived.Test.YtedojeimigneaaaGreatDoorSlV
namespace Go.SL
variable{B b:Nat}{h x:Value}
section
variable{P:Program}{n:Nat}{C:Ctx}{S S' T:Nat->Prop}{w w':World}{ρ ρ':eA}{R R':List Res}{a:Act}
theorem Lj{F:Fence}{m m':Nat}(hF:F.depth=none){c:Code}{Q:Exit->Act->World->Prop}(h:c.wpIn F m P Q a w):c.wpIn F m' P Q a w:=by intro b k cs h1 h2 _;exact h b k cs h1 h2 (λd hd=>by rw[hF]at hd;cases hd)
theorem Ic{r:Res}(hr:r.ok S w ρ h)(hf:r.foot h b):∃vs t f,w.heap[b]?=some (.cells vs t f):=by
 rcases hr with hd|hr
 .exact absurd hf (dg hd _)
 .cases r with
  |box t cells=>obtain⟨b',vs,rfl,hb,_⟩:=hr;simp[Res.foot]at hf;subst hf;exact⟨_,_,_,hb⟩
  | sl e size rows=>
   rcases hr with⟨rfl,_⟩|⟨b',o,cap,vs,rfl,hb,_⟩
   .simp[Res.foot]at hf
   .simp[Res.foot]at hf;subst hf;obtain⟨_,hb,_⟩:=hb;exact⟨_,_,_,hb⟩
  |vec e size cells=>obtain⟨b',o,len,cap,vs,rfl,hb,_⟩:=hr;simp[Res.foot,D3]at hf;subst hf;obtain⟨_,hb,_⟩:=hb;exact⟨_,_,_,hb⟩
  |zsl e size rows=>
   rcases hr with⟨rfl,_⟩|⟨b',o,cap,vs,rfl,hb,_⟩
   .exact hf.elim
   .cases hf;exact⟨_,_,_,hb⟩
  |dsl e size g=>
   obtain⟨f,xs,cs,_,hr⟩:=hr;rcases hr with⟨rfl,_⟩|⟨b',o,len,cap,vs,rfl,hb,_⟩
   .exact hf.elim
   .cases hf;exact⟨_,_,_,hb⟩
  | gh size tys rows hole=>
   obtain⟨f,xs,cs,rfl,k1,k2,k3,_⟩:=hr;obtain⟨k,x,h1,h2,h3⟩:=hf;have hk:k<rows.length*size:=by rw[←k2];exact(aL.1 h1).1
   have hs:0<size:=by
    rcases Nat.eq_zero_or_pos size with h|h
    .rw[h]at hk;omega
    .exact h
   have hkl:k / size<rows.length:=(Nat.div_lt_iff_lt_mul hs).2 hk;have hrow:=ak hkl;have hrl:=k1 _ (ag hrow);have hj:k % size<(rows[k / size]).length:=by rw[hrl];exact Nat.mod_lt _ hs
   obtain⟨x',g1,g2⟩:=k3 _ _ hrow (k % size) _ (ak hj);have hdm:k / size*size+k % size=k:=by rw[Nat.mul_comm];exact Nat.div_add_mod k size
   rw[hdm]at g1 g2;rw[h1]at g1;cases g1;generalize (rows[k / size])[k % size]=d at g2;cases d with
   |v y=>
    obtain⟨rfl,_,hn⟩:=g2;unfold D3 at h3;split at h3
    .exact hn.elim
    .exact h3.elim
   |s r=>obtain⟨e,s,_,hsl⟩:=g2.2 h2;obtain⟨vs,_,hb,_⟩:=Ai6 hsl h3;exact⟨_,_,_,hb⟩
  |non=>exact hf.elim
theorem Inv.seg(h:Inv C S w ρ R)(hh:eA)(hp:Pre hh ρ)(df:List Deferred)(hm:Aqg ⟨w,S,Ei ρ R,hh,df⟩):Inv ⟨w,S,Ei ρ R,hh,df⟩ S w ρ R where
 len:=h.len
 ok:=h.ok
 dis:=h.dis
 own i r v b h1 h2 h3:=⟨(h.own i r v b h1 h2 h3).1,(h.own i r v b h1 h2 h3).2.1,.inl ⟨i,r,v,h1,h2,h3⟩⟩
 sub _ h:=h
 sup b hb:=⟨(h.sup b hb).1,.inl hb⟩
 frm _ _ _:=rfl
 size:=ai _
 os:=rfl
 tape:=⟨rfl,λ_=>ai _⟩
 output:=rfl
 pre:=hp
 gl:=⟨h.glOk,λb hb=>⟨(h.sup b hb).1,λ⟨i,r,v,h1,h2,h3⟩=>(h.own i r v b h1 h2 h3).1 hb⟩,hm⟩
theorem Inv.trans(h:Inv C S w ρ R){hh:eA}{df:List Deferred}(k:Inv ⟨w,S,Ei ρ R,hh,df⟩ S' w' ρ' R')(hp:Pre C.h ρ'):Inv C S' w' ρ' R' where
 len:=k.len
 ok:=k.ok
 dis:=k.dis
 own i r v b h1 h2 h3:=by
  obtain⟨k1,k2,k3⟩:=k.own i r v b h1 h2 h3;refine⟨k1,k2,?_⟩;rcases k3 with⟨j,r',v',g1,g2,g3⟩|k3
  .exact(h.own j r' v' b g1 g2 g3).2.2
  .exact .inr (ay h.size k3)
 sub b hb:=k.sub b (h.sub b hb)
 sup b hb:=by
  obtain⟨k1,k2⟩:=k.sup b hb;refine⟨k1,?_⟩;rcases k2 with k2|⟨j,r',v',g1,g2,g3⟩|k2
  .exact(h.sup b k2).2
  .exact .inr ((h.own j r' v' b g1 g2 g3).2.2)
  .exact .inr (.inr (ay h.size k2))
 frm b hb hf:=by
  refine(k.frm b (aE hb h.size) λ⟨j,r',v',g1,g2,g3⟩=>?_).trans (h.frm b hb hf);rcases(h.own j r' v' b g1 g2 g3).2.2 with q|q
  .exact hf q
  .omega
 size:=ay h.size k.size
 os:=k.os.trans h.os
 tape:=k.tape.trans h.tape
 output:=k.output.trans h.output
 pre:=hp
 gl:=h.gl
theorem RdP.trim{d:Pd}(h:RdP S w x d)(hT:∀k,S k->(∃vs t f,w.heap[k]?=some (.cells vs t f))->T k):RdP T w x d:=by
 induction h with
 |v x h=>exact .v x h
 |s a ad cap size rows xs hc hm hz hsz hx hr ih=>
  refine .s a ad cap size rows xs hc hm hz hsz (λi row hi j d hj=>?_) ih;obtain⟨h1,h2,h3⟩:=hx i row hi j d hj;refine⟨h1,hT _ h2 ?_,h3⟩;unfold World.cell? at h3;rw[Dh]at h3;split at h3
  .rename_i vs t f hb;exact⟨vs,t,f,hb⟩
  .cases h3
theorem Fy.trim{ad:Addr}{ds:List Pd}(h:Fy S w ad ds)(hT:∀k,S k->(∃vs t f,w.heap[k]?=some (.cells vs t f))->T k):Fy T w ad ds:=by
 intro j d hj;obtain⟨x,h1,h2,h3⟩:=h j d hj;refine⟨x,hT _ h1 ?_,h2,h3.trim hT⟩;unfold World.cell? at h2;rw[Dh]at h2;split at h2
 .rename_i vs t f hb;exact⟨vs,t,f,hb⟩
 .cases h2
theorem Rd.trim{d:D}(h:Rd S w ρ x d)(hT:∀k,S k->(∃vs t f,w.heap[k]?=some (.cells vs t f))->T k):Rd T w ρ x d:=by
 induction h with
 |p h=>exact .p (h.trim hT)
 |o h=>exact .o h
 |os h h1=>exact .os h h1
 |oe h=>exact .oe h
 |osb h h1 h2 h3 h4=>exact .osb h h1 h2 h3 h4
 |oi h h1 h2=>exact .oi h h1 h2
 |any h=>exact .any h
 |nq h=>exact .nq h
 |ip h=>exact .ip (h.trim hT)
 |fn hl hm _ _ ih1 ih2=>exact .fn hl hm ih1 ih2
 |fb hl h=>exact .fb hl λj x d h1 h2=>(h j x d h1 h2).trim hT
theorem RdA.trim{d:AV}(h:RdA S w ρ x d)(hT:∀k,S k->(∃vs t f,w.heap[k]?=some (.cells vs t f))->T k):RdA T w ρ x d:=by
 induction h with
 |d h=>exact .d (h.trim hT)
 |agg h=>exact .agg (h.mono λ_ _ h=>h.trim hT)
 |tup hl _ ih=>exact .tup hl ih
theorem Inv.trim(h:Inv C S w ρ R)(hT:∀k,S k->(∃vs t f,w.heap[k]?=some (.cells vs t f))->T k)(hTS:∀k,T k->S k)(hC:∀k,C.S k->T k):Inv C T w ρ R where
 len:=h.len
 ok i r v h1 h2 := by
  rcases h.ok i r v h1 h2 with k|k
  .exact .inl k
  .refine .inr ?_;cases r with
   |box t cells=>obtain⟨b,vs,rfl,hb,hc⟩:=k;exact⟨b,vs,rfl,hb,hc.mono λ_ _ h=>h.trim hT⟩
   |vec e size cells=>obtain⟨b,o,len,cap,vs,rfl,hb,hk,hc⟩:=k;exact⟨b,o,len,cap,vs,rfl,hb,hk,hc.mono λ_ _ h=>h.trim hT⟩
   | sl e size rows=>
    rcases k with k|⟨b,o,cap,vs,rfl,hb,k1,k2,k3,k4,k5⟩
    .exact .inl k
    .refine .inr ⟨b,o,cap,vs,rfl,hb,k1,k2,k3,k4,λi row hi j d hj=>?_⟩;obtain⟨x,hx,hr⟩:=k5 i row hi j d hj;exact⟨x,hx,hr.trim hT⟩
   |zsl e size rows=>exact k
   |dsl e size g=>exact k
   | gh size tys rows hole=>
    obtain⟨f,xs,cs,rfl,k1,k2,k3,k4⟩:=k;refine⟨f,xs,cs,rfl,k1,k2,λi row hi j d hj=>?_,k4⟩;obtain⟨x,hx,hg⟩:=k3 i row hi j d hj;refine⟨x,hx,?_⟩;cases d with
    |v y=>exact hg
    | s r=>
     refine⟨hg.1,λhn=>?_⟩;obtain⟨e,s,h1,hsl⟩:=hg.2 hn;refine⟨e,s,h1,?_⟩;rcases hsl with hsl|⟨b,o,cap,vs,rfl,hb,q1,q2,q3,q4,q5⟩
     .exact .inl hsl
     .refine .inr ⟨b,o,cap,vs,rfl,hb,q1,q2,q3,q4,λi row hi j d hj=>?_⟩;obtain⟨x,hx,hr⟩:=q5 i row hi j d hj;exact⟨x,hx,hr.trim hT⟩
   |non=>trivial
 dis:=h.dis
 own i r v b h1 h2 h3:=by obtain⟨k1,k2,k3⟩:=h.own i r v b h1 h2 h3;exact⟨λhb=>k1 (hTS b hb),k2,k3⟩
 sub:=hC
 sup b hb:=h.sup b (hTS b hb)
 frm:=h.frm
 size:=h.size
 os:=h.os
 tape:=h.tape
 output:=h.output
 pre:=h.pre
 gl:=h.gl
theorem Inv.turn(h:Inv C S w ρ R){row:Option Nat}(hg:w.grownBy w' row)(hd:drw=true->w.drawn<=w'.drawn)(hB:C.w.heap.size<=B)(hr:∀r,row=some r->B<=r/\∃o:Obj,w.heap[r]?=some o/\o.isCells=false)
  (hS:∀k,S k->k<B\/∃vs t f,w.heap[k]?=some (.cells vs t f)):Inv C S w' ρ R/\(∀k,S k->w'.heap[k]?=w.heap[k]?)/\∀k,S k->k<B\/∃vs t f,w'.heap[k]?=some (.cells vs t f):=by
 have hSs:∀k,S k->w'.heap[k]?=w.heap[k]?:=λk hk=>by
  refine hg.block k (h.sup k hk).1 λe=>?_;obtain⟨g1,o,g2,g3⟩:=hr k e.symm;rcases hS k hk with q|⟨vs,t,f,q⟩
  .omega
  .rw[g2]at q;cases q;cases g3
 refine⟨⟨h.len,λi r v h1 h2=>(h.ok i r v h1 h2).mono (λ_ h=>h) hSs (Pre.refl _) (λb hb=>?_),h.dis,λi r v b h1 h2 h3=>?_,h.sub,λb hb=>?_,λb hb hf=>?_,ay h.size hg.size,hg.os.trans h.os,Tp.trans ⟨hg.tape,hd⟩ h.tape,hg.output.trans h.output,h.pre,h.gl⟩,hSs,λk hk=>?_⟩
 .refine hg.block b (h.own i r v b h1 h2 hb).2.1 λe=>?_;obtain⟨_,o,g2,g3⟩:=hr b e.symm;obtain⟨vs,t,f,q⟩:=Ic (h.ok i r v h1 h2) hb;rw[g2]at q;cases q;cases g3
 .obtain⟨k1,k2,k3⟩:=h.own i r v b h1 h2 h3;exact⟨k1,aE k2 hg.size,k3⟩
 .exact⟨aE (h.sup b hb).1 hg.size,(h.sup b hb).2⟩
 .refine(hg.block b (aE hb h.size) λe=>?_).trans (h.frm b hb hf);have:=(hr b e.symm).1;omega
 .rcases hS k hk with q|q
  .exact .inl q
  .rw[hSs k hk];exact .inr q
end
end Go.SL
