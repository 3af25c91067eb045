import Derived.Test.YtedojeimigneaaaGreatDoorSlG
import Derived.Lib.ConvBytes
import Derived.Lib.AppendZeros
namespace Go.SL
variable{d:AV}{pi:ey}{Rp Rp':List Res}{vs ρq:eA}{f:Nat->Option Nat}{r r':Res}{v x:Value}
section
variable{P:Program}{C:Ctx}{S S':Nat->Prop}{w w':World}{ρ ρ':eA}{R:List Res}
theorem Lp{f:Nat->Option Nat}:∀{l l':List D},D.renL f l=some l'->l'.length=l.length/\∀(j:Nat) d',l'[j]?=some d'->∃d,l[j]?=some d/\D.ren f d=some d'
 | [],l',h=>by simp[D.renL]at h;subst h;simp
 | d::r,l',h=>by
  simp only[D.renL]at h;split at h
  .rename_i d1 r1 h1 h2;simp at h;subst h;obtain⟨g1,g2⟩:=Lp h2;refine⟨by simp[g1],λj d' hj=>?_⟩;cases j with
   |zero=>simp at hj;subst hj;exact⟨d,rfl,h1⟩
   |succ j=>simp at hj ⊢;exact g2 j d' hj
  .cases h
theorem Rd.ren(hf:∀(i j:Nat) x,f i=some j->ρ[i]?=some x->ρ'[j]?=some x){d:D}(h:Rd S w ρ x d) :
  ∀d',D.ren f d=some d'->Rd S w ρ' x d':=by
 induction h with
 |p h=>intro d' e;simp[D.ren]at e;subst e;exact .p h
 | o h=>
  intro d' e;simp only[D.ren]at e;split at e
  .rename_i j hj;simp at e;subst e;exact .o (hf _ _ _ hj h)
  .cases e
 | os h h1=>
  intro d' e;simp only[D.ren]at e;split at e
  .rename_i j hj;simp at e;subst e;exact .os (hf _ _ _ hj h) h1
  .cases e
 | oe h=>
  intro d' e;simp only[D.ren]at e;split at e
  .rename_i j hj;simp at e;subst e;exact .oe (hf _ _ _ hj h)
  .cases e
 | osb h hl hc hq hq2=>
  intro d' e;simp only[D.ren]at e;split at e
  .rename_i j hj;simp at e;subst e;exact .osb (hf _ _ _ hj h) hl hc hq hq2
  .cases e
 |any h1=>intro d' e;simp[D.ren]at e;subst e;exact .any h1
 |nq h=>intro d' e;simp[D.ren]at e;subst e;exact .nq h
 | oi h hx h1=>
  intro d' e;simp only[D.ren]at e;split at e
  .rename_i j q hj hq;simp at e;subst e;exact .oi (hf _ _ _ hq h) hx h1
  .cases e
 |ip h=>intro d' e;simp[D.ren]at e;subst e;exact .ip h
 |fb hl h=>intro d' e;simp[D.ren]at e;subst e;exact .fb hl h
 | fn hl hm hx hc ih1 ih2=>
  intro d' e;simp only[D.ren]at e;split at e
  .rename_i a b h1 h2;simp at e;subst e;obtain⟨g1,g2⟩:=Lp h1;obtain⟨g3,g4⟩:=Lp h2;refine .fn (by omega) (by omega) (λj x d hxj hd=>?_) (λj x d hxj hd=>?_)
   .obtain⟨d0,k1,k2⟩:=g2 j d hd;exact ih1 j x d0 hxj k1 d k2
   .obtain⟨d0,k1,k2⟩:=g4 j d hd;exact ih2 j x d0 hxj k1 d k2
  .cases e
theorem Ay.renL(hf:∀(i j:Nat) x,f i=some j->ρ[i]?=some x->ρ'[j]?=some x){ds ds':List D}(h:Ay (Rd S w ρ) vs ds)(e:D.renL f ds=some ds') :
  Ay (Rd S w ρ') vs ds':=by
 obtain⟨g1,g2⟩:=Lp e;refine da (by rw[h.length,g1]) λj x d hx hd=>?_;obtain⟨d0,k1,k2⟩:=g2 j d hd;exact(h.both hx k1).ren hf d k2
theorem N1{f:Nat->Option Nat}:∀{l l':List AV},AV.renL f l=some l'->l'.length=l.length/\∀(j:Nat) d',l'[j]?=some d'->∃d,l[j]?=some d/\AV.ren f d=some d'
 | [],l',h=>by simp[AV.renL]at h;subst h;simp
 | d::r,l',h=>by
  simp only[AV.renL]at h;split at h
  .rename_i d1 r1 h1 h2;simp at h;subst h;obtain⟨g1,g2⟩:=N1 h2;refine⟨by simp[g1],λj d' hj=>?_⟩;cases j with
   |zero=>simp at hj;subst hj;exact⟨d,rfl,h1⟩
   |succ j=>simp at hj ⊢;exact g2 j d' hj
  .cases h
theorem RdA.ren(hf:∀(i j:Nat) x,f i=some j->ρ[i]?=some x->ρ'[j]?=some x)(h:RdA S w ρ x d) :
  ∀d',AV.ren f d=some d'->RdA S w ρ' x d':=by
 induction h with
 | d h=>
  intro d' e;simp only[AV.ren]at e;split at e
  .rename_i y hy;simp at e;subst e;exact .d (h.ren hf _ hy)
  .cases e
 | agg h=>
  intro d' e;simp only[AV.ren]at e;split at e
  .rename_i y hy;simp at e;subst e;exact .agg (h.renL hf hy)
  .cases e
 | tup hl _ ih=>
  intro d' e;simp only[AV.ren]at e;split at e
  .rename_i y hy;simp at e;subst e;obtain⟨g1,g2⟩:=N1 hy;refine .tup (by omega) λj x a hx ha=>?_;obtain⟨a0,k1,k2⟩:=g2 j a ha;exact ih j x a0 hx k1 a k2
  .cases e
theorem Res.ren_ok0(hf:∀(i j:Nat) x,f i=some j->ρ[i]?=some x->ρ'[j]?=some x)(h:r.ok0 S w ρ v)(e:r.ren f=some r') :
  r'.ok0 S w ρ' v/\r'.foot v=r.foot v:=by
 cases r with
 | box t cells=>
  simp only[Res.ren]at e;split at e
  .rename_i cs hc;simp at e;subst e;obtain⟨b,vs,rfl,h1,h2⟩:=h;exact⟨⟨b,vs,rfl,h1,h2.renL hf hc⟩,rfl⟩
  .cases e
 |sl t size rows=>simp[Res.ren]at e;subst e;exact⟨h,rfl⟩
 |zsl t size rows=>simp[Res.ren]at e;subst e;exact⟨h,rfl⟩
 |gh size tys rows hole=>simp[Res.ren]at e;subst e;exact⟨h,rfl⟩
 | dsl t size g=>
  simp only[Res.ren]at e;split at e
  .rename_i q hq;simp at e;subst e;obtain⟨f',xs,cs,h1,h2⟩:=h;exact⟨⟨f',xs,cs,hf _ _ _ hq h1,h2⟩,rfl⟩
  .cases e
 |non=>simp[Res.ren]at e;subst e;exact⟨h,rfl⟩
 | vec t sz cells=>
  simp only[Res.ren]at e;split at e
  .rename_i cs hc;simp at e;subst e;obtain⟨b,o,len,cap,vs,rfl,h1,h3,h2⟩:=h;have hl:=(h2.renL hf hc).length;have hl2:=h2.length;have hle:cs.length=cells.length:=by rw[←hl,hl2]
   exact⟨⟨b,o,len,cap,vs,rfl,h1,by rw[hle];exact h3,h2.renL hf hc⟩,rfl⟩
  .cases e
theorem dm(hf:∀(i j:Nat) x,f i=some j->ρ[i]?=some x->ρ'[j]?=some x)(h:r.ok S w ρ v)(e:r.ren f=some r') :
  r'.ok S w ρ' v/\r'.foot v=r.foot v:=by
 rcases h with h|h
 .exact⟨.inl h,by funext b;exact propext ⟨λx=>absurd x (dg h b),λx=>absurd x (dg h b)⟩⟩
 .obtain⟨h1,h2⟩:=Res.ren_ok0 hf h e;exact⟨.inr h1,h2⟩
theorem Rd.norm{d:D}(h:Rd S w ρ x d):Rd S w ρ x d.norm:=by
 unfold D.norm;split
 .have:=h;cases this with
  |p h=>have:=h.v_form;subst this;exact .p (.s none ⟨0,0,none⟩ 0 0 [] (λ_ _=>undef) (ai _) (by simp[maxLen]) (λ_=>rfl) (by simp) (by simp) (by simp))
 .exact h
theorem RdA.norm(h:RdA S w ρ x d):RdA S w ρ x d.norm:=by
 cases h with
 |d h=>exact .d h.norm
 |agg h=>exact .agg (h.map_right λ_ _ h=>h.norm)
 |tup hl h=>exact .tup hl h
theorem Uy:∀{l:ey}{i j:Nat},D4 l i=some j->l[j]?=some i
 | [],_,_,h=>by simp[D4]at h
 | a::r,i,j,h=>by
  simp only[D4]at h;cases hb:Nat.beq a i with
  |true=>rw[hb]at h;simp at h;subst h;have:=af hb;subst this;rfl
  | false=>
   rw[hb]at h;simp only[eg]at h;split at h
   .rename_i k hk;simp at h;subst h;simpa using Uy hk
   .cases h
theorem Sn:∀{l:ey}{i:Nat},D4 l i=none->∀(j:Nat),l[j]? ≠ some i
 | [],_,_,j=>by simp
 | a::r,i,h,j=>by
  simp only[D4]at h;cases hb:Nat.beq a i with
  |true=>rw[hb]at h;simp at h
  | false=>
   rw[hb]at h;simp only[eg]at h;split at h
   .cases h
   .rename_i hn;cases j with
    |zero=>simp;intro e;subst e;simp at hb
    |succ j=>simpa using Sn hn j
theorem Uo:∀{l:ey},Fw l=true->∀{i j k:Nat},l[i]?=some k->l[j]?=some k->i=j
 | [],_,i,j,k,h,_=>by simp at h
 | a::r,h,i,j,k,h1,h2=>by
  simp only[Fw,aa,Option.isNone_iff_eq_none]at h;cases i with
  | zero=>cases j with
   |zero=>rfl
   |succ j=>simp at h1 h2;subst h1;exact absurd h2 (Sn h.1 j)
  | succ i=>cases j with
   |zero=>simp at h1 h2;subst h2;exact absurd h1 (Sn h.1 i)
   |succ j=>simp at h1 h2;rw[Uo h.2 h1 h2]
theorem Pq:∀{pi:ey}{l:List Res},I2 R pi=some l->l.length=pi.length/\∀(j i:Nat),pi[j]?=some i->∃r,l[j]?=some r/\R[i]?=some r
 | [],l,h=>by simp[I2]at h;subst h;simp
 | a::r,l,h=>by
  simp only[I2]at h;split at h
  .rename_i x xs h1 h2;simp at h;subst h;obtain⟨g1,g2⟩:=Pq h2;refine⟨by simp[g1],λj i hj=>?_⟩;cases j with
   |zero=>simp at hj;subst hj;exact⟨x,rfl,h1⟩
   |succ j=>simp at hj ⊢;exact g2 j i hj
  .cases h
theorem Jc{f:Nat->Option Nat}:∀{l l':List Res},Ht f l=some l'->l'.length=l.length/\∀(j:Nat) r',l'[j]?=some r'->∃r,l[j]?=some r/\r.ren f=some r'
 | [],l',h=>by simp[Ht]at h;subst h;simp
 | d::r,l',h=>by
  simp only[Ht]at h;split at h
  .rename_i d1 r1 h1 h2;simp at h;subst h;obtain⟨g1,g2⟩:=Jc h2;refine⟨by simp[g1],λj d' hj=>?_⟩;cases j with
   |zero=>simp at hj;subst hj;exact⟨d,rfl,h1⟩
   |succ j=>simp at hj ⊢;exact g2 j d' hj
  .cases h
theorem Fa:∀(pi:ey)(R l:List Res),(Fx R pi l).length=R.length
 | [],R,l=>by simp[Fx]
 |i::pi,R,[]=>by simp[Fx]
 |i::pi,R,r::l=>by simp[Fx,Fa pi]
theorem Nr:∀(pi:ey)(R l:List Res)(k:Nat)(r:Res),(Fx R pi l)[k]?=some r->(∃j:Nat,pi[j]?=some k/\l[j]?=some r)\/(R[k]?=some r/\(pi.length<=l.length->∀j:Nat,pi[j]? ≠ some k))
 | [],R,l,k,r,h=>by simp[Fx]at h;exact .inr ⟨h,by simp⟩
 |i::pi,R,[],k,r,h=>by simp[Fx]at h;exact .inr ⟨h,by simp⟩
 | i::pi,R,x::l,k,r,h=>by
  simp only[Fx]at h;rcases Nr pi (R.set i x) l k r h with⟨j,h1,h2⟩|⟨h1,h2⟩
  .exact .inl ⟨j+1,by simpa using h1,by simpa using h2⟩
  .rw[aB]at h1;split at h1
   .rename_i e;subst e;split at h1
    .cases h1;exact .inl ⟨0,rfl,rfl⟩
    .cases h1
   .rename_i e;refine .inr ⟨h1,λhl j=>?_⟩;cases j with
    |zero=>simpa using e
    |succ j=>simpa using h2 (by simpa using hl) j
def Dr(ρ:eA)(pi:ey):eA:=pi.map λi=>ρ.getD i undef
theorem Aoe{j:Nat}(h:(Dr ρ pi)[j]?=some x):∃i,pi[j]?=some i/\x=ρ.getD i undef:=by
 unfold Dr at h;rw[au]at h;cases hj:pi[j]? with
 |none=>rw[hj]at h;cases h
 |some i=>rw[hj]at h;simp at h;exact⟨i,rfl,by rw[←h];simp⟩
theorem Inv.start(hI:Inv C S w ρ R)(hn:Fw pi=true)(hp:I2 R pi=some Rp)(hr:Ht (D4 pi) Rp=some Rp') :
  Start S w (Dr ρ pi) Rp'/\(∀(i j:Nat) x,D4 pi i=some j->ρ[i]?=some x->(Dr ρ pi)[j]?=some x) /\
   (∀(j:Nat) r h,Rp'[j]?=some r->(Dr ρ pi)[j]?=some h->∃i r0,pi[j]?=some i/\R[i]?=some r0/\ρ[i]?=some h/\r.foot h=r0.foot h):=by
 obtain⟨p1,p2⟩:=Pq hp;obtain⟨q1,q2⟩:=Jc hr;have hid:∀(i j:Nat) x,D4 pi i=some j->ρ[i]?=some x->(Dr ρ pi)[j]?=some x:=by intro i j x h1 h2;have:=Uy h1;simp[Dr,this,List.getD_eq_getElem?_getD,h2]
 have back:∀(j:Nat) r h,Rp'[j]?=some r->(Dr ρ pi)[j]?=some h->∃i r0,pi[j]?=some i/\R[i]?=some r0/\ρ[i]?=some h/\r0.ren (D4 pi)=some r:=by
  intro j r h h1 h2;obtain⟨i,hi,hx⟩:=Aoe h2;obtain⟨r0,g1,g2⟩:=q2 j r h1;obtain⟨r1,g3,g4⟩:=p2 j i hi;rw[g3]at g1;cases g1;have hlt:i<ρ.length:=by rw[hI.len];exact(ac.1 g4).1
  refine⟨i,r0,hi,g4,?_,g2⟩;rw[hx,cX,ak hlt];rfl
 have back':∀(j:Nat) r h,Rp'[j]?=some r->(Dr ρ pi)[j]?=some h->∃i r0,pi[j]?=some i/\R[i]?=some r0/\ρ[i]?=some h/\r.ok S w (Dr ρ pi) h/\r.foot h=r0.foot h:=by intro j r h h1 h2;obtain⟨i,r0,k1,k2,k3,k4⟩:=back j r h h1 h2;obtain⟨m1,m2⟩:=dm hid (hI.ok i r0 h k2 k3) k4;exact⟨i,r0,k1,k2,k3,m1,m2⟩
 refine⟨⟨by simp[Dr,q1,p1],?_,?_,?_,λb hb=>(hI.sup b hb).1,hI.glOk⟩,hid,λj r h h1 h2=>?_⟩
 .intro j r h h1 h2;obtain⟨i,r0,_,_,_,k,_⟩:=back' j r h h1 h2;exact k
 .intro j1 j2 r1 r2 h1 h2 b hj e1 e2 e3 e4 f1 f2;obtain⟨i1,s1,k1,k2,k3,_,k5⟩:=back' j1 r1 h1 e1 e3;obtain⟨i2,s2,m1,m2,m3,_,m5⟩:=back' j2 r2 h2 e2 e4;refine hI.dis i1 i2 s1 s2 h1 h2 b (λe=>hj ?_) k2 m2 k3 m3 (by rw[←k5];exact f1) (by rw[←m5];exact f2);subst e;exact Uo hn k1 m1
 .intro j r h b h1 h2 h3;obtain⟨i,r0,k1,k2,k3,_,k5⟩:=back' j r h h1 h2;have:=hI.own i r0 h b k2 k3 (by rw[←k5];exact h3);exact⟨this.1,this.2.1⟩
 .obtain⟨i,r0,k1,k2,k3,_,k5⟩:=back' j r h h1 h2;exact⟨i,r0,k1,k2,k3,k5⟩
theorem Inv.back(hI:Inv C S w ρ R){Rq Rq':List Res}(hn:Fw pi=true)(hp:I2 R pi=some Rp)(hr:Ht (D4 pi) Rp=some Rp')
  (hq:Inv ⟨w,S,Ei (Dr ρ pi) Rp',Dr ρ pi,[]⟩ S' w' ρq Rq)(hlen:pi.length<=Rq.length)(hrq:Ht (Gx pi R.length) Rq=some Rq') :
  Inv C S' w' (ρ++ρq.drop pi.length) (Fx R pi Rq'++Rq'.drop pi.length)/\(∀b,S b->S' b)/\(∀b,S b->w'.heap[b]?=w.heap[b]?)/\Pre ρ (ρ++ρq.drop pi.length) /\
   (∀(i j:Nat) x,Gx pi R.length i=some j->ρq[i]?=some x->(ρ++ρq.drop pi.length)[j]?=some x):=by
 obtain⟨st,hid,foots⟩:=hI.start hn hp hr;obtain⟨p1,p2⟩:=Pq hp;obtain⟨q1,q2⟩:=Jc hr;obtain⟨t1,t2⟩:=Jc hrq;have hρ:Pre ρ (ρ++ρq.drop pi.length):=Pre.append _ _;have hpre:Pre (Dr ρ pi) ρq:=hq.pre;have hfeet:∀b,Ei (Dr ρ pi) Rp' b->∃i r0 h,(∃j:Nat,pi[j]?=some i)/\R[i]?=some r0/\ρ[i]?=some h/\r0.foot h b:=by rintro b ⟨j,r,h,h1,h2,h3⟩;obtain⟨i,r0,k1,k2,k3,k4⟩:=foots j r h h1 h2;exact⟨i,r0,h,⟨j,k1⟩,k2,k3,by rw[←k4];exact h3⟩
 have hSf:∀b,S b->¬Ei (Dr ρ pi) Rp' b:=by intro b hb hf;obtain⟨i,r0,h,_,k2,k3,k4⟩:=hfeet b hf;exact(hI.own i r0 h b k2 k3 k4).1 hb
 have hSw:∀b,S b->w'.heap[b]?=w.heap[b]?:=λb hb=>hq.frm b (hI.sup b hb).1 (hSf b hb);have hbk:∀(i j:Nat) x,Gx pi R.length i=some j->ρq[i]?=some x->(ρ++ρq.drop pi.length)[j]?=some x:=by
  intro i j x h1 h2;unfold Gx at h1;cases hi:pi[i]? with
  |some k=>
   rw[hi]at h1;simp at h1;subst h1;have hlt:i<pi.length:=(ac.1 hi).1;have hh:(Dr ρ pi)[i]?=some (ρ.getD k undef):=by simp[Dr,hi]
   have:=hpre _ _ hh;rw[this]at h2;cases h2;obtain⟨r,_,g2⟩:=p2 i k hi;have hkl:k<ρ.length:=by rw[hI.len];exact(ac.1 g2).1
   rw[ax hkl,cX,ak hkl];rfl
  | none=>
   rw[hi]at h1;simp at h1;subst h1;have hge:pi.length<=i:=by
    rcases aR i pi.length with h|h
    .rw[ak h]at hi;cases hi
    .exact h
   rw[←hI.len,aK (by omega)];rw[ar];rw[show pi.length+(ρ.length+(i-pi.length)-ρ.length)=i from by omega];exact h2
 have src:∀(k:Nat) r h,(Fx R pi Rq'++Rq'.drop pi.length)[k]?=some r->(ρ++ρq.drop pi.length)[k]?=some h ->
   (∃j r0,Rq[j]?=some r0/\r0.ren (Gx pi R.length)=some r/\ρq[j]?=some h/\Gx pi R.length j=some k)\/(R[k]?=some r/\ρ[k]?=some h/\∀j:Nat,pi[j]? ≠ some k):=by
  intro k r h h1 h2;rcases aR k R.length with hk|hk
  .rw[ax (by rw[Fa];exact hk)]at h1;rw[ax (by rw[hI.len];exact hk)]at h2;rcases Nr pi R Rq' k r h1 with⟨j,g1,g2⟩|⟨g1,g2⟩
   .obtain⟨r0,g3,g4⟩:=t2 j r g2;refine .inl ⟨j,r0,g3,g4,?_,by simp[Gx,g1]⟩;have hh:(Dr ρ pi)[j]?=some (ρ.getD k undef):=by simp[Dr,g1]
    have:=hpre _ _ hh;rw[this,cX,h2];rfl
   .exact .inr ⟨g1,h2,g2 (by omega)⟩
  .rw[aK (by rw[Fa];exact hk),Fa,ar]at h1;rw[aK (by rw[hI.len];exact hk),ar,hI.len]at h2;obtain⟨r0,g3,g4⟩:=t2 _ r h1;refine .inl ⟨_,r0,g3,g4,h2,?_⟩;unfold Gx;rw[cD (by omega)];simp;omega
 have inj:∀(j1 j2 k:Nat),Gx pi R.length j1=some k->Gx pi R.length j2=some k->j1=j2:=by
  intro j1 j2 k h1 h2;have small:∀(j i:Nat),pi[j]?=some i->i<R.length:=λj i h=>by obtain⟨r,_,g⟩:=p2 j i h;exact(ac.1 g).1
  have big:∀j,pi[j]?=none->pi.length<=j:=λj hi=>by
   rcases aR j pi.length with h|h
   .rw[ak h]at hi;cases hi
   .exact h
  unfold Gx at h1 h2;cases e1:pi[j1]? with
  |some i1=>
   rw[e1]at h1;simp at h1;subst h1;have:=small j1 _ e1;cases e2:pi[j2]? with
   |some i2=>rw[e2]at h2;simp at h2;subst h2;exact Uo hn e1 e2
   |none=>rw[e2]at h2;simp at h2;omega
  |none=>
   rw[e1]at h1;simp at h1;have:=big j1 e1;cases e2:pi[j2]? with
   |some i2=>rw[e2]at h2;simp at h2;have:=small j2 _ e2;omega
   |none=>rw[e2]at h2;simp at h2;have:=big j2 e2;omega
 have hS'old:∀b,S' b->S b\/Ei (Dr ρ pi) Rp' b\/w.heap.size<=b:=λb hb=>(hq.sup b hb).2;refine⟨⟨?_,?_,?_,?_,λb hb=>hq.sub b (hI.sub b hb),?_,?_,ay hI.size hq.size,hq.os.trans hI.os,hq.tape.trans hI.tape,hq.output.trans hI.output,hI.pre.trans hρ,hI.gl⟩,hq.sub,hSw,hρ,hbk⟩
 .have:=hq.len;simp[hI.len,Fa,t1,this]
 .intro k r h h1 h2;rcases src k r h h1 h2 with⟨j,r0,g1,g2,g3,g4⟩|⟨g1,g2,g3⟩
  .exact(dm hbk (hq.ok j r0 h g1 g3) g2).1
  .refine(hI.ok k r h g1 g2).mono hq.sub hSw hρ λb hb=>hq.frm b (hI.own k r h b g1 g2 hb).2.1 λhf=>?_;obtain⟨i,r1,v,⟨j,k1⟩,k2,k3,k4⟩:=hfeet b hf;exact hI.dis i k r1 r v h b (λe=>g3 j (e ▸ k1)) k2 g1 k3 g2 k4 hb
 .intro k1 k2 r1 r2 v1 v2 b hk e1 e2 e3 e4 f1 f2;have cross:∀(k1 k2:Nat) r1 r2 v1 v2,(∃j r0,Rq[j]?=some r0/\r0.ren (Gx pi R.length)=some r1/\ρq[j]?=some v1/\Gx pi R.length j=some k1) ->
    (R[k2]?=some r2/\ρ[k2]?=some v2/\∀j:Nat,pi[j]? ≠ some k2)->r1.foot v1 b->r2.foot v2 b->False:=by
   rintro k1 k2 r1 r2 v1 v2 ⟨j,r0,g1,g2,g3,g4⟩ ⟨m1,m2,m3⟩ f1 f2;have hf:r0.foot v1 b:=by rw[←(dm hbk (hq.ok j r0 v1 g1 g3) g2).2];exact f1
   obtain⟨_,_,o3⟩:=hq.own j r0 v1 b g1 g3 hf;have hb:=(hI.own k2 r2 v2 b m1 m2 f2).2.1;rcases o3 with o3|o3
   .obtain⟨i,r3,v,⟨j',n1⟩,n2,n3,n4⟩:=hfeet b o3;exact hI.dis i k2 r3 r2 v v2 b (λe=>m3 j' (e ▸ n1)) n2 m1 n3 m2 n4 f2
   .exact absurd hb (Nat.not_lt.2 o3)
  rcases src k1 r1 v1 e1 e3 with s1|s1
  .rcases src k2 r2 v2 e2 e4 with s2|s2
   .obtain⟨j,r0,g1,g2,g3,g4⟩:=s1;obtain⟨j',r0',g1',g2',g3',g4'⟩:=s2;refine hq.dis j j' r0 r0' v1 v2 b (λe=>hk ?_) g1 g1' g3 g3' (by rw[←(dm hbk (hq.ok j r0 v1 g1 g3) g2).2];exact f1) (by rw[←(dm hbk (hq.ok j' r0' v2 g1' g3') g2').2];exact f2);subst e;rw[g4]at g4';cases g4';rfl
   .exact cross k1 k2 r1 r2 v1 v2 s1 s2 f1 f2
  .rcases src k2 r2 v2 e2 e4 with s2|s2
   .exact cross k2 k1 r2 r1 v2 v1 s2 s1 f2 f1
   .exact hI.dis k1 k2 r1 r2 v1 v2 b hk s1.1 s2.1 s1.2.1 s2.2.1 f1 f2
 .intro k r h b h1 h2 h3;rcases src k r h h1 h2 with⟨j,r0,g1,g2,g3,g4⟩|⟨g1,g2,g3⟩
  .have hf:r0.foot h b:=by rw[←(dm hbk (hq.ok j r0 h g1 g3) g2).2];exact h3
   obtain⟨o1,o2,o3⟩:=hq.own j r0 h b g1 g3 hf;refine⟨o1,o2,?_⟩;rcases o3 with o3|o3
   .obtain⟨i,r3,v,_,n2,n3,n4⟩:=hfeet b o3;exact(hI.own i r3 v b n2 n3 n4).2.2
   .exact .inr (ay hI.size o3)
  .obtain⟨o1,o2,o3⟩:=hI.own k r h b g1 g2 h3;refine⟨λhb=>?_,aE o2 hq.size,o3⟩;rcases hS'old b hb with hb|hb|hb
   .exact o1 hb
   .obtain⟨i,r3,v,⟨j,n1⟩,n2,n3,n4⟩:=hfeet b hb;exact hI.dis i k r3 r v h b (λe=>g3 j (e ▸ n1)) n2 g1 n3 g2 n4 h3
   .omega
 .intro b hb;refine⟨(hq.sup b hb).1,?_⟩;rcases hS'old b hb with hb|hb|hb
  .exact(hI.sup b hb).2
  .obtain⟨i,r3,v,_,n2,n3,n4⟩:=hfeet b hb;exact .inr (hI.own i r3 v b n2 n3 n4).2.2
  .exact .inr (.inr (ay hI.size hb))
 .intro b hb hf;refine(hq.frm b (aE hb hI.size) λhff=>?_).trans (hI.frm b hb hf);obtain⟨i,r3,v,_,n2,n3,n4⟩:=hfeet b hff;rcases(hI.own i r3 v b n2 n3 n4).2.2 with h|h
  .exact hf h
  .omega
end
end Go.SL
namespace Go.SL
variable{x:AV}{cs:Array Value}{d:D}{f:FuncId}{args:List AV}{cells ds:List D}{ps rw:List Pd}{vs:eA}{cap e g i n o size:Nat}{t u:TypeId}{v:Value}
section
variable{P:Program}{C:Ctx}{S S':Nat->Prop}{w w':World}{ρ ρ':eA}{R:List Res}{L:List Ent}{cur:A_}{a:Act}
theorem B8(w:World)(o:Obj)(b:Nat)(h:b<w.heap.size):(w.alloc o).heap[b]?=w.heap[b]?:=Go.RowKit.Below.heap_alloc w o b h
theorem Fb(w:World)(o:Obj):(w.alloc o).heap[w.heap.size]?=some o:=Go.heap_alloc_new w o
structure Du(C:Ctx)(S:Nat->Prop)(w:World)(ρ:eA)(R2:List Res)(v:Value)(av:AV)(S':Nat->Prop)(w':World)(ρ':eA):Prop where
 inv:Inv C S' w' ρ' R2
 sub:∀b,S b->S' b
 same:∀b,S b->w'.heap[b]?=w.heap[b]?
 pre:Pre ρ ρ'
 rd:RdA S' w' ρ' v av
theorem Inv.newBox(hI:Inv C S w ρ R){vs:Array Value}(hc:Ay (Rd S w ρ) vs.toList cells) :
  Du C S w ρ (R++[.box t cells]) (.pointer (some ⟨w.heap.size,0,none⟩)) (.d (.o R.length 0)) S (w.alloc (.cells vs t)) (ρ++[.pointer (some ⟨w.heap.size,0,none⟩)]):=by
 have hw:∀b,S b->(w.alloc (.cells vs t)).heap[b]?=w.heap[b]?:=λb hb=>B8 _ _ _ (hI.sup b hb).1;refine⟨hI.push _ _ (λb hb=>B8 _ _ _ hb) (by simp) rfl ⟨rfl,λ_=>by first|exact ai _|exact aC _⟩ rfl ?_ ?_,λ_ h=>h,hw,Pre.append _ _,.d (.o ?_)⟩
 .exact .inr ⟨_,vs,rfl,Fb _ _,hc.mono λ_ _ h=>h.mono (λ_ h=>h) hw (Pre.append _ _)⟩
 .intro b hb;simp[Res.foot]at hb;subst hb;simp
 .rw[←hI.len];simp
theorem Inv.newVec(hI:Inv C S w ρ R){vs:Array Value}(hc:Ay (Rd S w ρ) vs.toList cells)(hn:cells.length=n*(size+1))(hm:n<=maxLen) :
  Du C S w ρ (R++[.vec t (size+1) cells]) (.slice (some ⟨w.heap.size,0,none⟩) n n) (.d (.os R.length)) S (w.alloc (.cells vs t)) (ρ++[.slice (some ⟨w.heap.size,0,none⟩) n n]):=by
 have hl:=hc.length;have hw:∀b,S b->(w.alloc (.cells vs t)).heap[b]?=w.heap[b]?:=λb hb=>B8 _ _ _ (hI.sup b hb).1;refine⟨hI.push _ _ (λb hb=>B8 _ _ _ hb) (by simp) rfl ⟨rfl,λ_=>by first|exact ai _|exact aC _⟩ rfl ?_ ?_,λ_ h=>h,hw,Pre.append _ _,.d (.os ?_ rfl)⟩
 .refine .inr ⟨_,0,n,n,vs,rfl,.of (Fb _ _),⟨hn,bZ _,ai _,hm,by simp at hl;omega⟩,?_⟩;rw[List.drop_zero,bY (by rw[hl,hn];exact ai _)];exact hc.mono λ_ _ h=>h.mono (λ_ h=>h) hw (Pre.append _ _)
 .intro b hb;simp[Res.foot,D3]at hb;subst hb;simp
 .rw[←hI.len];simp
theorem Mr(g o:Nat)(t:TypeId):∀(vs:eA)(i:Nat)(cur:Array Value)(w:World),Blk w g cur t->o+i+vs.length<=cur.size->(∀v∈vs,v.oneCell'=true) ->
  (storeCells ⟨g,o,none⟩ vs i).run P w=.ok () (w.setRow g (cur.toList.take (o+i)++vs++cur.toList.drop (o+i+vs.length)).toArray)
 | [],i,cur,w,⟨fz,hg,_⟩,_,_=>by simp only[storeCells,aZ,bn,bo,bl,Array.toArray_toList];rw[setRow_self w g cur t fz hg];rfl
 | v::rest,i,cur,w,⟨fz,hg,hfz,hfm⟩,hl,h1=>by
  have hi:o+i<cur.size:=by simp at hl;omega
  have hadd:(⟨g,o,none⟩:Addr).add i=⟨g,o+i,none⟩:=by unfold Addr.add;split <;> simp_all
  have hcell:w.cell? ⟨g,o+i,none⟩=some cur[o+i]:=by simp[World.cell?,hg,hi]
  have hfro:w.frozen? ⟨g,o+i,none⟩=false:=by obtain⟨lo,hi'⟩:=fz;simp only[World.frozen?,hg,Bool.and_eq_false_iff,dN];simp only at hfz;omega
  have hst:(store ((⟨g,o,none⟩:Addr).add i) v).run P w=.ok () (w.setRow g (cur.setIfInBounds (o+i) v)):=by rw[hadd,run_store P w _ v _ (h1 v (by simp)),hcell];simp[hfro,setCell_eq_setRow w g (o+i) cur t fz v hg]
  have ih:=Mr g o t rest (i+1) (cur.setIfInBounds (o+i) v) (w.setRow g (cur.setIfInBounds (o+i) v)) (Blk.put ⟨fz,hg,hfz,hfm⟩ (by simp)) (by simp at hl ⊢;omega) (λx hx=>h1 x (by simp[hx]));simp only[storeCells,eo,hst,ep,ih,setRow_setRow];congr 3;have e:=list_seg_step cur.toList (o+i) v rest (by simp at hl ⊢;omega);simpa[Array.toList_setIfInBounds,Nat.add_assoc]using e
theorem Hs{cur:Array Value}(h:Blk w g cur t)(hl:o+vs.length<=cur.size)(h1:∀v,v∈vs->v.oneCell'=true) :
  (storeCells ⟨g,o,none⟩ vs).run P w=.ok () (w.setRow g (cur.toList.take o++vs++cur.toList.drop (o+vs.length)).toArray):=by
 have:=Mr (P:=P) g o t vs 0 cur w h (by simpa using hl) h1;simpa using this
theorem uH(h:Ay (Rd S w ρ) vs ds):∀v,v∈vs->v.oneCell'=true:=by
 induction vs generalizing ds with
 |nil=>simp
 | cons x xs ih=>cases ds with
  |nil=>exact h.elim
  |cons d ds=>
   intro v hv;rcases ah.1 hv with rfl|hv
   .exact h.1.one
   .exact ih h.2 v hv
theorem Kg{cur:Array Value}(hn:A8 P t=some n)(hv:v.cells.size=n)(h:Blk w g cur u)(hl:o+n<=cur.size)
  (h1:∀x,x∈v.cells.toList->x.oneCell'=true) :
  (storeVar t ⟨g,o,none⟩ v).run P w=.ok () (w.setRow g (cur.toList.take o++v.cells.toList++cur.toList.drop (o+v.cells.toList.length)).toArray):=by
 have:=Hs (P:=P) (w:=w) (g:=g) (o:=o) (t:=u) (vs:=v.cells.toList) (cur:=cur) h (by simpa[hv]using hl) h1;simp only[storeVar,eo,Ch hn,ep];rw[em (by simpa using hv)];exact this
theorem Inv.store(hI:Inv C S w ρ R){off b:Nat}(hi:R[i]?=some (.box u cells))(hρ:ρ[i]?=some (.pointer (some ⟨b,0,none⟩)))
  (hv:Ay (Rd S w ρ) v.cells.toList ds)(hn:A8 P t=some n)(hl:ds.length=n)(ho:off+n<=cells.length) :
  ∃w',(storeVar t ⟨b,off,none⟩ v).run P w=.ok () w'/\Inv C S w' ρ (R.set i (.box u (Ik cells off ds)))/\(∀k,S k->w'.heap[k]?=w.heap[k]?):=by
 obtain⟨vs,h1,h2⟩:=Kx hI hi hρ;have hsz:v.cells.size=n:=by have:=hv.length;simpa[hl]using this
 have hcl:vs.size=cells.length:=by have:=h2.length;simpa using this
 refine⟨_,Kg hn hsz (.of h1) (by omega) (uH hv),?_,?_⟩
 .have hS:∀k,k≠b->(w.setRow b (vs.toList.take off++v.cells.toList++vs.toList.drop (off+v.cells.toList.length)).toArray).heap[k]?=w.heap[k]?:=λk hk=>Bg _ _ _ _ hk;have ob:=hI.own i _ _ b hi hρ rfl;refine hI.put hi hρ (b:=b) rfl (λk hk=>by simp[Res.foot]at hk;exact hk.symm) hS (by simp) rfl ⟨rfl,λ_=>by first|exact ai _|exact aC _⟩ rfl ?_;refine .inr ⟨b,_,rfl,Df _ _ _ _ _ _ h1,?_⟩;have hm:∀x d,Rd S w ρ x d->Rd S (w.setRow b (vs.toList.take off++v.cells.toList++vs.toList.drop (off+v.cells.toList.length)).toArray) ρ x d:=λx d h=>
   h.mono (λ_ h=>h) (λk hk=>hS k (λe=>ob.1 (e ▸ hk))) (Pre.refl _)
  unfold Ik;have hd:Ay (Rd S w ρ) (vs.toList.drop (off+v.cells.toList.length)) (cells.drop (off+ds.length)):=by rw[hv.length];exact h2.drop _
  have:=((h2.take off).append (hv.append hd)).mono hm;simpa using this
 .intro k hk;exact Bg _ _ _ _ (λe=>(hI.own i _ _ b hi hρ rfl).1 (e ▸ hk))
def I3(S:Nat->Prop)(ρ:eA)(R:List Res)(b:Nat):Prop:=S b\/Ei ρ R b
theorem Inv.rho(hI:Inv C S w ρ R){r:Res}(h:R[i]?=some r):∃v,ρ[i]?=some v:=by
 have hl:i<ρ.length:=by rw[hI.len];exact(ac.1 h).1
 exact⟨_,ak hl⟩
theorem Ea{α:Type}(size:Nat):∀(n:Nat)(l:List α),(Cm size n l).length=n
 |0,_=>rfl
 |n+1,l=>by simp[Cm,Ea size n]
theorem S8{α:Type}(size:Nat):∀(n:Nat)(l:List α)(i:Nat)(row:List α),(Cm size n l)[i]?=some row->row=(l.drop (i*size)).take size
 |0,_,_,_,h=>by simp[Cm]at h
 |n+1,l,0,row,h=>by simp[Cm]at h;simp[h]
 |n+1,l,i+1,row,h=>by simp only[Cm,cI]at h;have:=S8 size n (l.drop size) i row h;rw[this,cq];congr 2;rw[az];omega
theorem Ld{α:Type}(size:Nat):∀(n:Nat)(l:List α),l.length=n*size->∀row,row∈Cm size n l->row.length=size
 |0,_,_,row,h=>by simp[Cm]at h
 |n+1,l,hl,row,h=>by
  simp only[Cm,ah]at h;rw[az]at hl;rcases h with rfl|h
  .simp;omega
  .exact Ld size n (l.drop size) (by simp;omega) row h
theorem dL{T:Nat->Prop}(k:vOk S w ρ e size cells v)(hp:∀xs,Ay (Rd S w ρ) xs cells->Ay (RdP T w) xs ps) :
  P4 T w e size (Cm size (cells.length / size) ps) v:=by
 obtain⟨b,o,len,cap,vs,rfl,hb,⟨h1,h2,h3,h4,h5⟩,hc⟩:=k;have hl:cells.length / size=len:=by rw[h1,Nat.mul_div_cancel _ h2]
 have hq:=hp _ hc;have hpl:ps.length=len*size:=by rw[←hq.length,hc.length,h1]
 rw[hl];refine .inr ⟨b,o,cap,vs,by rw[Ea],hb,by rw[Ea];exact h3,h4,h5,Ld size len _ hpl,λi row hi j d hj=>?_⟩;have:=S8 size len _ i row hi;subst this;rw[ap]at hj;split at hj
 .rw[ar]at hj;obtain⟨x,hx,hr⟩:=hq.get hj;refine⟨x,?_,hr⟩;rw[ap]at hx;split at hx
  .rw[ar]at hx;rw[bg];simpa using hx
  .cases hx
 .cases hj
theorem Am9(hI:Inv C S w ρ R){x:Pd}(h:Rd S w ρ v d)(e:Qn R d=some x):RdP (I3 S ρ R) w v x:=by
 unfold Qn at e;split at e
 .simp at e;subst e;cases h with|p h=>exact h.mono (λ_ h=>.inl h) (λ_ _=>rfl)
 .rename_i i;split at e
  .rename_i t size rows hi;simp at e;subst e;cases h with
   |os h h1=>
    have hk:=Res.ok0.frozen ((hI.ok i _ v hi h).live h1);refine hk.mono (λb hb=>?_) (λ_ _=>rfl);rcases hb with hb|hb
    .exact .inl hb
    .exact .inr ⟨i,_,v,hi,h,hb⟩
  .rename_i t size rows hi;simp at e;subst e;cases h with
   |os h h1=>
    have hk:=zOk.frozen (S:=S) ((hI.ok i _ v hi h).live h1);refine hk.mono (λb hb=>?_) (λ_ _=>rfl);rcases hb with hb|hb
    .exact .inl hb
    .exact .inr ⟨i,_,v,hi,h,hb⟩
  .cases e
 .cases e
theorem Yu(hI:Inv C S w ρ R):∀{vs:eA}{ds:List D}{ps:List Pd},Ay (Rd S w ρ) vs ds->Iq R ds=some ps->Ay (RdP (I3 S ρ R) w) vs ps
 | [],[],ps,_,e=>by simp[Iq]at e;subst e;trivial
 | v::vs,d::ds,ps,h,e=>by
  simp only[Iq]at e;split at e
  .rename_i x l e1 e2;simp at e;subst e;exact⟨Am9 hI h.1 e1,Yu hI h.2 e2⟩
  .cases e
 | [],_::_,_,h,_=>h.elim
 |_::_,[],_,h,_=>h.elim
theorem yF(hI:Inv C S w ρ R){x:Pd}(h:Rd S w ρ v d)(e:Ij R d=some x):RdP (I3 S ρ R) w v x:=by
 unfold Ij at e;split at e
 .simp at e;subst e;cases h with|p h=>exact h.mono (λ_ h=>.inl h) (λ_ _=>rfl)
 .rename_i i;split at e
  .rename_i t size rows hi;simp at e;subst e;cases h with
   |os h h1=>
    have hk:=Res.ok0.frozen ((hI.ok i _ v hi h).live h1);refine hk.mono (λb hb=>?_) (λ_ _=>rfl);rcases hb with hb|hb
    .exact .inl hb
    .exact .inr ⟨i,_,v,hi,h,hb⟩
  .rename_i t size rows hi;simp at e;subst e;cases h with
   |os h h1=>
    have hk:=zOk.frozen (S:=S) ((hI.ok i _ v hi h).live h1);refine hk.mono (λb hb=>?_) (λ_ _=>rfl);rcases hb with hb|hb
    .exact .inl hb
    .exact .inr ⟨i,_,v,hi,h,hb⟩
  .rename_i t size cells hi;obtain⟨ps,h2,rfl⟩:=Cv e;cases h with
   |os h h1=>
    have k:vOk S w ρ t size cells v:=(hI.ok i _ v hi h).live h1;have hk:=Res.ok0.frozen (ρ:=ρ) (e:=t) (dL k (T:=I3 S ρ R) λxs hx=>Yu hI hx h2);refine hk.mono (λb hb=>?_) (λ_ _=>rfl);rcases hb with hb|hb
    .exact hb
    .exact .inr ⟨i,_,v,hi,h,by revert hb;cases v <;> simp[Res.foot,D3]⟩
  .cases e
 .cases e
theorem Yv(hI:Inv C S w ρ R):∀{vs:eA}{ds:List D}{ps:List Pd},Ay (Rd S w ρ) vs ds->Ir R ds=some ps->Ay (RdP (I3 S ρ R) w) vs ps
 | [],[],ps,_,e=>by simp[Ir]at e;subst e;trivial
 | v::vs,d::ds,ps,h,e=>by
  simp only[Ir]at e;split at e
  .rename_i x l e1 e2;simp at e;subst e;exact⟨yF hI h.1 e1,Yv hI h.2 e2⟩
  .cases e
 | [],_::_,_,h,_=>h.elim
 |_::_,[],_,h,_=>h.elim
theorem yD{es:List D}(h:D.viewL R rw ds=some es):es.length=ds.length/\∀(j:Nat) e,es[j]?=some e->∃d,ds[j]?=some d/\d.view R rw=some e:=by
 induction ds generalizing es with
 |nil=>simp[D.viewL]at h;subst h;simp
 | cons d ds ih=>
  simp only[D.viewL]at h;split at h
  .rename_i d' r' h1 h2;simp at h;subst h;obtain⟨g1,g2⟩:=ih h2;refine⟨by simp[g1],λj e hj=>?_⟩;cases j with
   |zero=>simp at hj;subst hj;exact⟨d,rfl,h1⟩
   |succ j=>simp at hj ⊢;exact g2 j e hj
  .cases h
def Alj(R:List Res)(rw:List Pd)(l:List (Nat×Nat)):Prop:=∀g k s tys rows,(g,k)∈l->R[g]?=some (.gh s tys rows none)->rows[k]?=some rw
theorem Wi{d:D}:∀{l:List D},d∈l->∀p,p∈d.ois->p∈dl l
 | [],h,_,_=>by cases h
 |a::r,h,p,hp=>by
  simp only[dl];rcases ah.1 h with rfl|h
  .exact bH _ hp
  .exact bD _ (Wi h p hp)
theorem Ago(hI:Inv C S w ρ R)(h:Rd S w ρ v d):∀e,Alj R rw d.ois->d.view R rw=some e->Rd (I3 S ρ R) w [] v e:=by
 have hS:∀b,S b->I3 S ρ R b:=λ_ h=>.inl h;induction h with
 |p h=>intro e _ he;simp[D.view]at he;subst he;exact .p (h.mono hS λ_ _=>rfl)
 |ip h=>intro e _ he;simp[D.view]at he;subst he;exact .ip (h.mono hS λ_ _=>rfl)
 | @os i v h h1=>
  intro e _ he;have this:∀x,Ij R (.os i)=some x->RdP (I3 S ρ R) w v x:=λx hx=>yF (d:=.os i) hI (.os h h1) hx;simp only[D.view]at he;split at he
  .rename_i t size rows hi;simp at he;subst he;exact .p (this _ (by simp[Ij,hi]))
  .rename_i t size rows hi;simp at he;subst he;exact .p (this _ (by simp[Ij,hi]))
  .rename_i t size cells hi;obtain⟨x,h2,rfl⟩:=Cv he;exact .p (this _ (by simp only[Ij,hi];exact h2))
  .cases he
 | @o i b off h=>
  intro e _ he;simp only[D.view]at he;split at he
  .rename_i t cells hi;split at he
   .rename_i ps hp;simp at he;subst he;rcases(hI.ok i _ _ hi h).live rfl with⟨b',vs,e1,hb,hc⟩;cases e1;have hv:=Yv hI hc hp;refine .ip λj d hj=>?_;rw[ar]at hj;obtain⟨x,hx,hr⟩:=hv.get hj;refine⟨x,.inr ⟨i,_,_,hi,h,rfl⟩,?_,hr⟩;rw[Cn,Jn hb];simpa using hx
   .cases he
  .cases he
 |oe h=>intro e _ he;simp[D.view]at he
 |any h1=>intro e _ he;simp[D.view]at he;subst he;exact .any h1
 |nq h=>intro e _ he;simp[D.view]at he;subst he;exact .nq h
 | @osb i lo n size q a len cap h hl hc hq hq2=>
  intro e _ he;simp only[D.view]at he;split at he
  .rename_i t s rows hi;cases hb:Nat.beq s size with
   |false=>rw[hb]at he;simp at he
   | true=>
    rw[hb]at he;simp at he;subst he;have:=af hb;subst this;have hk:=(hI.ok i _ _ hi h).live rfl;have hz:∀row,row∈rows->row.length=s:=by
     rcases hk with⟨_,h0⟩|⟨b,o,cp,vs,_,_,_,_,_,h0,_⟩
     .subst h0;simp
     .exact h0
    have hF:=(Res.ok0.frozen (ρ:=ρ) hk).mono (S':=I3 S ρ R) (λb hb=>by
     rcases hb with hb|hb
     .exact .inl hb
     .exact .inr ⟨i,_,_,hi,h,hb⟩) (λ_ _=>rfl)
    have hc:=RdP.cut hF (l:=lo) (h:=lo+n) (by omega) hl hz;rw[show (lo+n)-lo=n from by omega,List.drop_take,show (lo+n)-lo=n from by omega]at hc;by_cases hlc:lo<cap
    .rw[em (by omega)]at hc;rw[hq2 hlc];exact .p hc
    .have hlc:cap=lo:=by omega
     subst hlc;rw[ei rfl]at hc;have hn0:n=0:=by obtain⟨_,_,hsf,hle,_⟩:=hF.slice_form;cases hsf;omega
     subst hn0;simp only[List.take_zero];exact .p (.s _ ⟨0,0,none⟩ _ 0 [] (λ_ _=>undef) (bi _) (by simp) (λ_=>by simp) (by simp) (by simp) (by simp))
  .cases he
 | @oi i g k size off f xs cs v h hx h1=>
  intro e hrw he;simp only[D.view]at he;split at he
  .rename_i s tys rows hg;cases hb:(Nat.beq s size&&Nat.blt off s) with
   |false=>rw[hb]at he;simp at he
   | true=>
    rw[hb]at he;simp only[eh]at he;simp only[aa]at hb;have:=af hb.1;subst this;split at he
    .rename_i r hr;simp at he;subst he;have hrow:=hrw g k s tys rows (by simp[D.ois]) hg;obtain⟨f',xs',cs',e1,k1,k2,k3,k4⟩:=(hI.ok g _ _ hg h).live rfl;cases e1;obtain⟨x,hx',_,hg2⟩:=k3 k rw hrow off _ hr;rw[hx]at hx';cases hx';have hno:¬H7 s none (k*s+off):=by rintro⟨p,hp,_⟩;cases hp
     obtain⟨e2,s2,_,hsl⟩:=hg2 hno;have hF:=Res.ok0.frozen (ρ:=ρ) (show (Res.sl e2 s2 r).ok0 S w ρ v from hsl);refine .p (hF.mono (λb hb=>?_) (λ_ _=>rfl));rcases hb with hb|hb
     .exact .inl hb
     .exact .inr ⟨g,_,_,hg,h,⟨_,v,hx,hno,hb⟩⟩
    .cases he
  .cases he
 |fb hl h=>intro e _ he;simp[D.view]at he;subst he;exact .fb hl λj x d h1 h2=>(h j x d h1 h2).mono hS λ_ _=>rfl
 | fn hl hm hx hc ih1 ih2=>
  intro e hrw he;simp only[D.view]at he;split at he
  .rename_i a' b' h1 h2;simp at he;subst he;obtain⟨g1,g2⟩:=yD h1;obtain⟨g3,g4⟩:=yD h2;refine .fn (by rw[hl,g1]) (by rw[hm,g3]) (λj x d hxj hd=>?_) (λj x d hxj hd=>?_)
   .obtain⟨d0,k1,k2⟩:=g2 j d hd;exact ih1 j x d0 hxj k1 d (λg k s tys rows hm=>hrw g k s tys rows (by simp only[D.ois];exact bH _ (Wi (ag k1) _ hm))) k2
   .obtain⟨d0,k1,k2⟩:=g4 j d hd;exact ih2 j x d0 hxj k1 d (λg k s tys rows hm=>hrw g k s tys rows (by simp only[D.ois];exact bD _ (Wi (ag k1) _ hm))) k2
  .cases he
theorem Arz(hI:Inv C S w ρ R){y:AV}(h:RdA S w ρ v x)(hrw:Alj R rw x.ois)(e:x.view R rw=some y):RdA (I3 S ρ R) w [] v y:=by
 cases h with
 | d h=>
  simp only[AV.view]at e;split at e
  .rename_i d' hd;simp at e;subst e;exact .d (Ago hI h _ hrw hd)
  .cases e
 | agg h=>
  simp only[AV.view]at e;split at e
  .rename_i es hes;simp at e;subst e;obtain⟨g1,g2⟩:=yD hes;refine .agg (da (by rw[h.length,g1]) λj x d hx hd=>?_);obtain⟨d0,k1,k2⟩:=g2 j d hd;exact Ago hI (h.both hx k1) d (λg k s tys rows hm=>hrw g k s tys rows (Wi (ag k1) _ hm)) k2
  .cases e
 |tup=>simp[AV.view]at e
theorem Tz(hI:Inv C S w ρ R){rw:List Pd}:∀{vs:eA}{xs ys:List AV},Ay (RdA S w ρ) vs xs->Alj R rw (oisL xs)->AV.viewL R rw xs=some ys->Ay (RdA (I3 S ρ R) w []) vs ys
 | [],[],ys,_,_,e=>by simp[AV.viewL]at e;subst e;trivial
 | v::vs,d::ds,ys,h,hrw,e=>by
  simp only[AV.viewL]at e;split at e
  .rename_i x l e1 e2;simp at e;subst e;exact⟨Arz hI h.1 (λg k s tys rows hm=>hrw g k s tys rows (by simp only[oisL];exact bH _ hm)) e1,Tz hI h.2 (λg k s tys rows hm=>hrw g k s tys rows (by simp only[oisL];exact bD _ hm)) e2⟩
  .cases e
 | [],_::_,_,h,_,_=>h.elim
 |_::_,[],_,h,_,_=>h.elim
theorem zF:d.norm.ois=d.ois:=by unfold D.norm;split <;> rfl
theorem Zr:∀{l:List D},dl (l.map D.norm)=dl l
 | []=>rfl
 |d::r=>by simp only[bv,dl,zF,Zr]
theorem As0:x.norm.ois=x.ois:=by
 cases x with
 |d x=>exact zF
 |agg l=>exact Zr
 |tup l=>rfl
theorem Un:∀{l:List AV},oisL (l.map AV.norm)=oisL l
 | []=>rfl
 |d::r=>by simp only[bv,oisL,As0,Un]
theorem Rd.flat(h:Rd S w ρ v d)(e:d.flat=true):Rd S' w' ρ' v d:=by
 unfold D.flat at e;split at e
 .cases h with|p h=>cases h with|v _ h=>exact .p (.v _ h)
 .cases e
theorem zA:∀{l:List AV},dD l=true->∀{j:Nat}{a:AV},l[j]?=some a->a.flat=true
 | [],_,j,a,h=>by simp at h
 |x::l,e,j,a,h=>by
  simp only[dD,aa]at e;cases j with
  |zero=>simp at h;subst h;exact e.1
  |succ j=>simp at h;exact zA e.2 h
theorem RdA.flat(h:RdA S w ρ v x):x.flat=true->RdA S' w' ρ' v x:=by
 induction h with
 |d h=>intro e;simp only[AV.flat]at e;exact .d (h.flat e)
 |agg h=>intro e;simp only[AV.flat,aD]at e;exact .agg (da h.length λj x d hx hd=>(h.both hx hd).flat (e d (ag hd)))
 |tup hl _ ih=>intro e;simp only[AV.flat]at e;exact .tup hl λj x a hx ha=>ih j x a hx ha (zA e ha)
theorem A4k(h:Ay (RdA S w ρ) vs args):Ay (RdA S w ρ) vs (nrm f args):=by
 unfold nrm;cases A4c f with
 |true=>exact h
 |false=>exact h.map_right λ_ _ h=>h.norm
theorem zE(hI:Inv C S w ρ R)(hv:Ay (RdA S w ρ) vs args){c:Cl}{out:Out}(h:Cx R args f c=some out)
  (hk:∀x,out.c=some x->x.ok P) :
  Dl P f/\Calls P f vs.toArray w λe w'=>∃v S' ρ',e=.returned v/\Du C S w ρ out.R v out.v S' w' ρ':=by
 unfold Cx at h;split at h
 .rename_i f' q1 res q2 q3 rw';cases hb:(Nat.beq f f'&&res.flat) with
  |false=>rw[hb]at h;simp at h
  | true=>
   rw[hb]at h;simp only[eh]at h;simp only[aa]at hb;obtain⟨args',rw2,rows,kk,e1,hrw,rfl⟩:∃args' rw2 rows kk,AV.viewL R rw2 (args.map AV.norm)=some args'/\(rows[kk]?=some rw2->Alj R rw2 (oisL (args.map AV.norm)))/\out=⟨res,R,some (.callB f args' res rows kk rw2)⟩:=by
    split at h
    .rename_i hois;split at h
     .rename_i args' e1;simp at h;subst h;refine⟨args',[],[[]],0,e1,λ_ g k s tys rows hm=>?_,rfl⟩;rw[Un,hois]at hm;cases hm
     .cases h
    .rename_i g k hois;split at h
     .rename_i s tys rows args' hg e1;simp at h;subst h;refine⟨args',rw',rows,k,e1,λhr g' k' s' tys' rows' hm hg'=>?_,rfl⟩;rw[Un,hois]at hm;simp at hm;obtain⟨rfl,rfl⟩:=hm;rw[hg]at hg';cases hg';exact hr
     .cases h
    .cases h
   .obtain⟨⟨hent,hcall⟩,hrw0⟩:=hk _ rfl;refine⟨hent,?_⟩;have hnorm:Ay (RdA S w ρ) vs (args.map AV.norm):=hv.map_right λ_ _ h=>h.norm;have hst:Start (I3 S ρ R) w [] []:=⟨rfl,by simp,by simp,by simp,λb hb=>by
     rcases hb with hb|⟨i,r,h,h1,h2,h3⟩
     .exact(hI.sup b hb).1
     .exact(hI.own i r h b h1 h2 h3).2.1,hI.glOk.mono (λ_ h=>.inl h) λ_ _=>rfl⟩
    refine(hcall _ w [] vs hst (Tz hI hnorm (hrw hrw0) e1)).mono λe w' hp=>?_;obtain⟨v,S',ρq,he,hr,hq⟩:=hp;have hno:∀b,¬Ei [] [] b:=by rintro b ⟨i,r,h,h1,_⟩;simp at h1
    have hsame:∀b,b<w.heap.size->w'.heap[b]?=w.heap[b]?:=λb hb=>hq.frm b hb (hno b);exact⟨v,S,ρ,he,hI.grow (λ_ h=>h) (λ_ h=>.inl h) hsame hq.size hq.os hq.tape hq.output,λ_ h=>h,λb hb=>hsame b (hI.sup b hb).1,Pre.refl _,hr.flat hb.2⟩
 .rename_i f' q1 q2 res R2 pi;cases hb:(Nat.beq f f'&&Fw pi&&Nat.ble pi.length R2.length) with
  |false=>rw[hb]at h;simp at h
  | true=>
   rw[hb]at h;simp only[eh]at h;simp only[aa]at hb;obtain⟨⟨hb1,hb2⟩,hb3⟩:=hb;have hlen:=aF hb3;split at h
   .rename_i args' Rp e1 e2;split at h
    .rename_i Rp' res' R2' e3 e4 e5;simp at h;subst h;obtain⟨hent,hcall⟩:=hk _ rfl;refine⟨hent,?_⟩;obtain⟨st,hid,_⟩:=hI.start hb2 e2 e3;have hargs:Ay (RdA S w (Dr ρ pi)) vs args':=by
      obtain⟨g1,g2⟩:=N1 e1;have hn:=A4k (f:=f) hv;refine da (by rw[hn.length,g1]) λj x d hx hd=>?_;obtain⟨d0,k1,k2⟩:=g2 j d hd;exact(hn.both hx k1).ren hid d k2
     refine(hcall S w (Dr ρ pi) vs st hargs).mono λe w' hp=>?_;obtain⟨v,S',ρq,he,hr,hq⟩:=hp;obtain⟨b1,b2,b3,b4,b5⟩:=hI.back hb2 e2 e3 hq hlen e5;exact⟨v,S',_,he,b1,b2,b3,b4,hr.ren b5 _ e4⟩
    .cases h
   .cases h
 .cases h
theorem O8:∀{ds:List D}{ps:List Pd}{vs:eA},dPs ds=some ps->Ay (Rd S w ρ) vs ds->Ay (RdP S w) vs ps
 | [],ps,vs,h,hv=>by simp[dPs]at h;subst h;cases vs with|nil=>trivial|cons=>exact hv.elim
 | d :: r, ps, vs, h, hv => by
  simp only[dPs]at h;split at h
  .rename_i x l h1 h2;simp at h;subst h;cases vs with
   |nil=>exact hv.elim
   | cons v vs=>
    refine⟨?_,O8 h2 hv.2⟩;unfold dP at h1;split at h1
    .simp at h1;subst h1;exact hv.1.p_inv
    .rename_i f;simp at h1;subst h1;have hfn:=hv.1;cases hfn with
     | @fn _ xs cs _ _ hl hm hx hc=>have e1:xs=[]:=bm (by simpa using hl);have e2:cs=[]:=bm (by simpa using hm);subst e1;subst e2;exact .v _ rfl
    .cases h1
  .cases h
theorem Ani(hp:Ay (RdP S w) cs.toList ps)(hl:cs.size=cap*size)(hn:n<=cap)(hm:cap<=maxLen)(hb:∀b,S b->b<w.heap.size) :
  (Res.sl e size (Cm size n (ps.take (n*size)))).ok0 S (w.alloc (.cells cs e)) (ρ++[.slice (some ⟨w.heap.size,0,none⟩) n cap]) (.slice (some ⟨w.heap.size,0,none⟩) n cap):=by
 have hpl:ps.length=cap*size:=by rw[←hp.length];simpa using hl
 have hle:n*size<=cap*size:=aX _ hn;refine .inr ⟨w.heap.size,0,cap,cs,by rw[Ea],.of (Fb _ _),by rw[Ea];exact hn,hm,by omega,Ld size n _ (by simp;omega),λi row hi j d hj=>?_⟩;have:=S8 size n _ i row hi;subst this;rw[ap]at hj;split at hj
 .rw[ar,ap]at hj;split at hj
  .obtain⟨x,hx,hr⟩:=hp.get hj;refine⟨x,by simpa[Nat.zero_add]using hx,hr.mono (λ_ h=>h) λb h=>B8 _ _ _ (hb b h)⟩
  .cases hj
 .cases hj
theorem Inv.newSl(hI:Inv C S w ρ R)(hp:Ay (RdP S w) cs.toList ps)(hl:cs.size=cap*size)(hn:n<=cap)(hm:cap<=maxLen) :
  Du C S w ρ (R++[.sl e size (Cm size n (ps.take (n*size)))]) (.slice (some ⟨w.heap.size,0,none⟩) n cap) (.d (.os R.length)) S (w.alloc (.cells cs e)) (ρ++[.slice (some ⟨w.heap.size,0,none⟩) n cap]):=by
 have hw:∀b,S b->(w.alloc (.cells cs e)).heap[b]?=w.heap[b]?:=λb hb=>B8 _ _ _ (hI.sup b hb).1;refine⟨hI.push _ _ (λb hb=>B8 _ _ _ hb) (by simp) rfl ⟨rfl,λ_=>by first|exact ai _|exact aC _⟩ rfl (.inr (Ani hp hl hn hm λb hb=>(hI.sup b hb).1)) ?_,λ_ h=>h,hw,Pre.append _ _,.d (.os ?_ rfl)⟩
 .intro b hb;simp[Res.foot]at hb;subst hb;simp
 .rw[←hI.len];simp
theorem Inv.newImm(hI:Inv C S w ρ R)(hp:Ay (RdP S w) cs.toList ps)(hl:cs.size=n*size)(hm:n<=maxLen) :
  Du C S w ρ R (.slice (some ⟨w.heap.size,0,none⟩) n n) (.d (.p (.s (Cm size n ps)))) (λb=>S b\/b=w.heap.size) (w.alloc (.cells cs e)) ρ:=by
 have hpl:ps.length=n*size:=by rw[←hp.length];simpa using hl
 have hw:∀b,S b->(w.alloc (.cells cs e)).heap[b]?=w.heap[b]?:=λb hb=>B8 _ _ _ (hI.sup b hb).1;have hok:=Ani (e:=e) (ρ:=ρ) (n:=n) (cap:=n) hp hl (ai _) hm (λb hb=>(hI.sup b hb).1);have htake:ps.take (n*size)=ps:=bY (by omega);rw[htake]at hok;have hfr:=Res.ok0.frozen hok;refine⟨hI.grow (λ_ h=>.inl h) (λb hb=>?_) (λb hb=>B8 _ _ _ hb) (by simp) rfl ⟨rfl,λ_=>by first|exact ai _|exact aC _⟩ rfl,λ_ h=>.inl h,hw,Pre.refl _,.d (.p (hfr.mono (λb hb=>?_) λ_ _=>rfl))⟩
 .rcases hb with hb|hb
  .exact .inl hb
  .subst hb;exact .inr ⟨ai _,by simp⟩
 .rcases hb with hb|hb
  .exact .inl hb
  .simp[Res.foot]at hb;exact .inr hb.symm
end
end Go.SL
namespace Go.SL
variable{α:Type}{ps:List (Nat×List D)}{vs:List (Nat×Value)}{len:Nat}{t:TypeId}{x z:Value}
section
variable{P:Program}{C:Ctx}{S S':Nat->Prop}{w w':World}{ρ ρ':eA}{R:List Res}{L:List Ent}{cur:A_}{a:Act}
theorem Ju(n:Nat)(l:List α):(Dv n l).length=n*l.length:=by
 induction n with
 |zero=>simp[Dv]
 |succ n ih=>simp[Dv,ih,Nat.add_mul];omega
theorem Aha{β:Type}{Q:α->β->Prop}{xs:List α}{ds:List β}(h:Ay Q xs ds)(n:Nat):Ay Q (Dv n xs) (Dv n ds):=by
 induction n with
 |zero=>trivial
 |succ n ih=>exact h.append ih
theorem K4(zs:Array Value)(n:Nat):((Array.range (n*zs.size)).map (λi=>zs[i % zs.size]!)).toList=Dv n zs.toList:=by
 rw[Array.toList_map,Array.toList_range];induction n with
 |zero=>simp[Dv]
 | succ n ih=>
  have e:(n+1)*zs.size=zs.size+n*zs.size:=by rw[az];omega
  rw[e,List.range_add,bh,cC];simp only[Dv];congr 1
  .apply bj;intro i;rw[au];by_cases hi:i<zs.size
   .rw[bA hi];simp[Nat.mod_eq_of_lt hi,hi]
   .rw[cD (by simp;omega),cD (by simp;omega)];rfl
  .rw[←ih];apply bf;intro i _;simp[Nat.add_mod_left]
theorem Ag4:∀{l:eA}{ds:List D},Fp l=some ds->ds.length=l.length:=λh=>(J1 (S:=λ_=>False) (w:=default) (ρ:=[]) h).length.symm
theorem Qr{e:TypeId}{size:Nat}{zs out:List D}(hu:P.underlying t=some (.slice e))(hs:A8 P e=some (size+1))(hz:Dn P e=some z)
  (hd:Fp z.cells.toList=some zs)(hzl:zs.length=size+1)(hle:len*(size+1)<=16777216)
  (hp:Ay (λ(p:Nat×Value)(q:Nat×List D)=>p.1=q.1/\Ay (Rd S w ρ) p.2.cells.toList q.2) vs ps)
  (hf:H5 ((List.range len).map λi=>(i*(size+1),size+1)) (Dv len zs) ps=some out)(hin:∀q,q∈vs->q.1<len) :
  ∃cs:Array Value,(Instr.buildSlice t len vs.toArray).run P w=.ok (.slice (some ⟨w.heap.size,0,none⟩) len len) (w.alloc (.cells cs e))/\Ay (Rd S w ρ) cs.toList out:=by
 have hzs:z.cells.size=size+1:=by have:=Ag4 hd;rw[hzl]at this;simpa using this.symm
 have hbase:Ay (Rd S w ρ) ((Array.range (len*(size+1))).map (λi=>z.cells[i % z.cells.size]!)).toList (Dv len zs):=by rw[←hzs,K4 z.cells];exact Aha (J1 hd) len
 obtain⟨r,hr1,hr2⟩:=Wq (λ(i:Nat)=>((List.range len).map λi=>(i*(size+1),size+1))[i]?) _ (λ_ _ h=>h) vs ps _ _ out hp hbase hf;have hfill:∀(vs:List (Nat×Value))(cs:Array Value),(∀q,q∈vs->q.1<len)->Instr.fill (λi=>some (i*(size+1),size+1)) cs vs=Instr.fill (λ(i:Nat)=>((List.range len).map λi=>(i*(size+1),size+1))[i]?) cs vs:=by
  intro vs;induction vs with
  |nil=>intro cs _;rfl
  | cons q vs ih=>
   intro cs hq;have h1:=hq q an;have e:((List.range len).map λi=>(i*(size+1),size+1))[q.1]?=some (q.1*(size+1),size+1):=by simp[h1]
   simp only[Instr.fill];rw[e];dsimp only;by_cases hc:(decide (q.2.cells.size≠size+1) || decide (q.1*(size+1)+q.2.cells.size>cs.size))=true
   .rw[ei hc,ei hc]
   .rw[em hc,em hc];exact ih _ (λq h=>hq q (am _ h))
 refine⟨r,?_,hr2⟩;have hle':¬(len*(size+1)>2 ^ 24):=by simp;omega
 simp only[Instr.buildSlice,eo,el hu,ep,Ch hs];rw[em hle'];by_cases h0:len*(size+1)=0
 .rw[ei h0];simp only[eo,eq,ep];have hcs:(Array.range (len*(size+1))).map (λi=>(#[]:Array Value)[i % (#[]:Array Value).size]!)=(Array.range (len*(size+1))).map (λi=>z.cells[i % z.cells.size]!):=by simp[h0]
  rw[hcs,hfill vs _ hin,hr1];simp[newRow]
 .rw[em h0];simp only[eo,eq,ep,Fz hz];rw[hfill vs _ hin,hr1];simp[newRow]
theorem X6{n:Nat}{pl:List (Nat×Nat)}(hpl:pl.length=n):∀{ds:List D}{ps:List (Nat×List D)}{out:List D},H5 pl ds ps=some out->∀q,q∈ps->q.1<n
 |_,[],_,_,q,hq=>by cases hq
 | ds,(i,es)::ps,out,h,q,hq=>by
  simp only[H5]at h;split at h
  .rename_i off size hp;have hi:i<n:=by rw[←hpl];exact(ac.1 hp).1
   cases hb:(Nat.beq es.length size&&Nat.ble (off+es.length) ds.length) with
   |false=>rw[hb]at h;simp at h
   |true=>
    rw[hb]at h;simp only[eh]at h;rcases ah.1 hq with rfl|hq
    .exact hi
    .exact X6 hpl h q hq
  .cases h
theorem O2{pl:List (Nat×Nat)}:∀{ds:List D}{ps:List (Nat×List D)}{out:List D},H5 pl ds ps=some out->out.length=ds.length
 |_,[],_,h=>by simp[H5]at h;rw[h]
 | ds,(i,es)::ps,out,h=>by
  simp only[H5]at h;split at h
  .rename_i off size hp;cases hb:(Nat.beq es.length size&&Nat.ble (off+es.length) ds.length) with
   |false=>rw[hb]at h;simp at h
   |true=>rw[hb]at h;simp only[eh]at h;simp only[aa]at hb;have:=aF hb.2;rw[O2 h];simp[Ik];omega
  .cases h
theorem RdP.nz{d:Pd}(h:RdP S w x d):RdP S w x d.nz:=by
 unfold Pd.nz;split
 .have:=h.v_form;subst this;exact .s none ⟨0,0,none⟩ 0 0 [] (λ_ _=>undef) (ai _) (by simp[maxLen]) (λ_=>rfl) (by simp) (by simp) (by simp)
 .exact h
theorem RdP.nzL{xs:eA}{ds:List Pd}(h:Ay (RdP S w) xs ds):Ay (RdP S w) xs (ds.map Pd.nz):=h.map_right λ_ _ h=>h.nz
theorem Zo(hI:Inv C S w ρ R){c:Cl}{out:Out}
  (hp:Ay (λ(p:Nat×Value)(q:Nat×List D)=>p.1=q.1/\Ay (Rd S w ρ) p.2.cells.toList q.2) vs ps)(h:He P R c t len ps=some out) :
  (Mh c=false->out.R=R)/\∃v w' S' ρ',(Instr.buildSlice t len vs.toArray).run P w=.ok v w'/\Du C S w ρ out.R v out.v S' w' ρ':=by
 unfold He at h;split at h
 .rename_i e hu;split at h
  .rename_i size zs hs hz;obtain⟨z,hz1,hz2⟩:=Dt hz;cases hb:(Nat.beq zs.length (size+1)&&Nat.ble (len*(size+1)) 16777216) with
   |false=>rw[hb]at h;simp at h
   | true=>
    rw[hb]at h;simp only[eh]at h;simp only[aa]at hb;have hzl:=af hb.1;have hle:=aF hb.2;split at h
    .rename_i pd he;obtain⟨ds,hf,hd⟩:=Dt he;have hin:∀q,q∈vs->q.1<len:=by
      intro q hq;obtain⟨j,hj,hjq⟩:=cP hq;have hjl:j<ps.length:=by rw[←hp.length];exact hj
      have:=hp.both (ak hj) (ak hjl);rw[hjq]at this;rw[this.1];exact X6 (by simp) hf _ (ck hjl)
     obtain⟨cs,hrun,hcs⟩:=Qr hu hs hz1 hz2 hzl hle hp hf hin;have hpd:=RdP.nzL (O8 hd hcs);have hcl:cs.size=len*(size+1):=by have h1:=hcs.length;have h2:=O2 hf;rw[Ju,hzl]at h2;simpa[h2]using h1
     have hmax:len<=maxLen:=by have:len<=len*(size+1):=cQ _ (by omega);simp[maxLen];omega
     cases ho:Mh c with
     |true=>rw[ho]at h;simp at h;subst h;refine⟨by simp,_,_,S,ρ++[.slice (some ⟨w.heap.size,0,none⟩) len len],hrun,?_⟩;have:=hI.newSl (e:=e) (n:=len) (cap:=len) hpd hcl (ai _) hmax;have htake:(pd.map Pd.nz).take (len*(size+1))=pd.map Pd.nz:=bY (by have:=hpd.length;simp at this ⊢;omega);rw[htake]at this;exact this
     |false=>rw[ho]at h;simp at h;subst h;exact⟨λ_=>rfl,_,_,_,ρ,hrun,hI.newImm hpd hcl hmax⟩
    .cases hq:Mh c with
     |false=>rw[hq]at h;simp at h
     | true=>
      rw[hq]at h;simp only[eh]at h;obtain⟨ds,hf,rfl⟩:=Cv h;have hin:∀q,q∈vs->q.1<len:=by
       intro q hq;obtain⟨j,hj,hjq⟩:=cP hq;have hjl:j<ps.length:=by rw[←hp.length];exact hj
       have:=hp.both (ak hj) (ak hjl);rw[hjq]at this;rw[this.1];exact X6 (by simp) hf _ (ck hjl)
      obtain⟨cs,hrun,hcs⟩:=Qr hu hs hz1 hz2 hzl hle hp hf hin;have hdl:ds.length=len*(size+1):=by have h2:=O2 hf;rw[Ju,hzl]at h2;simpa using h2
      have:len<=len*(size+1):=cQ _ (by omega);refine⟨by simp,_,_,S,ρ++[.slice (some ⟨w.heap.size,0,none⟩) len len],hrun,?_⟩;exact hI.newVec hcs hdl (by simp[maxLen];omega)
  .cases h
 .cases h
end
end Go.SL
namespace Go.SL
variable{av:AV}{cur news olds:Array Value}{rows:List (List Pd)}{c2 cap m n size:Nat}{b1 b2:Option Addr}{e t ty:TypeId}{i:TypeInfo}{h x z:Value}
section
variable{P:Program}{C:Ctx}{S S':Nat->Prop}{w w':World}{ρ ρ':eA}{R:List Res}
theorem Ee{α:Type}{size:Nat}:∀{rows:List (List α)},(∀l,l∈rows->l.length=size)->rows.flatten.length=rows.length*size
 | [],_=>by simp
 |l::rows,h=>by rw[cm,aP,Ee (λl hl=>h l (am _ hl)),h l an,aT,az];omega
theorem Mj{α:Type}{size:Nat}:∀{rows:List (List α)},(∀l,l∈rows->l.length=size)->∀{i j:Nat}{row:List α}{d:α},rows[i]?=some row->row[j]?=some d->rows.flatten[i*size+j]?=some d
 | [],_,i,j,row,d,h,_=>by simp at h
 |l::rows,h,0,j,row,d,hi,hj=>by simp at hi;subst hi;rw[cm,Nat.zero_mul,aJ,ax (ac.1 hj).1];exact hj
 |l::rows,h,i+1,j,row,d,hi,hj=>by simp only[cI]at hi;have hl:=h l an;rw[cm,aK (by rw[hl,az];omega),hl];rw[show (i+1)*size+j-size=i*size+j from by rw[az];omega];exact Mj (λl hl=>h l (am _ hl)) hi hj
theorem J0{α:Type}{size:Nat}:∀{rows:List (List α)},(∀l,l∈rows->l.length=size)->∀{k:Nat}{d:α},rows.flatten[k]?=some d->∃i j row,k=i*size+j/\rows[i]?=some row/\row[j]?=some d
 | [],_,k,d,h=>by simp at h
 | l::rows,h,k,d,hk=>by
  have hl:=h l an;rw[cm]at hk;rcases aR k l.length with hlt|hge
  .rw[ax hlt]at hk;exact⟨0,k,l,by simp,rfl,hk⟩
  .rw[aK hge]at hk;obtain⟨i,j,row,h1,h2,h3⟩:=J0 (λl hl=>h l (am _ hl)) hk;exact⟨i+1,j,row,by rw[az];omega,by simpa using h2,h3⟩
theorem Ln{e:Nat}:(Res.sl e size rows).ok0 S w ρ h↔(h=.slice none 0 0/\rows=[]) \/
   ∃b o cap vs,h=.slice (some ⟨b,o,none⟩) rows.length cap/\Blk w b vs e/\rows.length<=cap/\cap<=maxLen/\o+cap*size<=vs.size /\
    (∀row,row∈rows->row.length=size)/\Ay (RdP S w) ((vs.toList.drop o).take (rows.length*size)) rows.flatten:=by
 constructor
 .rintro (h0|⟨b,o,cap,vs,h1,h2,h3,h4,h5,h6,h7⟩)
  .exact .inl h0
  .refine .inr ⟨b,o,cap,vs,h1,h2,h3,h4,h5,h6,da ?_ λk x d hx hd=>?_⟩
   .have:rows.length*size<=cap*size:=aX _ h3;rw[Ee h6];simp;omega
   .obtain⟨i,j,row,e1,e2,e3⟩:=J0 h6 hd;obtain⟨y,hy,hr⟩:=h7 i row e2 j d e3;rw[ap]at hx;split at hx
    .rw[ar]at hx;subst e1;rw[←bg]at hx;have:vs[o+i*size+j]?=some x:=by simpa using hx
     rw[this]at hy;cases hy;exact hr
    .cases hx
 .rintro (h0|⟨b,o,cap,vs,h1,h2,h3,h4,h5,h6,h7⟩)
  .exact .inl h0
  .refine .inr ⟨b,o,cap,vs,h1,h2,h3,h4,h5,h6,λi row hi j d hj=>?_⟩;obtain⟨x,hx,hr⟩:=h7.get (Mj h6 hi hj);rw[ap]at hx;split at hx
   .rw[ar,←bg]at hx;exact⟨x,by simpa using hx,hr⟩
   .cases hx
theorem RdP.s_inv(h:RdP S w x (.s rows)):∃(a:Option Addr)(ad:Addr)(cap sz:Nat)(xs:Nat->Nat->Value),x=.slice a rows.length cap /\
  (∀row,row∈rows->row.length=sz) /\
  (∀(i:Nat) row,rows[i]?=some row->∀(j:Nat) d,row[j]?=some d->a=some ad/\S ad.block/\w.cell? (ad.add (i*sz+j))=some (xs i j)) /\
  (∀(i:Nat) row,rows[i]?=some row->∀(j:Nat) d,row[j]?=some d->RdP S w (xs i j) d):=by
 cases h with
 |s a ad cap sz _ xs _ _ _ hsz hx hr=>exact⟨a,ad,cap,sz,xs,rfl,hsz,hx,hr⟩
theorem Ang(hI:Inv C S w ρ R)(hr:RdA S w ρ x av)(h:Ho R size av=some rows)(hsz:∀l,l∈rows->l.length=size) :
  ∃b c,x=.slice b rows.length c/\∀(k:Nat) d,rows.flatten[k]?=some d->∃ad v,b=some ad/\w.cell? (ad.add k)=some v/\RdP S w v d:=by
 unfold Ho at h;split at h
 .rename_i rows';simp at h;subst h;obtain⟨b,ad,cap,sz,xs,hform,hsz',hx,hrr⟩:=hr.d_inv.p_inv.s_inv;refine⟨b,cap,hform,λk d hk=>?_⟩;obtain⟨i,j,row,e1,e2,e3⟩:=J0 hsz hk;obtain⟨g1,g2,g3⟩:=hx i row e2 j d e3;have:sz=size:=by rw[←hsz' row (ag e2),hsz row (ag e2)]
  subst this;subst e1;exact⟨ad,_,g1,g3,hrr i row e2 j d e3⟩
 .simp at h;subst h;exact⟨none,0,hr.exact_inv,by simp⟩
 .rename_i i;split at h
  .rename_i e s rows' hi;cases hb:Nat.beq s size with
   |false=>rw[hb]at h;simp at h
   | true=>
    rw[hb]at h;simp at h;subst h;have hs:=af hb;subst hs;have hρ:=hr.d_inv.os_inv;rcases(hI.ok i _ x hi hρ).live hr.d_inv.one with⟨h1,h2⟩|⟨b,o,cap,vs,h1,h2,h3,h4,h5,h6,h7⟩
    .subst h2;exact⟨none,0,h1,by simp⟩
    .refine⟨some ⟨b,o,none⟩,cap,h1,λk d hk=>?_⟩;obtain⟨i,j,row,e1,e2,e3⟩:=J0 h6 hk;obtain⟨y,hy,hR⟩:=h7 i row e2 j d e3;refine⟨⟨b,o,none⟩,y,rfl,?_,hR⟩;rw[Cn,h2.cell,e1,←bg];exact hy
  .cases h
 .rename_i i lo n s2;split at h
  .rename_i e s rows' hi;cases hb:(Nat.beq s size&&Nat.beq s2 s) with
   |false=>rw[hb]at h;simp at h
   | true=>
    rw[hb]at h;simp at h;subst h;simp only[aa]at hb;have hs:=af hb.1;subst hs;have hs:=af hb.2;subst hs;cases hr.d_inv with
    | @osb _ _ _ _ q a len cap hρ hl hc hq hq2=>
     rcases(hI.ok i _ _ hi hρ).live rfl with⟨h1,h2⟩|⟨b,o,cap',vs,h1,h2,h3,h4,h5,h6,h7⟩
     .cases h1;subst h2;have:n=0:=by omega
      subst this;exact⟨_,_,rfl,by simp⟩
     .cases h1;have hlen:((rows'.drop lo).take n).length=n:=by simp;omega
      refine⟨_,cap-lo,by rw[hlen],λk d hk=>?_⟩;have h6':∀l,l∈(rows'.drop lo).take n->l.length=s2:=λl hl=>h6 l (cx (bc hl));obtain⟨i,j,row,e1,e2,e3⟩:=J0 h6' hk;have hin:i<n:=by have:=(ac.1 e2).1;rw[hlen]at this;exact this
      rw[ap,ei hin,ar]at e2;obtain⟨y,hy,hR⟩:=h7 (lo+i) row e2 j d e3;have hne:q=lo*s2:=hq2 (by omega);refine⟨(⟨b,o,none⟩:Addr).add (lo*s2),y,by rw[hne];rfl,?_,hR⟩;rw[Cn,Cn,h2.cell,←hy,e1];congr 1;rw[az];omega
  .cases h
 .cases h
theorem Ud(hI:Inv C S w ρ R)(hr:RdA S w ρ x av)(h:Ho R size av=some rows)(hsz:∀l,l∈rows->l.length=size)(hm:m<=rows.length) :
  ∃b c vs,x=.slice b rows.length c/\(∀w2:World,(∀a,w2.cell? a=w.cell? a)->(Builtin.firstCells size m x).run P w2=.ok vs w2)/\Ay (RdP S w) vs.toList (rows.take m).flatten:=by
 obtain⟨b,c,hform,hcell⟩:=Ang hI hr h hsz;have hsz':∀l,l∈rows.take m->l.length=size:=λl hl=>hsz l (bc hl);have hfl:(rows.take m).flatten.length=m*size:=by rw[Ee hsz',aN,cy hm]
 have hpre:∀(k:Nat) d,(rows.take m).flatten[k]?=some d->rows.flatten[k]?=some d:=by
  intro k d hk;obtain⟨i,j,row,e1,e2,e3⟩:=J0 hsz' hk;rw[ap]at e2;split at e2
  .rw[e1];exact Mj hsz e2 e3
  .cases e2
 cases b with
 | none=>
  have hnil:(rows.take m).flatten=[]:=by
   cases hf:(rows.take m).flatten with
   |nil=>rfl
   |cons d l=>obtain⟨ad,v,e,_⟩:=hcell 0 d (hpre 0 d (by rw[hf];rfl));cases e
  refine⟨none,c,#[],hform,λw2 _=>?_,by rw[hnil];trivial⟩;rw[hform];simp[Builtin.firstCells]
 | some ad=>
  let vs:eA:=(List.range (m*size)).map λk=>(w.cell? (ad.add k)).getD undef
  have hvl:vs.length=m*size:=by simp[vs]
  have hvc:∀(k:Nat) v,vs[k]?=some v->w.cell? (ad.add k)=some v:=by
   intro k v hk;have hkl:k<m*size:=by rw[←hvl];exact(ac.1 hk).1
   obtain⟨ad',v',e,hv',_⟩:=hcell k _ (hpre k _ (ak (by rw[hfl];exact hkl)));cases e;simp only[vs]at hk;rw[au,bA hkl]at hk;simp only[aU,hv',cG]at hk;rw[hv'];exact hk
  refine⟨some ad,c,vs.toArray,hform,λw2 h2=>?_,?_⟩
  .have hlc:=run_loadCells_list (P:=P) w2 ad vs (λj v hv=>by rw[h2];exact hvc j v hv);rw[hform];simp only[Builtin.firstCells];rw[←hvl];exact hlc
  .refine da (by rw[hfl];exact hvl) λk v d hv hd=>?_;obtain⟨ad',v',e,hv',hR⟩:=hcell k d (hpre k d hd);cases e;rw[hvc k v hv]at hv';cases hv';exact hR
theorem Anf(hI:Inv C S w ρ R)(hr:RdA S w ρ x av)(h:Ho R size av=some rows)(hsz:∀l,l∈rows->l.length=size) :
  ∃b c vs,x=.slice b rows.length c/\(∀w2:World,(∀a,w2.cell? a=w.cell? a)->(Builtin.firstCells size rows.length x).run P w2=.ok vs w2)/\Ay (RdP S w) vs.toList rows.flatten:=by
 obtain⟨b,c,vs,h1,h2,h3⟩:=Ud (P:=P) hI hr h hsz (ai _);rw[be]at h3;exact⟨b,c,vs,h1,h2,h3⟩
theorem Inv.move(h:Inv C S w ρ R){i:Nat}{r r':Res}{v v':Value}(hi:R[i]?=some r)(hv:ρ[i]?=some v)
  (hw:∀k,k<w.heap.size->¬r.foot v k->w'.heap[k]?=w.heap[k]?)(hsz:w.heap.size<=w'.heap.size)(ho:w'.os=w.os)(ht:Tp w w')(hp:w'.output=w.output)
  (hf:∀k,r'.foot v' k->r.foot v k\/w.heap.size<=k/\k<w'.heap.size)(hok:r'.ok S w' (ρ++[v']) v'):Inv C S w' (ρ++[v']) (R.set i .non++[r']):=by
 have hS:∀k,S k->w'.heap[k]?=w.heap[k]?:=λk hk=>hw k (h.sup k hk).1 (λe=>(h.own i r v k hi hv e).1 hk);have key:∀(j:Nat) r1 v1,(R.set i .non++[r'])[j]?=some r1->(ρ++[v'])[j]?=some v1->(j=R.length/\r1=r'/\v1=v')\/r1=.non\/(j≠i/\R[j]?=some r1/\ρ[j]?=some v1):=by
  intro j r1 v1 h1 h2;rcases D8 h1 with h1|⟨rfl,rfl⟩
  .rcases D8 h2 with h2|⟨rfl,rfl⟩
   .rw[aB]at h1;split at h1
    .split at h1
     .cases h1;exact .inr (.inl rfl)
     .cases h1
    .rename_i e;exact .inr (.inr ⟨λe'=>e e'.symm,h1,h2⟩)
   .have:=(ac.1 h1).1;simp at this;rw[h.len]at this;omega
  .rcases D8 h2 with h2|⟨_,rfl⟩
   .have:=(ac.1 h2).1;simp at this;rw[h.len]at this;omega
   .exact .inl ⟨by simp,rfl,rfl⟩
 have cross:∀(j:Nat) r1 v1 b,j≠i->R[j]?=some r1->ρ[j]?=some v1->r1.foot v1 b->r'.foot v' b->False:=by
  intro j r1 v1 b hj h1 h2 h3 h4;rcases hf b h4 with h5|h5
  .exact h.dis j i r1 r v1 v b hj h1 hi h2 hv h3 h5
  .have:=(h.own j r1 v1 b h1 h2 h3).2.1;omega
 refine⟨by simp[h.len],?_,?_,?_,h.sub,?_,?_,ay h.size hsz,ho.trans h.os,ht.trans h.tape,hp.trans h.output,h.pre.trans (Pre.append _ _),h.gl⟩
 .intro j r1 v1 h1 h2;rcases key j r1 v1 h1 h2 with⟨_,rfl,rfl⟩|rfl|⟨hj,g1,g2⟩
  .exact hok
  .exact .inr trivial
  .exact(h.ok j r1 v1 g1 g2).mono (λ_ h=>h) hS (Pre.append _ _) λb hb=>hw b (h.own j r1 v1 b g1 g2 hb).2.1 λe=>h.dis j i r1 r v1 v b hj g1 hi g2 hv hb e
 .intro j k r1 r2 v1 v2 b hjk h1 h2 h3 h4 h5 h6;rcases key j r1 v1 h1 h3 with⟨ej,er,ev⟩|rfl|⟨hj,g1,g2⟩
  .rcases key k r2 v2 h2 h4 with⟨ek,_,_⟩|rfl|⟨hk,m1,m2⟩
   .exact hjk (ej.trans ek.symm)
   .simp[Res.foot]at h6
   .subst er;subst ev;exact cross k r2 v2 b hk m1 m2 h6 h5
  .simp[Res.foot]at h5
  .rcases key k r2 v2 h2 h4 with⟨ek,er,ev⟩|rfl|⟨hk,m1,m2⟩
   .subst er;subst ev;exact cross j r1 v1 b hj g1 g2 h5 h6
   .simp[Res.foot]at h6
   .exact h.dis j k r1 r2 v1 v2 b hjk g1 m1 g2 m2 h5 h6
 .intro j r1 v1 b h1 h2 h3;rcases key j r1 v1 h1 h2 with⟨_,rfl,rfl⟩|rfl|⟨hj,g1,g2⟩
  .rcases hf b h3 with h5|h5
   .obtain⟨o1,o2,o3⟩:=h.own i r v b hi hv h5;exact⟨o1,aE o2 hsz,o3⟩
   .exact⟨λhb=>by have:=(h.sup b hb).1;omega,h5.2,.inr (ay h.size h5.1)⟩
  .simp[Res.foot]at h3
  .obtain⟨o1,o2,o3⟩:=h.own j r1 v1 b g1 g2 h3;exact⟨o1,aE o2 hsz,o3⟩
 .intro b hb;exact⟨aE (h.sup b hb).1 hsz,(h.sup b hb).2⟩
 .intro b hb hnf;refine(hw b (aE hb h.size) λe=>?_).trans (h.frm b hb hnf);rcases(h.own i r v b hi hv e).2.2 with k|k
  .exact hnf k
  .omega
theorem qQ{bytes:Nat}(hs:A8 P e=some size)(hb:(P.info? e).map (·.bytes)=some bytes)(hz:Dn P e=some z) :
  ∃i,P.info? e=some i/\i.size=size/\i.bytes=bytes/\i.zero=some z:=by
 unfold A8 at hs;unfold Dn at hz;cases hi:P.info? e with
 |none=>rw[hi]at hs;cases hs
 |some i=>rw[hi]at hs hb hz;simp at hs hb hz;exact⟨i,rfl,hs,hb,hz⟩
theorem Ab4(ht:P.underlying t=some (.slice e))(hi:P.info? e=some i){g o:Nat}(hg:Blk w g cur e)
  (hx:x=.slice b2 m c2)(hf:(Builtin.firstCells i.size m x).run P w=.ok news w)(h1:∀u,u∈news.toList->u.oneCell'=true)
  (hroom:n+m<=cap)(hfit:o+n*i.size+news.size<=cur.size) :
  (Builtin.append_ #[t,t] ty #[.slice (some ⟨g,o,none⟩) n cap,x]).run P w =
   .ok (.slice (some ⟨g,o,none⟩) (n+m) cap) (w.setRow g (cur.toList.take (o+n*i.size)++news.toList++cur.toList.drop (o+n*i.size+news.toList.length)).toArray):=by
 have hst:=Hs (P:=P) (w:=w) (g:=g) (o:=o+n*i.size) (t:=e) (vs:=news.toList) (cur:=cur) hg (by simpa using hfit) h1;subst hx;simp[Builtin.append_,el ht,sizeOf,typeInfo,hi,Builtin.lenOf,hroom,hf,Cn];simp at hst;rw[hst];rfl
theorem Ug(ht:P.underlying t=some (.slice e))(hi:P.info? e=some i)(hz:i.zero=some z) 
  (ho:(Builtin.firstCells i.size n (.slice b1 n cap)).run P w.drew=.ok olds w.drew)
  (hx:x=.slice b2 m c2)(hf:(Builtin.firstCells i.size m x).run P w.drew=.ok news w.drew)
  (hroom:¬n+m<=cap)(h63:((n+m:Nat):Int)<=9223372036854775807)(hfit:Builtin.nextslicecap (n+m) cap*i.bytes<=281474976710656) :
  (Builtin.append_ #[t,t] ty #[.slice b1 n cap,x]).run P w =
   .ok (.slice (some ⟨w.heap.size,0,none⟩) (n+m) (grownCap w (n+m) cap e))
    (w.drew.alloc (.cells (olds++news++Builtin.zeroCells z.cells (grownCap w (n+m) cap e-(n+m))) e)):=by
 have h63':¬(9223372036854775807<((n:Int)+(m:Int))):=by omega
 have h48':¬(281474976710656<Builtin.nextslicecap (n+m) cap*i.bytes):=by omega
 subst hx;simp[Builtin.append_,el ht,sizeOf,typeInfo,zeroValue,hi,hz,Builtin.lenOf,hroom,h63',h48',Question.forced,hf,ho,newRow,grownCap]
end
end Go.SL
namespace Go.SL
variable{ts:Array TypeId}{cs vs:Array Value}{c:Cl}{rows rows2:List (List Pd)}{args:List AV}{cells:List D}{xs:eA}{b e i n size:Nat}{len x:Option Value}{out:Out}{d s t ty:TypeId}{h v z:Value}
section
variable{P:Program}{C:Ctx}{S S':Nat->Prop}{w w':World}{ρ ρ':eA}{R:List Res}{L:List Ent}{cur:A_}{a:Act}
theorem Inv.drew(hI:Inv C S w ρ R):Inv C S w.drew ρ R:=
 hI.grow (λ_ h=>h) (λ_ h=>.inl h) (λ_ _=>rfl) (ai _) rfl ⟨rfl,λ_=>by first|exact ai _|exact aC _⟩ rfl
theorem Yh{vs:eA}{ps:List Pd}(h:Ay (RdP S w) vs ps):∀u,u∈vs->u.oneCell'=true:=by
 induction vs generalizing ps with
 |nil=>simp
 | cons x xs ih=>cases ps with
  |nil=>exact h.elim
  |cons d ds=>grind[Ay,RdP.one]
theorem Xv{cap:Nat}(hp:Ay (RdP S w) xs rows.flatten)(hu:∀l,l∈rows->l.length=size)(hn:n=rows.length)
  (hcs:cs.toList.take (n*size)=xs)(hsz:cap*size<=cs.size)(hcap:n<=cap)(hm:cap<=maxLen)(hb:∀b,S b->b<w.heap.size){w2:World}(hw2:w2.heap=w.heap) :
  (Res.sl e size rows).ok0 S (w2.alloc (.cells cs e)) (ρ++[.slice (some ⟨w.heap.size,0,none⟩) n cap]) (.slice (some ⟨w.heap.size,0,none⟩) n cap):=by
 subst hn;refine Ln.2 (.inr ⟨w.heap.size,0,cap,cs,rfl,by rw[←hw2];exact .of (Fb _ _),hcap,hm,by omega,hu,?_⟩);simp only[List.drop_zero];rw[hcs];exact hp.mono λ_ _ h=>h.mono (λ_ h=>h) λb h=>by have:=hb b h;rw[←hw2]at this ⊢;exact B8 _ _ _ this
theorem Anz{c s:Nat}(h:n<=c):c*s<=n*s+(c-n)*s:=by rw[←az];exact aX _ (by omega)
theorem Ael(hI:Inv C S w ρ R){t ty bytes:Nat}(ht:P.underlying t=some (.slice e))(hs:A8 P e=some (size+1))(hby:(P.info? e).map (·.bytes)=some bytes)(hz:Dn P e=some z)
  (hzn:z.cells.size=size+1){x:Value}{y:AV}(hi:R[i]?=some (.sl e (size+1) rows))(hρ:ρ[i]?=some h)(hal:h.oneCell'=true)(hx:RdA S w ρ x y)(hsrc:Ho R (size+1) y=some rows2)
  (hu2:∀l,l∈rows2->l.length=size+1)(hroom:(rows.length+rows2.length)*(bytes+1)<=140737488355328) :
  ∃v w' ρ',(Builtin.append_ #[t,t] ty #[h,x]).run P w=.ok v w'/\Du C S w ρ (R.set i .non++[.sl e (size+1) (rows++rows2)]) v (.d (.os R.length)) S w' ρ':=by
 obtain⟨info,i1,i2,i3,i4⟩:=qQ hs hby hz;obtain⟨b2,c2,news,hxf,hfc,hnr⟩:=Anf (P:=P) hI hx hsrc hu2;have hnews:news.size=rows2.length*(size+1):=by have:=hnr.length;rw[Ee hu2]at this;simpa using this
 have hnl:news.toList.length=rows2.length*(size+1):=by simpa using hnews
 have hb1:(rows.length+rows2.length)*bytes<=140737488355328:=ay (Nat.mul_le_mul_left _ (aC _)) hroom;have hb2:rows.length+rows2.length<=140737488355328:=ay (cQ _ (bZ bytes)) hroom;have hlenS:R.length=ρ.length:=hI.len.symm;have hfc':(Builtin.firstCells info.size rows2.length x).run P w=.ok news w:=by rw[i2];exact hfc w (λ_=>rfl)
 have hfd:(Builtin.firstCells info.size rows2.length x).run P w.drew=.ok news w.drew:=by rw[i2];exact hfc w.drew (λ_=>rfl)
 have fin:∀(n cap:Nat)(cs:Array Value)(xs:eA),n=rows.length+rows2.length->Ay (RdP S w) xs (rows++rows2).flatten->(∀l,l∈rows->l.length=size+1)->cs.toList.take (n*(size+1))=xs->cap*(size+1)<=cs.size->n<=cap->cap<=maxLen ->
   Du C S w ρ (R.set i .non++[.sl e (size+1) (rows++rows2)]) (.slice (some ⟨w.heap.size,0,none⟩) n cap) (.d (.os R.length)) S (w.drew.alloc (.cells cs e)) (ρ++[.slice (some ⟨w.heap.size,0,none⟩) n cap]):=by
  intro n cap cs xs hn hp hu hcs hsz hcap hm;have hok:=Xv (e:=e) (ρ:=ρ) (size:=size+1) (n:=n) hp (λl hl=>(aw.1 hl).elim (hu l) (hu2 l)) (by simp[hn]) hcs hsz hcap hm (λb hb=>(hI.sup b hb).1) (w2:=w.drew) rfl;have hw:∀b,b<w.heap.size->(w.drew.alloc (.cells cs e)).heap[b]?=w.heap[b]?:=λb hb=>B8 w.drew _ b hb;refine⟨hI.move hi hρ (λk hk _=>hw k hk) (by simp) rfl ⟨rfl,λ_=>by first|exact ai _|exact aC _⟩ rfl (λk hk=>?_) (.inr hok),λ_ h=>h,λb hb=>hw b (hI.sup b hb).1,Pre.append _ _,.d (.os ?_ rfl)⟩
  .simp[Res.foot]at hk;subst hk;exact .inr ⟨ai _,by simp⟩
  .rw[hlenS];simp
 rcases Ln.1 ((hI.ok i _ h hi hρ).live hal) with⟨h1,h2⟩|⟨b,o,cap,vs,h1,h2,h3,h4,h5,h6,h7⟩
 .subst h1;subst h2;by_cases hm:rows2.length=0
  .have hr2:rows2=[]:=bm hm;subst hr2;refine⟨.slice none 0 0,w,ρ++[.slice none 0 0],?_,⟨hI.move hi hρ (λ_ _ _=>rfl) (ai _) rfl ⟨rfl,λ_=>by first|exact ai _|exact aC _⟩ rfl (λk hk=>by simp[Res.foot]at hk) (.inr (.inl ⟨rfl,rfl⟩)),λ_ h=>h,λ_ _=>rfl,Pre.append _ _,.d (.os (by rw[hlenS];simp) rfl)⟩⟩;have:news = #[]:=Array.eq_empty_of_size_eq_zero (by simpa using hnews);subst this;subst hxf;simp at hfc';simp[Builtin.append_,el ht,sizeOf,typeInfo,i1,Builtin.lenOf,hfc']
  .have hg:=Ug (P:=P) (w:=w) (t:=t) (ty:=ty) (e:=e) ht i1 i4 (b1:=none) (n:=0) (cap:=0) (olds:=#[]) (by simp[Builtin.firstCells]) hxf hfd (by omega) (by simp at hb2;omega) (by
    rw[i3];exact growslice_fits (by omega) (by simpa using hb1))
   refine⟨_,_,_,hg,fin _ _ _ news.toList (by simp) (by simpa using hnr) (by simp) ?_ ?_ (grownCap_ge _ _ _ _) (grownCap_le_maxLen _ _ _ _ (by simp[maxLen];simp at hb2;omega))⟩
   .simp only[Array.empty_append,Array.toList_append,aJ];rw[←hnews];have:news.size=news.toList.length:=by simp
    rw[this];exact List.take_left
   .have:=grownCap_ge w (0+rows2.length) 0 e;have h2:=Anz (s:=size+1) this;simp only[Array.size_append,size_zeroCells,hzn,hnews,bB,bn];simpa using h2
 .subst h1;have hold:((vs.toList.drop o).take (rows.length*(size+1))).length=rows.length*(size+1):=by rw[h7.length,Ee h6]
  by_cases hm:rows.length+rows2.length<=cap
  .have hfit:o+rows.length*info.size+news.size<=vs.size:=by
    rw[i2,hnews];have:(rows.length+rows2.length)*(size+1)<=cap*(size+1):=aX _ hm;rw[az]at this;omega
   have hr:=Ab4 (P:=P) (w:=w) (t:=t) (ty:=ty) (e:=e) ht i1 h2 hxf hfc' (Yh hnr) hm hfit;have hown:=hI.own i _ _ b hi hρ rfl;have hw:∀k,k≠b->(w.setRow b (vs.toList.take (o+rows.length*info.size)++news.toList++vs.toList.drop (o+rows.length*info.size+news.toList.length)).toArray).heap[k]?=w.heap[k]?:=λk hk=>Bg _ _ _ _ hk;have hS:∀k,S k->(w.setRow b (vs.toList.take (o+rows.length*info.size)++news.toList++vs.toList.drop (o+rows.length*info.size+news.toList.length)).toArray).heap[k]?=w.heap[k]?:=λk hk=>hw k (λe=>hown.1 (e ▸ hk));refine⟨_,_,ρ++[.slice (some ⟨b,o,none⟩) (rows.length+rows2.length) cap],hr,⟨hI.move hi hρ (λk _ hk=>hw k (λe=>hk (by simp[Res.foot,e]))) (by simp) rfl ⟨rfl,λ_=>by first|exact ai _|exact aC _⟩ rfl (λk hk=>by simp[Res.foot]at hk ⊢;exact .inl hk) ?_,λ_ h=>h,hS,Pre.append _ _,.d (.os (by rw[hlenS];simp) rfl)⟩⟩;refine .inr (Ln.2 (.inr ⟨b,o,cap,_,by simp,h2.put (by simp only[bB,aP,aN,bJ,cj];simp only[Array.size]at hfit h5 ⊢;omega),by simpa using hm,h4,?_,λl hl=>(aw.1 hl).elim (h6 l) (hu2 l),?_⟩))
   .simp only[bB,aP,aN,bJ,cj];simp only[Array.size]at hfit h5 ⊢;omega
   .have key:(((vs.toList.take (o+rows.length*info.size)++news.toList++vs.toList.drop (o+rows.length*info.size+news.toList.length)).drop o).take ((rows++rows2).length*(size+1)))=(vs.toList.drop o).take (rows.length*(size+1))++news.toList:=by
     rw[i2];have e1:(vs.toList.take (o+rows.length*(size+1))++news.toList++vs.toList.drop (o+rows.length*(size+1)+news.toList.length)).drop o=(vs.toList.drop o).take (rows.length*(size+1))++(news.toList++vs.toList.drop (o+rows.length*(size+1)+news.toList.length)):=by rw[bF,List.drop_append_of_le_length (by simp;omega),List.drop_take];congr 2;omega
     rw[e1,←bF];have:(rows++rows2).length*(size+1)=((vs.toList.drop o).take (rows.length*(size+1))++news.toList).length:=by
      have h9:((vs.toList.drop o).take (rows.length*(size+1))++news.toList).length=rows.length*(size+1)+rows2.length*(size+1):=by rw[aP,hold,hnl]
      rw[h9,aP,az]
     rw[this];exact List.take_left
    rw[key,ci];exact(h7.append hnr).mono λ_ _ h=>h.mono (λ_ h=>h) hS
  .have hcell:∀(j:Nat) v,((vs.toList.drop o).take (rows.length*(size+1)))[j]?=some v->w.drew.cell? ((⟨b,o,none⟩:Addr).add j)=some v:=by
    intro j v hv;rw[ap]at hv;split at hv
    .rw[ar]at hv;rw[World.cell?_drew,Cn,h2.cell];simpa using hv
    .cases hv
   have hlc:=run_loadCells_list (P:=P) w.drew ⟨b,o,none⟩ _ hcell;rw[hold]at hlc;have hg:=Ug (P:=P) (w:=w) (t:=t) (ty:=ty) (e:=e) ht i1 i4 (b1:=some ⟨b,o,none⟩) (n:=rows.length) (cap:=cap) (olds:=((vs.toList.drop o).take (rows.length*(size+1))).toArray) (by rw[i2];simpa[Builtin.firstCells]using hlc) hxf hfd hm (by omega) (by rw[i3];exact growslice_fits (by omega) hb1)
   refine⟨_,_,_,hg,fin _ _ _ ((vs.toList.drop o).take (rows.length*(size+1))++news.toList) rfl (by rw[ci];exact h7.append hnr) h6 ?_ ?_ (grownCap_ge _ _ _ _) (grownCap_le_maxLen _ _ _ _ (by simp[maxLen];omega))⟩
   .simp only[Array.toList_append];have:(rows.length+rows2.length)*(size+1)=((vs.toList.drop o).take (rows.length*(size+1))++news.toList).length:=by
     have h9:((vs.toList.drop o).take (rows.length*(size+1))++news.toList).length=rows.length*(size+1)+rows2.length*(size+1):=by rw[aP,hold,hnl]
     rw[h9,az]
    rw[this];exact List.take_left
   .have h8:=Anz (s:=size+1) (grownCap_ge w (rows.length+rows2.length) cap e);simp only[Array.size_append,size_zeroCells,hzn,hnews,bB,hold];rw[az]at h8;exact h8
theorem Kd(hI : Inv C S w ρ R)(hv : Ay (RdA S w ρ) vs.toList args)(h : Ck P R c ts.toList args = some out)
  (hk:∀x,out.c=some x->x.ok P):∃v w' ρ',(Builtin.append_ ts ty vs).run P w=.ok v w'/\Du C S w ρ out.R v out.v S w' ρ':=by
 unfold Ck at h;split at h
 .rename_i ts' t u x y hts;cases hb:Nat.beq t u with
  |false=>rw[hb]at h;simp at h
  | true =>
   rw[hb]at h;simp only[eh]at h;have:=af hb;subst this;obtain⟨v0,v1,hvs,r0,r1⟩:∃v0 v1,vs = #[v0,v1]/\RdA S w ρ v0 x/\RdA S w ρ v1 y:=by
    obtain⟨l⟩:=vs
    match l,hv with
    | [v0,v1],hv=>exact⟨v0,v1,rfl,hv.1,hv.2.1⟩
    | [],hv=>exact hv.elim
    | [_],hv=>exact hv.2.elim
    |_::_::_::_,hv=>exact hv.2.2.elim
   have htsa:ts = #[t,t]:=by obtain⟨l⟩:=ts;simp at hts;rw[hts]
   subst hvs;subst htsa;split at h
   .rename_i e ht;split at h
    .rename_i size bytes zn hs hby hz;obtain⟨z,hz1,hz2⟩:=Cv hz;split at h
     .rename_i q1 q2 q3 q4 rows' rows2 hsrc;cases hb2:Nat.beq zn (size+1) with
      |false=>rw[hb2]at h;simp at h
      | true=>
       rw[hb2]at h;simp only[eh]at h;have hzn:z.cells.size=size+1:=by rw[hz2];exact af hb2
       split at h
       .simp at h;subst h;obtain⟨k1,k2,k3⟩:=hk _ rfl;subst k3;have hnil:=r0.exact_inv;have hP:=hI.push (w':=w) (.sl e (size+1) []) (.slice none 0 0) (λ_ _=>rfl) (ai _) rfl ⟨rfl,λ_=>by first|exact ai _|exact aC _⟩ rfl (.inr (.inl ⟨rfl,rfl⟩)) (by simp[Res.foot]);have hl:(ρ++[Value.slice none 0 0])[R.length]?=some (.slice none 0 0):=by rw[←hI.len];simp
        have hsrc':Ho (R++[.sl e (size+1) []]) (size+1) y=some rows2:=by
         unfold Ho at hsrc ⊢;split at hsrc
         .exact hsrc
         .exact hsrc
         .rename_i i;split at hsrc
          .rename_i a b c hi;rw[ax (ac.1 hi).1,hi];exact hsrc
          .cases hsrc
         .rename_i i q1 q2 q3;split at hsrc
          .rename_i a b c hi;rw[ax (ac.1 hi).1,hi];exact hsrc
          .cases hsrc
         .cases hsrc
        obtain⟨v,w',ρ',hr,ha⟩:=Ael (ty:=ty) hP ht hs hby hz1 hzn (i:=R.length) (rows:=[]) (by simp) hl rfl (r1.mono (λ_ h=>h) (λ_ _=>rfl) (Pre.append _ _)) hsrc' k2 (by simpa using k1);refine⟨v,w',ρ',by rw[hnil];exact hr,?_,ha.sub,ha.same,(Pre.append _ _).trans ha.pre,?_⟩
        .have:=ha.inv;simpa using this
        .have:=ha.rd;simpa using this
       .rename_i i;split at h
        .rename_i e' s' rows hi;cases hb3:(Nat.beq e' e&&Nat.beq s' (size+1)) with
         |false=>rw[hb3]at h;simp at h
         |true=>rw[hb3]at h;simp only[eh]at h;simp at h;subst h;simp only[aa]at hb3;have e1:=af hb3.1;have e2:=af hb3.2;subst e1;subst e2;obtain⟨k1,k2,k3⟩:=hk _ rfl;subst k3;obtain⟨v,w',ρ',hr,ha⟩:=Ael (ty:=ty) hI ht hs hby hz1 hzn hi r0.d_inv.os_inv r0.d_inv.one r1 hsrc k2 k1;exact⟨v,w',ρ',hr,ha⟩
        .cases h
       .cases h
     .cases h
    .cases h
   .cases h
 .cases h
theorem J2{α:Type}(size:Nat):∀(n:Nat)(l:List α),l.length=n*size->(Cm size n l).flatten=l
 |0,l,h=>by simp at h;subst h;rfl
 |n+1,l,h=>by rw[az]at h;simp only[Cm,cm];rw[J2 size n (l.drop size) (by simp;omega),bl]
theorem Zh:∀{ys xs:eA},Ay (RdP S w) ys (xs.map Pd.v)->ys=xs
 | [],[],_=>rfl
 |y::ys,x::xs,h=>by rw[h.1.v_form,Zh h.2]
 | [],_::_,h=>h.elim
 |_::_,[],h=>h.elim
theorem U5:∀{xs:eA},(∀v,v∈xs->v.oneCell'=true)->Ay (RdP S w) xs (xs.map Pd.v)
 | [],_=>trivial
 |x::xs,h=>⟨.v x (h x (by simp)),U5 λv hv=>h v (by simp[hv])⟩
theorem vOk.sl(k:vOk S w ρ e size cells h) :
  ∃xs:eA,(Res.sl e size (Cm size (cells.length / size) (xs.map Pd.v))).ok0 S w ρ h/\Ay (Rd S w ρ) xs cells/\xs.length=cells.length / size*size:=by
 obtain⟨b,o,len,cap,vs,rfl,hb,⟨h1,h2,h3,h4,h5⟩,hc⟩:=k;have hl:cells.length / size=len:=by rw[h1,Nat.mul_div_cancel _ h2]
 have hx:((vs.toList.drop o).take (len*size)).length=len*size:=by rw[hc.length,h1]
 refine⟨(vs.toList.drop o).take (len*size),?_,hc,by rw[hl,hx]⟩;rw[hl];refine Ln.2 (.inr ⟨b,o,cap,vs,by rw[Ea],hb,by rw[Ea];exact h3,h4,h5,Ld size len _ (by rw[aq,hx]),?_⟩);rw[J2 size len _ (by rw[aq,hx]),Ea];exact U5 (uH hc)
theorem dE(k:(Res.sl e size rows).ok0 S w ρ h)(hx:rows.flatten=xs.map Pd.v)(h0:cells≠[])(hs:0<size)(hc:Ay (Rd S w ρ) xs cells):vOk S w ρ e size cells h:=by
 rcases Ln.1 k with⟨_,hr⟩|⟨b,o,cap,vs,rfl,hb,h1,h2,h3,h4,h5⟩
 .subst hr;have:=hc.length;have:xs.length=0:=by have:=congrArg List.length hx;simpa using this.symm
  exact absurd (bm (by omega)) h0
 .rw[hx]at h5;have:=Zh h5;refine⟨b,o,rows.length,cap,vs,rfl,hb,⟨?_,hs,h1,h2,h3⟩,by rw[this];exact hc⟩;rw[←hc.length,←this];have hf:rows.flatten.length=rows.length*size:=by
   clear hx h5 k h1 hb this h3 h2;induction rows with
   |nil=>simp
   |cons r l ih=>rw[cm,aP,ih (λrow hr=>h4 row (by simp[hr])),h4 r (by simp),aT,az];omega
  have h6:=congrArg List.length hx;rw[hf,aq]at h6;rw[this,←h6]
theorem Inv.swapV(hI:Inv C S w ρ R){r r':Res}(hi:R[i]?=some r)(hok:∀v,ρ[i]?=some v->v.oneCell'=true->r.ok0 S w ρ v->r'.ok0 S w ρ v)(hf:∀v b,r'.foot v b->r.foot v b):Inv C S w ρ (R.set i r'):=by
 have key:∀(j:Nat) r1,(R.set i r')[j]?=some r1->∃r0,R[j]?=some r0/\(∀v b,r1.foot v b->r0.foot v b)/\(r1=r0\/j=i/\r1=r'/\r0=r):=by
  intro j r1 hj;rw[aB]at hj;split at hj
  .rename_i e;subst e;split at hj
   .cases hj;exact⟨r,hi,hf,.inr ⟨rfl,rfl,rfl⟩⟩
   .cases hj
  .exact⟨r1,hj,λ_ _ h=>h,.inl rfl⟩
 refine⟨by simp[hI.len],λj r1 v hj hv=>?_,λj k r1 r2 v v2 b hjk hj hk hv hv2 hf1 hf2=>?_,λj r1 v b hj hv hf1=>?_,hI.sub,hI.sup,hI.frm,hI.size,hI.os,hI.tape,hI.output,hI.pre,hI.gl⟩
 .obtain⟨r0,g1,_,g3⟩:=key j r1 hj;have hk:=hI.ok j r0 v g1 hv;rcases g3 with rfl|⟨rfl,rfl,rfl⟩
  .exact hk
  .cases ho:v.oneCell' with
   |false=>exact .inl ho
   |true=>exact .inr (hok v hv ho (hk.live ho))
 .obtain⟨r0,g1,g2,_⟩:=key j r1 hj;obtain⟨r3,g4,g5,_⟩:=key k r2 hk;exact hI.dis j k r0 r3 v v2 b hjk g1 g4 hv hv2 (g2 _ _ hf1) (g5 _ _ hf2)
 .obtain⟨r0,g1,g2,_⟩:=key j r1 hj;exact hI.own j r0 v b g1 hv (g2 _ _ hf1)
theorem Ko{e2 s2:Nat}:(Res.vec e size cells).foot v b↔(Res.sl e2 s2 rows).foot v b:=by cases v <;> simp[Res.foot,D3]
theorem Adr(hI : Inv C S w ρ R)(hv : Ay (RdA S w ρ) vs.toList args)(h : Mz P R ts.toList args = some out) :
  ∃v w' ρ',(Builtin.append_ ts ty vs).run P w=.ok v w'/\Du C S w ρ out.R v out.v S w' ρ':=by
 unfold Mz at h;split at h
 .rename_i ts' t u x j hts;cases hb:Nat.beq t u with
  |false=>rw[hb]at h;simp at h
  | true =>
   rw[hb]at h;simp only[eh]at h;have:=af hb;subst this;obtain⟨v0,v1,hvs,r0,r1⟩:∃v0 v1,vs = #[v0,v1]/\RdA S w ρ v0 x/\RdA S w ρ v1 (.d (.os j)):=by
    obtain⟨l⟩:=vs
    match l,hv with
    | [v0,v1],hv=>exact⟨v0,v1,rfl,hv.1,hv.2.1⟩
    | [],hv=>exact hv.elim
    | [_],hv=>exact hv.2.elim
    |_::_::_::_,hv=>exact hv.2.2.elim
   split at h
   .rename_i e q0 s2 ds2 ht hj;split at h
    .rename_i size bytes zn hs hby hz;cases hb2:((Nat.beq zn (size+1)&&Nat.beq s2 (size+1)) && !ds2.isEmpty) with
     |false=>rw[hb2]at h;simp at h
     | true=>
      rw[hb2]at h;simp only[eh]at h;simp only[aa]at hb2;obtain⟨⟨hzn,hs2⟩,hd2⟩:=hb2;have hs2:=af hs2;subst hs2;have hd2:ds2≠[]:=by intro e;rw[e]at hd2;simp at hd2
      obtain⟨xs2,k1,k2,k3⟩:=vOk.sl ((hI.ok j _ _ hj r1.d_inv.os_inv).live r1.d_inv.one);have hjl:j<R.length:=(ac.1 hj).1;have hI1:=hI.swapV hj (r':=.sl q0 (size+1) (Cm (size+1) (ds2.length / (size+1)) (xs2.map Pd.v))) (λv hv _ _=>by rw[r1.d_inv.os_inv]at hv;cases hv;exact k1) (λv b hf=>Ko.2 hf);have hrow2:∀l,l∈Cm (size+1) (ds2.length / (size+1)) (xs2.map Pd.v)->l.length=size+1:=Ld _ _ _ (by rw[aq,k3]);have hfl2:(Cm (size+1) (ds2.length / (size+1)) (xs2.map Pd.v)).flatten=xs2.map Pd.v:=J2 _ _ _ (by rw[aq,k3]);have hlen2:(Cm (size+1) (ds2.length / (size+1)) (xs2.map Pd.v)).length=ds2.length / (size+1):=Ea _ _ _;generalize hrs2:Cm (size+1) (ds2.length / (size+1)) (xs2.map Pd.v)=rows2 at k1 hI1 hrow2 hfl2 hlen2;have back:∀{w' ρ' R0},Du C S w ρ R0 v0 (.tup []) S w' ρ'\/True->(∀b,S b->w'.heap[b]?=w.heap[b]?)->Pre ρ ρ'->∀v,(Res.sl q0 (size+1) rows2).ok0 S w' ρ' v->(Res.vec q0 (size+1) ds2).ok0 S w' ρ' v:=λ_ hs hp v hv=>dE hv hfl2 hd2 (bZ _) (k2.mono λ_ _ h=>h.mono (λ_ h=>h) hs hp)
      have go:∀{i:Nat}{R1:List Res}{rows1:List (List Pd)}{xs1:eA}{ds1:List D},Inv C S w ρ R1->R1[i]?=some (.sl e (size+1) rows1)->R1[j]?=some (.sl q0 (size+1) rows2)->i≠j->RdA S w ρ v0 (.d (.os i)) ->
        R1.length=R.length->(∀k,k≠i->k≠j->R1[k]?=R[k]?)->rows1.flatten=xs1.map Pd.v->Ay (Rd S w ρ) xs1 ds1->(rows1.length+rows2.length)*(bytes+1)<=140737488355328 ->
        ∃v w' ρ',(Builtin.append_ ts ty vs).run P w=.ok v w'/\Du C S w ρ (R.set i .non++[.vec e (size+1) (ds1++ds2)]) v (.d (.os R.length)) S w' ρ':=by
       intro i R1 rows1 xs1 ds1 hIa hi1 hj1 hij hr0 hRl hRk hf1 ha1 hn;have hap:Ck P R1 (.app [] [] 0 0 (rows1++rows2)) ts.toList [.d (.os i),.d (.os j)]=some ⟨.d (.os R1.length),R1.set i .non++[.sl e (size+1) (rows1++rows2)],some (.app rows1 rows2 (size+1) ((rows1.length+rows2.length)*(bytes+1)) (rows1++rows2))⟩:=by rw[hts];simp[Ck,ht,hs,hby,hz,Ho,hi1,hj1,hzn]
       obtain⟨v,w',ρ',hr,hA⟩:=Kd (ty:=ty) hIa (vs:=vs) (by rw[hvs];exact⟨hr0,r1,trivial⟩) hap (λx hx=>by cases hx;exact⟨hn,hrow2,rfl⟩);refine⟨v,w',ρ',hr,?_⟩;have hil:i<R1.length:=(ac.1 hi1).1;have s1:=hA.inv.swapV (i:=R1.length) (r:=.sl e (size+1) (rows1++rows2)) (r':=.vec e (size+1) (ds1++ds2)) (by simp) (λv _ _ hv=>dE hv (xs:=xs1++xs2) (by rw[ci,hf1,hfl2,bh]) (by simp[hd2]) (bZ _) ((ha1.append k2).mono λ_ _ h=>h.mono hA.sub hA.same hA.pre)) (λv b hf=>Ko.1 hf);have s2:=s1.swapV (i:=j) (r:=.sl q0 (size+1) rows2) (r':=.vec q0 (size+1) ds2) (by rw[aB,em (by omega),ax (by simpa using (ac.1 hj1).1),aB,em hij];exact hj1) (λv _ _ hv=>back (R0:=[]) (.inr trivial) hA.same hA.pre v hv) (λv b hf=>Ko.1 hf)
       have hR:((R1.set i .non++[Res.sl e (size+1) (rows1++rows2)]).set R1.length (.vec e (size+1) (ds1++ds2))).set j (.vec q0 (size+1) ds2)=R.set i .non++[.vec e (size+1) (ds1++ds2)]:=by apply bj;intro k;have hk:=hRk k;grind
       simp only at s2;rw[hR]at s2;exact⟨s2,hA.sub,hA.same,hA.pre,by rw[←hRl];exact hA.rd⟩
      split at h
      .cases hn:Nat.ble ((ds2.length / (size+1))*(bytes+1)) 140737488355328 with
       |false=>rw[hn]at h;simp at h
       | true=>
        rw[hn]at h;simp only[eh,ae]at h;subst h;have hn:=aF hn;have hap:Ck P (R.set j (.sl q0 (size+1) rows2)) (.app [] [] 0 0 rows2) ts.toList [.d (.p (.v (.slice none 0 0))),.d (.os j)]=some ⟨.d (.os ((R.set j (.sl q0 (size+1) rows2)).length+1)),R.set j (.sl q0 (size+1) rows2)++[.non,.sl e (size+1) rows2],some (.app [] rows2 (size+1) (rows2.length*(bytes+1)) rows2)⟩:=by rw[hts];simp[Ck,ht,hs,hby,hz,Ho,hjl,hzn]
        obtain⟨v,w',ρ',hr,hA⟩:=Kd (ty:=ty) hI1 (vs:=vs) (by rw[hvs];exact⟨r0,r1,trivial⟩) hap (λx hx=>by cases hx;exact⟨by rw[hlen2];exact hn,hrow2,rfl⟩);refine⟨v,w',ρ',hr,?_⟩;have s1:=hA.inv.swapV (i:=R.length+1) (r:=.sl e (size+1) rows2) (r':=.vec e (size+1) ds2) (by simp) (λv _ _ hv=>dE hv hfl2 hd2 (bZ _) (k2.mono λ_ _ h=>h.mono hA.sub hA.same hA.pre)) (λv b hf=>Ko.1 hf);have s2:=s1.swapV (i:=j) (r:=.sl q0 (size+1) rows2) (r':=.vec q0 (size+1) ds2) (by rw[aB,em (by omega),ax (by simpa using hjl)];simp[hjl]) (λv _ _ hv=>back (R0:=[]) (.inr trivial) hA.same hA.pre v hv) (λv b hf=>Ko.1 hf)
        have hR:((R.set j (Res.sl q0 (size+1) rows2)++[Res.non,.sl e (size+1) rows2]).set (R.length+1) (.vec e (size+1) ds2)).set j (.vec q0 (size+1) ds2)=R++[.non,.vec e (size+1) ds2]:=by apply bj;intro k;grind
        simp only at s2;rw[hR]at s2;exact⟨s2,hA.sub,hA.same,hA.pre,by have:=hA.rd;simpa using this⟩
      .rename_i i;split at h
       .rename_i e' s' ds1 hi;cases hb3:((Nat.beq e' e&&Nat.beq s' (size+1))&&(!(Nat.beq i j)&&Nat.ble ((ds1.length / (size+1)+ds2.length / (size+1))*(bytes+1)) 140737488355328)) with
        |false=>rw[hb3]at h;simp at h
        |true=>
         rw[hb3]at h;simp only[eh,ae]at h;subst h;simp only[aa,aO]at hb3;obtain⟨⟨h1,h2⟩,h3,h4⟩:=hb3;have h1:=af h1;have h2:=af h2;subst h1;subst h2;have hij:i≠j:=λe=>by rw[e]at h3;simp at h3
         obtain⟨xs1,g1,g2,g3⟩:=vOk.sl ((hI.ok i _ _ hi r0.d_inv.os_inv).live r0.d_inv.one);have hI2:=hI1.swapV (i:=i) (by rw[aB,em (ba hij)];exact hi) (r':=.sl e' (size+1) (Cm (size+1) (ds1.length / (size+1)) (xs1.map Pd.v))) (λv hv _ _=>by rw[r0.d_inv.os_inv]at hv;cases hv;exact g1) (λv b hf=>Ko.2 hf);have hil:i<R.length:=(ac.1 hi).1;exact go (rows1:=Cm (size+1) (ds1.length / (size+1)) (xs1.map Pd.v)) (xs1:=xs1) hI2 (by rw[ch (by simpa using hil)]) (by rw[aB,em hij];simp[hjl]) hij r0 (by simp) (λk _ _=>by grind) (J2 _ _ _ (by rw[aq,g3])) g2 (by rw[Ea,hlen2];exact aF h4)
       .rename_i e' s' hi;cases hb3:((Nat.beq e' e&&Nat.beq s' (size+1))&&(!(Nat.beq i j)&&Nat.ble ((0+ds2.length / (size+1))*(bytes+1)) 140737488355328)) with
        |false=>rw[hb3]at h;simp at h
        |true=>
         rw[hb3]at h;simp only[eh,ae]at h;subst h;simp only[aa,aO]at hb3;obtain⟨⟨h1,h2⟩,h3,h4⟩:=hb3;have h1:=af h1;have h2:=af h2;subst h1;subst h2;have hij:i≠j:=λe=>by rw[e]at h3;simp at h3
         exact go (xs1:=[]) hI1 (by rw[aB,em (ba hij)];exact hi) (by simp[hjl]) hij r0 (by simp) (λk _ _=>by grind) rfl trivial (by rw[hlen2];exact aF h4)
       .cases h
      .cases h
    .cases h
   .cases h
 .cases h
theorem Vb{ts : List TypeId}(h : Mz P R ts args = some out) : (∃r1 r2, out.R = R ++ [r1, r2] /\ ∃x y, args = [x, y]) \/ ∃i y r, args = [.d (.os i), y] /\ out.R = R.set i .non ++ [r] := by
 unfold Mz at h;split at h
 .rename_i t u x j;generalize Nat.beq t u=bb at h;cases bb with
  |false=>simp at h
  | true=>
   simp only[eh]at h;split at h
   .split at h
    .generalize (_&&_:Bool)=bb at h;cases bb with
     |false=>simp at h
     | true=>
      simp only[eh]at h;split at h
      .generalize Nat.ble _ _=bb at h;cases bb with
       |false=>simp at h
       |true=>simp at h;subst h;exact .inl ⟨_,_,rfl,_,_,rfl⟩
      .split at h
       .generalize (_&&_:Bool)=bb at h;cases bb with
        |false=>simp at h
        |true=>simp at h;subst h;exact .inr ⟨_,_,_,rfl,rfl⟩
       .generalize (_&&_:Bool)=bb at h;cases bb with
        |false=>simp at h
        |true=>simp at h;subst h;exact .inr ⟨_,_,_,rfl,rfl⟩
       .cases h
      .cases h
    .cases h
   .cases h
 .cases h
theorem Ma{α β:Type}{Q:α->β->Prop}{xs:List α}{ds:List β}(h:Ay Q xs ds)(n:Nat):Ay Q (Dv n xs) (List.replicate n ds).flatten:=by
 induction n with
 |zero=>trivial
 |succ n ih=>exact h.append ih
theorem Om{α:Type}(l:List α):∀n,Dv n l=(List.replicate n l).flatten
 |0=>rfl
 |n+1=>by simp[Dv,List.replicate_succ,Om l n]
theorem S5:∀{l:eA}{ds:List D},Fp l=some ds->ds=l.map (λv=>D.p (.v v))/\∀v,v∈l->v.oneCell'=true
 | [],ds,h=>by simp[Fp]at h;subst h;simp
 | v::r,ds,h=>by
  simp only[Fp]at h;split at h
  .rename_i d ds' h1 h2;simp at h;subst h;obtain⟨g1,g2⟩:=S5 h2;unfold dOf at h1;grind
  .cases h
theorem Vi:∀{l:eA}{ps:List Pd},dPs (l.map λv=>D.p (.v v))=some ps->ps=l.map Pd.v
 | [],ps,h=>by simp[dPs]at h;subst h;rfl
 | v::r,ps,h=>by
  simp only[bv,dPs,dP]at h;split at h
  .rename_i x l h1 h2;simp at h h1;subst h;subst h1;rw[Vi h2];rfl
  .cases h
theorem A7r(h:zB (.v v)=true)(h1:v.oneCell'=true):Azz v (Pd.nz (.v v)):=by
 unfold zB at h;split at h
 .rename_i heq;cases heq;exact⟨rfl,rfl⟩
 .cases h
 .rename_i x h2 h3 heq;cases heq;have:Pd.nz (.v v)=.v v:=by
   unfold Pd.nz;grind
  rw[this];refine⟨rfl,h1,?_⟩;unfold uC;grind
 .rename_i heq;cases heq
theorem Adu(hI : Inv C S w ρ R)(hv : Ay (RdA S w ρ) vs.toList args)(h : M2 P R ts.toList args = some out) :
    ∃v w' ρ',(Builtin.append_ ts ty vs).run P w=.ok v w'/\Du C S w ρ out.R v out.v S w' ρ':=by
  unfold M2 at h;split at h
  · rename_i ts' t u kk n hts;have hvs:vs = #[.slice none 0 0,.int kk (.ofNat n)]:=by
      obtain⟨l⟩:=vs
      match l,hv with
      | [v0,v1],hv=>rw[hv.1.exact_inv,hv.2.1.exact_inv]
      | [],hv=>exact hv.elim
      | [_],hv=>exact hv.2.elim
      |_::_::_::_,hv=>exact hv.2.2.elim
    have htsa:ts = #[t,u]:=by obtain⟨l⟩:=ts;simp at hts;rw[hts]
    subst hvs;subst htsa;split at h
    · rename_i e ku ht hu;split at h
      · rename_i size bytes ds hs hby hz;split at h
        · rename_i zs hd;cases hb:((Nat.beq zs.length (size+1)&&Nat.blt 0 n)&&Nat.ble (n*(bytes+1)) 140737488355328) with
          |false=>rw[hb]at h;simp at h
          | true=>
            rw[hb]at h;simp only[eh,ae]at h;subst h;simp only[aa]at hb;obtain⟨⟨hzl,hn0⟩,hn⟩:=hb;have hzl:=af hzl;have hn0:0<n:=by simpa[eu]using hn0
            have hn:=aF hn;obtain⟨z,hz1,hz2⟩:=Dt hz;obtain⟨d1,d2⟩:=S5 hz2;subst d1;have hzv:=Vi hd;obtain⟨info,i1,i2,i3,i4⟩:=qQ hs hby hz1;have hn1:n<=140737488355328:=ay (cQ _ (bZ bytes)) hn;have hn2:n*bytes<=140737488355328:=ay (Nat.mul_le_mul_left _ (aC _)) hn
            have hzs : z.cells.size = size + 1 := by have : zs.length = z.cells.toList.length := by rw[hzv]; simp
                                                     rw[hzl]at this;simpa using this.symm
            have hr:=Lib.run_append_nil_zeros (P:=P) w t u ty e info z kk ku ht hu i1 i4 n hn0 (by rw[i2];omega) (by omega) (by rw[i3];omega);have hg1:=grownCap_ge w n 0 e;have hg2:grownCap w n 0 e<=maxLen:=grownCap_le_maxLen w n 0 e (by unfold maxLen;omega);have hzc:∀m,(Builtin.zeroCells z.cells m).toList=Dv m z.cells.toList:=λm=>K4 _ _;have hall:Ay (RdP S w) z.cells.toList zs:=by rw[hzv];exact U5 d2
            have hrl:∀m,(Dv m z.cells.toList).length=m*(size+1):=λm=>by rw[Ju];simp[hzs]
            have hok:=Xv (S:=S) (w:=w) (e:=e) (ρ:=ρ) (size:=size+1) (n:=n) (cap:=grownCap w n 0 e) (rows:=List.replicate n zs) (cs:=Builtin.zeroCells z.cells n++Builtin.zeroCells z.cells (grownCap w n 0 e-n)) (xs:=Dv n z.cells.toList)
              (Ma hall n) (λl hl=>by rw[bK hl];exact hzl) (by simp) (by rw[Array.toList_append,hzc,cE (by rw[hrl];exact ai _),bY (by rw[hrl];exact ai _)])
              (by have h1 := congrArg List.length (hzc n); have h2 := congrArg List.length (hzc (grownCap w n 0 e - n)); rw [hrl]at h1 h2
                  simp only[cj]at h1 h2;rw[Array.size_append,h1,h2,←az];have:n+(grownCap w n 0 e-n)=grownCap w n 0 e:=by omega
                  rw[this];exact ai _) hg1 hg2 (λb hb=>(hI.sup b hb).1) (w2:=w.drew) rfl
            have hw:∀b,b<w.heap.size->(w.drew.alloc (.cells (Builtin.zeroCells z.cells n++Builtin.zeroCells z.cells (grownCap w n 0 e-n)) e)).heap[b]?=w.heap[b]?:=λb hb=>B8 w.drew _ b hb;refine⟨_,_,ρ++[.slice (some ⟨w.heap.size,0,none⟩) n (grownCap w n 0 e)],hr,hI.push _ _ hw (by simp) rfl ⟨rfl,λ_=>by first|exact ai _|exact aC _⟩ rfl (.inr hok) (λb hb=>?_),λ_ h=>h,λb hb=>hw b (hI.sup b hb).1,Pre.append _ _,.d (.os ?_ rfl)⟩
            · simp[Res.foot]at hb;subst hb;simp
            · rw [←hI.len];simp
        · cases h
      · cases h
    · cases h
  · cases h
theorem Ve{ts:List TypeId}(h:M2 P R ts args=some out):∃r,out.R=R++[r]:=by
 unfold M2 at h;split at h
 .split at h
  .split at h
   .split at h
    .generalize (_&&_:Bool)=bb at h;cases bb with
     |false=>simp at h
     |true=>simp at h;subst h;exact⟨_,rfl⟩
    .cases h
   .cases h
  .cases h
 .cases h
theorem Zl(h : Lb P R c t len = some out)(hk : ∀x, out.c = some x -> x.ok P)(hS : ∀b, S b -> b < w.heap.size) :
    ∃ l n cs e r,len=some l/\out.v=.d (.os R.length)/\out.R=R++[r]/\(Instr.makeSlice t l l).run P w=.ok (.slice (some ⟨w.heap.size,0,none⟩) n n) (w.alloc (.cells cs e)) /\
      (∀ρ',r.ok0 S (w.alloc (.cells cs e)) ρ' (.slice (some ⟨w.heap.size,0,none⟩) n n))/\(∀b,r.foot (.slice (some ⟨w.heap.size,0,none⟩) n n) b->b=w.heap.size):=by
  unfold Lb at h;have key:∀{e:TypeId}{l:Int}{size bytes:Nat}{ds:List D},P.underlying t=some (.slice e)->A8 P e=some (size+1)->(P.info? e).map (·.bytes)=some bytes->((Dn P e).bind λz=>Fp z.cells.toList)=some ds ->
      ∀{zs:List Pd},dPs ds=some zs->zs.length=size+1->0<=l*((bytes:Int)+1)->l*((bytes:Int)+1)<=140737488355328 ->
      ∃(n:Nat)(cs:Array Value)(vs:eA),l=n/\(Instr.makeSlice t (.int .i64 l) (.int .i64 l)).run P w=.ok (.slice (some ⟨w.heap.size,0,none⟩) n n) (w.alloc (.cells cs e)) /\
        cs.toList=(List.replicate n vs).flatten/\vs.length=size+1/\zs=vs.map Pd.v/\(∀v,v∈vs->v.oneCell'=true)/\n<=140737488355328/\cs.size=n*(size+1):=by
    intro e l size bytes ds ht hs hby hz zs hd hzl k1 k2;obtain⟨z,hz1,hz2⟩:=Dt hz;obtain⟨d1,d2⟩:=S5 hz2;subst d1;have hzv:=Vi hd;obtain⟨info,i1,i2,i3,i4⟩:=qQ hs hby hz1;have hl0:0<=l:=by
      rcases Int.lt_or_le l 0 with h|h
      · have:l*((bytes:Int)+1)<0:=Int.mul_neg_of_neg_of_pos h (by omega);omega
      · exact h
    obtain⟨n,rfl⟩:=Int.eq_ofNat_of_zero_le hl0;have hn:n*(bytes+1)<=140737488355328:=by
      have:((n*(bytes+1):Nat):Int)<=140737488355328:=by push_cast;exact k2
      omega
    have hn1:n<=140737488355328:=ay (cQ _ (bZ bytes)) hn;have hn2:n*bytes<=140737488355328:=ay (Nat.mul_le_mul_left _ (aC _)) hn;have hwrap:IntKind.i64.wrap (n:Int)=n:=IntWalk.i64_in _ (by omega)
    have hzs : z.cells.size = size + 1 := by have : zs.length = z.cells.toList.length := by rw[hzv]; simp
                                             rw[hzl]at this;simpa using this.symm
    have hlarge:¬((281474976710656:Int)<(bytes:Int)*(n:Int)):=by
      have:((n*bytes:Nat):Int)<=140737488355328:=by omega
      push_cast at this
      rw[Int.mul_comm];omega
    have hcells:∃cs:Array Value,cs.toList=Dv n z.cells.toList/\(Instr.makeSlice t (.int .i64 n) (.int .i64 n)).run P w=.ok (.slice (some ⟨w.heap.size,0,none⟩) n n) (w.alloc (.cells cs e)):=by
      refine⟨(Array.range (n*z.cells.size)).map (λi=>z.cells[i % z.cells.size]!),K4 _ _,?_⟩;by_cases h0:n=0
      · subst h0;have hw0:IntKind.i64.wrap 0=0:=IntWalk.i64_in 0 (by omega);simp[Instr.makeSlice,el ht,asInt,asIntOf,typeInfo,i1,sizeOf,newRow,hw0];congr 2;apply bL;simp
      · have hneg:¬((n:Int)<0):=by omega
        have h1:(n*(size+1)=0)=False:=eq_false (Nat.mul_ne_zero h0 (by omega));simp[hneg,h1,Instr.makeSlice,el ht,asInt,asIntOf,typeInfo,i1,i2,i3,sizeOf,newRow,hwrap,hlarge,hzs,zeroValue,i4]
    obtain⟨cs,hc1,hc2⟩:=hcells;have hcl:cs.size=n*(size+1):=by
      have:cs.toList.length=n*z.cells.toList.length:=by rw[hc1,Ju]
      simpa[hzs]using this
    exact⟨n,cs,z.cells.toList,rfl,hc2,by rw[hc1,Om],by simpa using hzs,hzv,d2,hn1,hcl⟩
  have hfoot:∀(n b:Nat),D3 (.slice (some ⟨w.heap.size,0,none⟩) n n) b->b=w.heap.size:=λn b h=>Eq.symm h;split at h
  · rename_i e l q1 q2 rows' ht;split at h
    · rename_i size bytes ds hs hby hz;split at h
      · rename_i zs hd;cases hb:Nat.beq zs.length (size+1) with
        |false=>rw[hb]at h;simp at h
        | true=>
          rw[hb]at h;simp at h;subst h;obtain⟨k1,k2,k3⟩:=hk _ rfl;subst k3;have hzl:=af hb;obtain⟨n,cs,vs,rfl,hrun,hc,hvl,hzv,hone,hn1,hcl⟩:=key ht hs hby hz hd hzl k1 k2;refine⟨_,n,cs,e,_,rfl,rfl,rfl,hrun,λρ'=>?_,λb hb=>hfoot n b hb⟩;have hall:Ay (RdP S w) vs zs:=by rw[hzv];refine da (by simp) λj x d hx hd=>?_;rw[au,hx]at hd;simp at hd;subst hd;exact .v x (hone x (ag hx))
          have hok:=Xv (e:=e) (ρ:=[]) (size:=size+1) (n:=n) (cap:=n) (rows:=List.replicate n zs) (cs:=cs) (xs:=cs.toList) (by rw[hc,←Om];exact Ma hall n) (λl hl=>by rw[bK hl];exact hzl) (by simp)
            (bY (by simp[hcl])) (by omega) (ai _) (by simp[maxLen];omega) hS (w2:=w) rfl
          simp only[aG];exact hok
      · cases h
    · cases h
  · rename_i e l q1 q2 rows' ht;split at h
    · rename_i size bytes ds hs hby hz;split at h
      · rename_i zs hd;cases hb:(Nat.beq zs.length (size+1)&&zs.all zB) with
        |false=>rw[hb]at h;simp at h
        | true=>
          rw[hb]at h;simp only[eh,ae]at h;subst h;simp only[aa]at hb;obtain⟨k1,k2,k3⟩:=hk _ rfl;subst k3;have hzl:=af hb.1;obtain⟨n,cs,vs,rfl,hrun,hc,hvl,hzv,hone,hn1,hcl⟩:=key ht hs hby hz hd hzl k1 k2;refine⟨_,n,cs,e,_,rfl,rfl,rfl,hrun,λρ'=>?_,λb hb=>hfoot n b hb⟩;refine .inr ⟨w.heap.size,0,n,cs,by simp,Fb _ _,by simp,by simp[maxLen];omega,by omega,λrow hrow=>?_,λi row hi j d hj=>?_⟩
          · rw [bK hrow];simpa using hzl
          · have hin:i<n:=by have:=(ac.1 hi).1;simpa using this
            have hrow:row=zs.map Pd.nz:=bK (ag hi);subst hrow;rw[hzv,cC,au]at hj;obtain⟨x,hx,hd'⟩:=Cv hj;refine⟨x,?_,?_⟩
            · have hg:=Mj (rows:=List.replicate n vs) (size:=size+1) (λl hl=>by rw[bK hl];exact hvl) (i:=i) (j:=j) (row:=vs) (d:=x) (by rw[List.getElem?_replicate,ei hin]) hx;rw[←hc]at hg;simpa using hg
            · subst hd';have hzb:=(aD.1 hb.2) (.v x) (by rw[hzv];exact aA.2 ⟨x,ag hx,rfl⟩);exact A7r hzb (hone x (ag hx))
      · cases h
    · cases h
  · cases h
theorem Aow(hI:Inv C S w ρ R)(h:Lb P R c t len=some out)(hk:∀x,out.c=some x->x.ok P) :
  ∃v w' ρ' l,len=some l/\(Instr.makeSlice t l l).run P w=.ok v w'/\Du C S w ρ out.R v out.v S w' ρ':=by
 obtain⟨l,n,cs,e,r,h1,h2,h3,h4,h5,h6⟩:=Zl h hk (λb hb=>(hI.sup b hb).1);have hw:∀b,b<w.heap.size->(w.alloc (.cells cs e)).heap[b]?=w.heap[b]?:=λb hb=>B8 w _ b hb;refine⟨_,_,ρ++[.slice (some ⟨w.heap.size,0,none⟩) n n],l,h1,h4,?_⟩;rw[h2,h3];refine⟨hI.push _ _ hw (by simp) rfl ⟨rfl,λ_=>by first|exact ai _|exact aC _⟩ rfl (.inr (h5 _)) λb hb=>?_,λ_ h=>h,λb hb=>hw b (hI.sup b hb).1,Pre.append _ _,.d (.os ?_ rfl)⟩
 .rw[h6 b hb];simp
 .rw[←hI.len];simp
theorem Aki(hI:Inv C S w ρ R)(h:N8 P R c s d x=some out)(hk:∀y,out.c=some y->y.ok P) :
  ∃v v' w' ρ',x=some v/\(convert s d v).run P w=.ok v' w'/\Du C S w ρ out.R v' out.v S w' ρ':=by
 unfold N8 at h;split at h
 .rename_i e b q1 q2 rows' hs hd;split at h
  .rename_i he;have hmk:Wk e=true:=by
    grind
   rw[hmk]at h;simp at h;subst h;obtain⟨k1,k2,k3⟩:=hk _ rfl;subst k3;have hold:∀k,k<w.heap.size->(Lib.bytesWorld w e b).heap[k]?=w.heap[k]?:=λk hk=>Lib.bytesWorld_at_old w e b k hk;have hsz:=Lib.bytesWorld_size w e b;have hlen:(Hf b).length=b.size:=by simp[Hf,Le]
   have hcs:(Lib.bytesCells w e b).size=b.size+(grownCap w b.size 0 e-b.size):=by simp[Lib.bytesCells]
   refine⟨_,_,_,ρ++[.slice (some ⟨w.heap.size,0,none⟩) b.size (grownCap w b.size 0 e)],rfl,Lib.run_convert_string_bytes w s d e b hs hd he,?_⟩;refine⟨hI.push _ _ hold (by omega) rfl ⟨rfl,λ_=>by first|exact ai _|exact aC _⟩ rfl (.inr (.inr ⟨w.heap.size,0,_,_,by rw[hlen],⟨_,Lib.bytesWorld_at_new w e b,.inr (ai _),λhm=>absurd (hmk.symm.trans hm) (by decide)⟩,by rw[hlen];exact grownCap_ge _ _ _ _,grownCap_le_maxLen _ _ _ _ (by simp[maxLen];omega),?_,λrow hr=>?_,λi row hi j q hj=>?_⟩)) λk hk=>?_,λ_ h=>h,λk hk=>hold k (hI.sup k hk).1,Pre.append _ _,.d (.os ?_ rfl)⟩
   .have:=grownCap_ge w b.size 0 e;omega
   .unfold Hf at hr;obtain⟨n,_,rfl⟩:=aA.1 hr;rfl
   .have hil:i<b.size:=by rw[←hlen];exact(ac.1 hi).1
    unfold Hf Le at hi;rw[au,au]at hi;obtain⟨z,h1,rfl⟩:=Cv hi;obtain⟨y,h2,rfl⟩:=Cv h1;have hj0:j=0:=by have:=(ac.1 hj).1;simp at this;exact this
    subst hj0;simp at hj;subst hj;refine⟨.int .u8 (y.toNat:Int),?_,.v _ rfl⟩;have:=Lib.bytesWorld_cell w e b i hil;rw[cX,h2]at this;rw[Jn (Lib.bytesWorld_at_new w e b)]at this;rw[aJ,Nat.mul_one,bo,this];rfl
   .simp[Res.foot]at hk;subst hk;exact⟨ai _,by omega⟩
   .rw[←hI.len];simp
  .cases h
 .cases h
theorem Akj(hI : Inv C S w ρ R){x : Option AV}(h : N9 P R c s d x = some out)(hv : ∀y, x = some y -> RdA S w ρ v y) :
  ∃v' w',(convert s d v).run P w=.ok v' w'/\Du C S w ρ out.R v' out.v S w' ρ:=by
 unfold N9 at h;split at h
 .rename_i e i hd;split at h
  .rename_i e' z row rows hi he;cases hb:Nat.beq s d&&Wk e' with
   |false=>rw[hb]at h;cases h
   | true=>
    rw[hb]at h;have hbm:=(Bool.and_eq_true_iff.1 hb).2;have hsd:=af (Bool.and_eq_true_iff.1 hb).1;subst hsd;simp at h;subst h;have hr:=hv _ rfl;have hρ:=hr.d_inv.os_inv;rcases(hI.ok i _ v hi hρ).live hr.d_inv.one with⟨h1,h2⟩|⟨b,o,cap,vs,h1,⟨fr,hb1,hb2,hb3⟩,h3,h4,h5,h6,h7⟩
    .cases h2
    .subst h1;have hsh:w.shape? b=some (e',vs.size):=by simp[World.shape?,hb1]
     have hblk:(w.freeze ⟨b,vs.size,none⟩ 1).heap[b]?=some (.cells vs e' (if fr.1==fr.2 then (vs.size,vs.size+1) else (min fr.1 vs.size,max fr.2 (vs.size+1)))):=by simp[World.freeze,Array.getElem?_modify,hb1]
     have hoth:∀k,k≠b->(w.freeze ⟨b,vs.size,none⟩ 1).heap[k]?=w.heap[k]?:=λk hk=>by simp[World.freeze,Array.getElem?_modify,Ne.symm hk]
     have hsz:(w.freeze ⟨b,vs.size,none⟩ 1).heap.size=w.heap.size:=by simp[World.freeze]
     have hown:=hI.own i _ _ b hi hρ rfl;have hS:∀k,S k->(w.freeze ⟨b,vs.size,none⟩ 1).heap[k]?=w.heap[k]?:=λk hk=>hoth k λe=>hown.1 (e ▸ hk);refine⟨.slice (some ⟨b,o,none⟩) (row::rows).length cap,w.freeze ⟨b,vs.size,none⟩ 1,?_,?_,λ_ h=>h,hS,Pre.refl _,?_⟩
     .simp[convert,el hd,el he,markStringish,hsh,Result.andThen]
     .have hI':=hI.put hi hρ (w':=w.freeze ⟨b,vs.size,none⟩ 1) (r':=.sl e' z (row::rows)) (b:=b) rfl (λk hk=>by simp[Res.foot]at hk;exact hk.symm) hoth hsz rfl ⟨rfl,λ_=>by first|exact ai _|exact aC _⟩ rfl
       (.inr (.inr ⟨b,o,cap,vs,rfl,⟨_,hblk,.inr ?_,λhm=>absurd (hbm.symm.trans hm) (by decide)⟩,h3,h4,h5,h6,λi2 r hi2 j q hj=>?_⟩))
      .have:R.set i (.sl e' z (row::rows))=R:=by
        apply bj;grind
       rw[this]at hI';exact hI'
      .rcases hb2 with hb2|hb2
       .rw[ei (by simpa using hb2)];exact ai _
       .split
        .exact ai _
        .show vs.size<=min fr.1 vs.size;omega
      .obtain⟨x,hx,hR⟩:=h7 i2 r hi2 j q hj;exact⟨x,hx,hR.mono (λ_ h=>h) hS⟩
     .exact .d (.os hρ rfl)
  .cases h
 .cases h
theorem Ao0(hI:Inv C S w ρ R)(h:U9 P R c s d x=some out)(hk:∀y,out.c=some y->y.ok P) :
  out.R=R/\∃v v' w' S',x=some v/\(convert s d v).run P w=.ok v' w'/\Du C S w ρ R v' out.v S' w' ρ:=by
 unfold U9 at h;split at h
 .rename_i e b q1 q2 rows' hs hd;split at h
  .rename_i he;simp at h;subst h;obtain⟨k1,k2,k3⟩:=hk _ rfl;subst k3;refine⟨rfl,_,_,_,λk=>S k\/k=w.heap.size,rfl,Lib.run_convert_string_bytes w s d e b hs hd he,?_⟩;have hold:∀k,k<w.heap.size->(Lib.bytesWorld w e b).heap[k]?=w.heap[k]?:=λk hk=>Lib.bytesWorld_at_old w e b k hk;have hsz:=Lib.bytesWorld_size w e b;have hsub:∀k,S k->k<w.heap.size:=λk hk=>(hI.sup k hk).1;refine⟨hI.grow (λ_ h=>.inl h) (λk hk=>hk.imp id λe=>⟨by omega,by omega⟩) hold (by omega) rfl ⟨rfl,λ_=>by first|exact ai _|exact aC _⟩ rfl,λ_ h=>.inl h,λk hk=>hold k (hsub k hk),Pre.refl _,.d (.p ?_)⟩;have hlen:(Hf b).length=b.size:=by simp[Hf,Le]
   have hget:∀(i:Nat) row,(Hf b)[i]?=some row->i<b.size/\row=[Pd.v (.int .u8 (b.data.toList.getD i 0).toNat)]:=by
    intro i row hi;have hil:i<b.size:=by rw[←hlen];exact(ac.1 hi).1
    refine⟨hil,?_⟩;unfold Hf Le at hi;grind
   have:=RdP.s (S:=λk=>S k\/k=w.heap.size) (w:=Lib.bytesWorld w e b) (some ⟨w.heap.size,0,none⟩) ⟨w.heap.size,0,none⟩ (grownCap w b.size 0 e) 1 (Hf b) (λi _=>.int .u8 (b.data.toList.getD i 0).toNat)
    (by rw[hlen];exact grownCap_ge _ _ _ _) (grownCap_le_maxLen _ _ _ _ (by simp[maxLen];omega)) (λh=>by cases h)
    (λrow hr=>by obtain⟨i,hi⟩:=bC hr;rw[(hget i row hi).2];rfl)
    (λi row hi j q hj=>by
     obtain⟨g1,g2⟩:=hget i row hi;subst g2;have hj0:j=0:=by have:=(ac.1 hj).1;simp at this;exact this
     subst hj0;refine⟨rfl,.inr rfl,?_⟩;rw[Cn];have:=Lib.bytesWorld_cell w e b i g1;simpa using this)
    (λi row hi j q hj=>by
     obtain⟨g1,g2⟩:=hget i row hi;subst g2;have hj0:j=0:=by have:=(ac.1 hj).1;simp at this;exact this
     subst hj0;have hj':Pd.v (.int .u8 (b.data.toList.getD i 0).toNat)=q:=by simpa using hj
     rw[←hj'];exact .v (.int .u8 (b.data.toList.getD i 0).toNat) rfl)
   rw[hlen]at this;exact this
  .cases h
 .cases h
end
end Go.SL
namespace Go.SL
variable{x y:AV}{ts:Array TypeId}{cs vs xs:Array Value}{c:Cl}{f:Fn}{r1 rows:List (List Pd)}{tys:List (TypeId×Nat)}{args:List AV}{row:List Pd}{news vs2:eA}{b cap e e2 g i k len lo n o off s size sz2:Nat}{out:Out}{t ty:TypeId}{u v:Value}
section
variable{P:Program}{C:Ctx}{S S':Nat->Prop}{w w':World}{ρ ρ':eA}{R R':List Res}
theorem Inv.regroup(h:Inv C S w ρ R)(τ:Nat->Nat->Nat)(hlen:ρ'.length=R'.length)(hpre:Pre ρ ρ')
  (hok:∀(i:Nat) r v,R'[i]?=some r->ρ'[i]?=some v->r.ok S w' ρ' v)
  (hfoot:∀(j:Nat) r v b,R'[j]?=some r->ρ'[j]?=some v->r.foot v b->∃j0 r0 v0,τ j0 b=j/\R[j0]?=some r0/\ρ[j0]?=some v0/\r0.foot v0 b)
  (hfrm:∀b,¬Ei ρ R b->w'.heap[b]?=w.heap[b]?)(hsz:w'.heap.size=w.heap.size)(ho:w'.os=w.os)(ht:Tp w w')(hp:w'.output=w.output):Inv C S w' ρ' R' where
 len:=hlen
 ok:=hok
 dis i j r r' v v' b hij h1 h2 h3 h4 h5 h6:=by obtain⟨j0,r0,v0,e1,a1,a2,a3⟩:=hfoot i r v b h1 h3 h5;obtain⟨k0,q0,u0,e2,b1,b2,b3⟩:=hfoot j r' v' b h2 h4 h6;refine h.dis j0 k0 r0 q0 v0 u0 b (λe=>hij ?_) a1 b1 a2 b2 a3 b3;rw[←e1,←e2,e]
 own i r v b h1 h2 h3:=by obtain⟨j0,r0,v0,_,a1,a2,a3⟩:=hfoot i r v b h1 h2 h3;rw[hsz];exact h.own j0 r0 v0 b a1 a2 a3
 sub:=h.sub
 sup b hb:=by rw[hsz];exact h.sup b hb
 frm b hb hf:=by
  refine(hfrm b λ⟨i,r,v,h1,h2,h3⟩=>?_).trans (h.frm b hb hf);rcases(h.own i r v b h1 h2 h3).2.2 with k|k
  .exact hf k
  .omega
 size:=by rw[hsz];exact h.size
 os:=ho.trans h.os
 tape:=ht.trans h.tape
 output:=hp.trans h.output
 pre:=h.pre.trans hpre
 gl:=h.gl
theorem Ac7{α:Type}{l:List α}{x y z:α}(h:(l++[x,y])[i]?=some z):l[i]?=some z\/i=l.length/\z=x\/i=l.length+1/\z=y:=by grind
theorem Inv.takeOut(hI:Inv C S w ρ R){h:Value}
  (hi:R[i]?=some (.dsl e s g))(hg:R[g]?=some (.gh s tys rows none))(hρi:ρ[i]?=some h)(hρg:ρ[g]?=some (.func f xs cs))(hx:xs[k*s+off]?=some v)(ht:tys[off]?=some (e2,sz2))(hrow:rows[k]?=some row)(hoff:row[off]?=some (.s r1)) :
  Inv C S w (ρ++[.func f xs cs,v]) ((R.set g .non).set i (.dsl e s R.length)++[.gh s tys rows (some (k,off)),.sl e2 sz2 r1]):=by
 have hL:ρ.length=R.length:=hI.len;have hig:i≠g:=λe=>by subst e;rw[hi]at hg;cases hg
 have hil:i<R.length:=(ac.1 hi).1;have hgl:g<R.length:=(ac.1 hg).1;have hgo:gOk S w s tys rows none xs:=by obtain⟨f',xs',cs',k3,k4⟩:=(hI.ok g _ _ hg hρg).live rfl;cases k3;exact k4
 obtain⟨o1,o2,o3,o4⟩:=hgo;have nohole:∀q,¬H7 s none q:=λq ⟨p,hp,_⟩=>by cases hp
 obtain⟨v',hv',hcell⟩:=o3 k row hrow off _ hoff;rw[hx]at hv';cases hv';obtain⟨hone,hsl⟩:=hcell;obtain⟨e2',sz2',ht',hslok⟩:=hsl (nohole _);rw[ht]at ht';cases ht';have dist:∀(q:Nat) x b,q≠k*s+off->xs[q]?=some x->D3 x b->D3 v b->False:=by
  intro q x b hq hxq h1 h2;unfold D3 at h1 h2;split at h1
  .split at h2
   .exact o4 q (k*s+off) _ _ _ _ _ _ hq (nohole _) (nohole _) hxq hx (h1.trans h2.symm)
   .exact h2
  .exact h1
 have key:∀(j:Nat) r1' v1,((R.set g .non).set i (.dsl e s R.length))[j]?=some r1'->ρ[j]?=some v1->(j=i/\r1'=.dsl e s R.length/\h=v1)\/r1'=.non\/(j≠i/\j≠g/\R[j]?=some r1'):=by grind
 have lenR:((R.set g .non).set i (.dsl e s R.length)).length=R.length:=by simp
 have split2:∀(j:Nat) r1' v1,((R.set g .non).set i (.dsl e s R.length)++[.gh s tys rows (some (k,off)),.sl e2 sz2 r1])[j]?=some r1'->(ρ++[.func f xs cs,v])[j]?=some v1 ->
   (((R.set g .non).set i (.dsl e s R.length))[j]?=some r1'/\ρ[j]?=some v1)\/(j=R.length/\r1'=.gh s tys rows (some (k,off))/\v1=.func f xs cs)\/(j=R.length+1/\r1'=.sl e2 sz2 r1/\v=v1):=by
  intro j r1' v1 h1 h2;have hb:∀{j:Nat}{u:Value},ρ[j]?=some u->j<R.length:=λh=>by have:=(ac.1 h).1;omega
  have hb':∀{j:Nat}{u:Res},((R.set g .non).set i (.dsl e s R.length))[j]?=some u->j<R.length:=λh=>by have:=(ac.1 h).1;rw[lenR]at this;exact this
  rcases Ac7 h1 with h1|⟨e1,h1⟩|⟨e1,h1⟩ <;> rcases Ac7 h2 with h2|⟨e2,h2⟩|⟨e2,h2⟩
  .exact .inl ⟨h1,h2⟩
  .have:=hb' h1;omega
  .have:=hb' h1;omega
  .rw[lenR]at e1;have:=hb h2;omega
  .rw[lenR]at e1;exact .inr (.inl ⟨e1,h1,h2⟩)
  .rw[lenR]at e1;omega
  .rw[lenR]at e1;have:=hb h2;omega
  .rw[lenR]at e1;omega
  .rw[lenR]at e1;exact .inr (.inr ⟨e1,h1,h2.symm⟩)
 have hnew:(ρ++[.func f xs cs,v])[R.length]?=some (.func f xs cs):=by rw[←hL];simp
 classical
 refine hI.regroup (λj0 b=>if j0=g then (if D3 v b then R.length+1 else R.length) else j0) (by simp[hL]) (Pre.append _ _) ?_ ?_ (λ_ _=>rfl) rfl rfl ⟨rfl,λ_=>by first|exact ai _|exact aC _⟩ rfl
 .intro j r1' v1 h1 h2;rcases split2 j r1' v1 h1 h2 with⟨h1,h2⟩|⟨_,rfl,rfl⟩|⟨_,rfl,rfl⟩
  .rcases key j r1' v1 h1 h2 with⟨_,rfl,rfl⟩|rfl|⟨_,_,h1⟩
   .refine(hI.ok i _ _ hi hρi).imp id λ⟨f',xs',cs',a1,a2⟩=>?_;rw[hρg]at a1;cases a1;exact⟨f,xs,cs,hnew,a2⟩
   .exact .inr trivial
   .exact(hI.ok j _ _ h1 h2).mono (λ_ h=>h) (λ_ _=>rfl) (Pre.append _ _) (λ_ _=>rfl)
  .refine .inr ⟨f,xs,cs,rfl,o1,o2,λi2 row2 hi2 j2 d hj2=>?_,λk1 k2 a1 n1 c1 a2 n2 c2 h1 _ _ h4 h5=>o4 k1 k2 a1 n1 c1 a2 n2 c2 h1 (nohole _) (nohole _) h4 h5⟩;obtain⟨x,hx,hc⟩:=o3 i2 row2 hi2 j2 d hj2;refine⟨x,hx,?_⟩;cases d with
   |v y=>exact hc
   |s r=>exact⟨hc.1,λ_=>hc.2 (nohole _)⟩
  .exact .inr hslok
 .intro j r1' v1 b h1 h2 h3;rcases split2 j r1' v1 h1 h2 with⟨h1,h2⟩|⟨rfl,rfl,rfl⟩|⟨rfl,rfl,rfl⟩
  .rcases key j r1' v1 h1 h2 with⟨rfl,rfl,rfl⟩|rfl|⟨g1,g2,h1⟩
   .exact⟨j,_,_,by rw[em hig],hi,hρi,h3⟩
   .exact h3.elim
   .exact⟨j,_,_,by rw[em g2],h1,h2,h3⟩
  .obtain⟨q,x,q1,q2,q3⟩:=h3;refine⟨g,_,_,?_,hg,hρg,q,x,q1,nohole _,q3⟩;rw[ei rfl,em];intro hv;exact dist q x b (λe=>q2 ⟨(k,off),rfl,e⟩) q1 q3 hv
  .refine⟨g,_,_,?_,hg,hρg,k*s+off,v,hx,nohole _,h3⟩;rw[ei rfl,ei];exact h3
theorem Ag3{ts:List TypeId}(h:Ck P R c ts [.d (.os i),y]=some out)(hi:R[i]?=some (.sl e s rows)) :
  ∃b z m r',out.c=some (.app rows b z m r'):=by
 match ts,h with
 | [t,u],h=>simp only[Ck,hi]at h;grind
 | [],h=>simp[Ck]at h
 | [_],h=>simp[Ck]at h
 |_::_::_::_,h=>simp[Ck]at h
theorem Adv(hI:Inv C S w ρ R)(hv:Ay (RdA S w ρ) vs.toList [.d (.oi i g k size off),y])
  (h:Jl P R c ts.toList i g k size off y=some out)(hk:∀x,out.c=some x->x.ok P):∃v w' ρ',(Builtin.append_ ts ty vs).run P w=.ok v w'/\Du C S w ρ out.R v out.v S w' ρ':=by
 unfold Jl at h;split at h
 .rename_i e s g' s2 tys rows q1 q2 row q3 r1 r2 sz n rows' hi hg;split at h
  .rename_i e2 sz2 ht;cases hb:((Nat.beq g g'&&Nat.beq s s2)&&(Nat.beq s size&&Nat.blt off s)) with
   |false=>rw[hb]at h;simp at h
   | true=>
    rw[hb]at h;simp only[eh]at h;simp only[aa]at hb;have e1:=af hb.1.1;subst e1;have e1:=af hb.1.2;subst e1;have e1:=af hb.2.1;subst e1;split at h
    .rename_i v' R' a b z m r' hap;simp at h;subst h;obtain⟨v0,v1,hvs,r0,hy⟩:∃v0 v1,vs = #[v0,v1]/\RdA S w ρ v0 (.d (.oi i g k s off))/\RdA S w ρ v1 y:=by
      obtain⟨l⟩:=vs
      match l,hv with
      | [v0,v1],hv=>exact⟨v0,v1,rfl,hv.1,hv.2.1⟩
      | [],hv=>exact hv.elim
      | [_],hv=>exact hv.2.elim
      |_::_::_::_,hv=>exact hv.2.2.elim
     subst hvs;have hlen:((R.set g .non).set i (.dsl e s R.length)++[Res.gh s tys rows (some (k,off)),.sl e2 sz2 r1])[R.length+1]?=some (.sl e2 sz2 r1):=by rw[aK (by simp)];simp
     obtain⟨b0,z0,m0,r0',hc⟩:=Ag3 hap hlen;simp at hc;obtain⟨rfl,_⟩:=hc;obtain⟨⟨k1,k2⟩,k3⟩:=hk _ rfl;have hone:=r0.d_inv.one;cases r0.d_inv with
     | @oi _ _ _ _ _ f xs cs _ hρg hx h1=>
      have hρi:∃h,ρ[i]?=some h:=hI.rho hi;obtain⟨hh,hρi⟩:=hρi;have hT:=hI.takeOut hi hg hρi hρg hx ht k1 k2;have hat:(ρ++[Value.func f xs cs,v0])[R.length+1]?=some v0:=by rw[←hI.len,aK (by simp)];simp
      obtain⟨v,w',ρ',hr,hA⟩:=Kd (ty:=ty) (vs:=#[v0,v1]) hT (args:=[.d (.os (R.length+1)),y]) ⟨.d (.os hat hone),hy.mono (λ_ h=>h) (λ_ _=>rfl) (Pre.append _ _),trivial⟩ hap (λx hx=>by simp at hx;subst hx;exact k3);exact⟨v,w',ρ',hr,hA.inv,hA.sub,hA.same,(Pre.append _ _).trans hA.pre,hA.rd⟩
    .cases h
  .cases h
 .cases h
theorem Ip(hl:o+news.length<=vs.size)(q:Nat) :
  ((vs.toList.take o++news++vs.toList.drop (o+news.length)).toArray)[q]?=if q<o then vs[q]? else if q<o+news.length then news[q-o]? else vs[q]?:=by
 grind
theorem G_(hl:o+news.length<=vs.size):((vs.toList.take o++news++vs.toList.drop (o+news.length)).toArray).size=vs.size:=by grind
theorem Ai6(h:P4 S w e s rows v)(hf:D3 v b):∃vs,Blk w b vs e:=by
 rcases h with⟨h1,_⟩|⟨b',o,cap,vs,h1,h2,_⟩
 .subst h1;exact hf.elim
 .subst h1;cases hf;exact⟨vs,h2⟩
theorem Inv.putBack(hI:Inv C S w ρ R){m:Nat}(hcells:u.cells.toList=[v])
  (hi:R[i]?=some (.dsl e s g))(hg:R[g]?=some (.gh s tys rows (some (k,off))))(hm:R[m]?=some (.sl e2 sz2 r1))(hρi:ρ[i]?=some (.slice (some ⟨b,o,none⟩) len cap))(hρg:ρ[g]?=some (.func f xs cs))(hρm:ρ[m]?=some v)(hv1:v.oneCell'=true)
  (ht:tys[off]?=some (e2,sz2))(hrow:rows[k]?=some row)(hos:off<s)(hn:A8 P t=some 1) :
  ∃w' ρ',(storeVar t ⟨b,o+k*s+off,none⟩ u).run P w=.ok () w' /\
   Du C S w ρ ((((R.set m .non).set g .non).set i (.dsl e s R.length))++[.gh s tys (rows.set k (row.take off++(.s r1::row.drop (off+1)))) none]) undef (.tup []) S w' ρ':=by
 have hL:ρ.length=R.length:=hI.len;have hig:i≠g:=λe=>by subst e;rw[hi]at hg;cases hg
 have him:i≠m:=λe=>by subst e;rw[hi]at hm;cases hm
 have hgm:g≠m:=λe=>by subst e;rw[hg]at hm;cases hm
 have hgo:gOk S w s tys rows (some (k,off)) xs:=by obtain⟨f',xs',cs',k3,k4⟩:=(hI.ok g _ _ hg hρg).live rfl;cases k3;exact k4
 obtain⟨o1,o2,o3,o4⟩:=hgo;have hrl:row.length=s:=o1 row (ag hrow);have hkl:k<rows.length:=(ac.1 hrow).1;obtain⟨vs,hb,hlc,hcm,hfit,hxs,hcp⟩:∃vs,w.heap[b]?=some (.cells vs e (0,0))/\len<=cap/\cap<=maxLen/\o+cap*s<=vs.size/\xs.size=len*s/\∀(k:Nat) x,xs[k]?=some x->vs[o+k]?=some x:=by
  obtain⟨f',xs',cs',a1,a2⟩:=(hI.ok i _ _ hi hρi).live rfl;rw[hρg]at a1;cases a1;rcases a2 with⟨a2,_⟩|⟨b',o',len',cap',vs,a2,a3,a4,a5,a6,a7,a8⟩
  .cases a2
  .cases a2;exact⟨vs,a3,a4,a5,a6,a7,a8⟩
 have hs0:0<s:=by omega
 have hlen:len=rows.length:=Nat.eq_of_mul_eq_mul_right hs0 (hxs.symm.trans o2);subst hlen;have hks:k*s+off<rows.length*s:=by have:(k+1)*s<=rows.length*s:=aX _ hkl;rw[az,cg]at this;omega
 have hkc:k*s+off<cap*s:=aE hks (aX _ hlc);have hbound:o+k*s+off+[v].length<=vs.size:=by simp;omega
 have hrun:=Kg (P:=P) (w:=w) (t:=t) (v:=u) (n:=1) (g:=b) (o:=o+k*s+off) (u:=e) (cur:=vs) hn (by have:=congrArg List.length hcells;simpa using this) (.of hb) (by simpa using hbound) (by rw[hcells];intro x hx;simp at hx;subst hx;exact hv1);rw[hcells]at hrun;refine⟨_,ρ++[.func f (xs.set! (k*s+off) v) cs],hrun,?_⟩;generalize hw':w.setRow b (vs.toList.take (o+k*s+off)++[v]++vs.toList.drop (o+k*s+off+[v].length)).toArray=w';have hoth:∀q,q≠b->w'.heap[q]?=w.heap[q]?:=λq hq=>by rw[←hw'];exact Bg _ _ _ _ hq
 have hsame:w'.heap[b]?=some (.cells (vs.toList.take (o+k*s+off)++[v]++vs.toList.drop (o+k*s+off+[v].length)).toArray e (0,0)):=by rw[←hw'];exact Df _ _ _ _ _ _ hb
 have hown:=hI.own i _ _ b hi hρi rfl;have hS:∀q,S q->w'.heap[q]?=w.heap[q]?:=λq hq=>hoth q λe=>hown.1 (e ▸ hq);have hnew:(ρ++[Value.func f (xs.set! (k*s+off) v) cs])[R.length]?=some (.func f (xs.set! (k*s+off) v) cs):=by rw[←hL];simp
 have xget:∀q,(xs.set! (k*s+off) v)[q]?=if q=k*s+off then some v else xs[q]?:=by
  intro q;rw[Array.set!_eq_setIfInBounds,Array.getElem?_setIfInBounds];by_cases hq:q=k*s+off
  .subst hq;simp;omega
  .rw[em (λe=>hq e.symm),em hq]
 have nohole:∀q,¬H7 s none q:=λq ⟨p,hp,_⟩=>by cases hp
 have hole:∀q,H7 s (some (k,off)) q↔q=k*s+off:=λq=>⟨λ⟨p,hp,he⟩=>by cases hp;exact he,λh=>⟨_,rfl,h⟩⟩;have key:∀(j:Nat) r1' v1,(((R.set m .non).set g .non).set i (.dsl e s R.length))[j]?=some r1'->ρ[j]?=some v1->(j=i/\r1'=.dsl e s R.length)\/r1'=.non\/(j≠i/\j≠g/\j≠m/\R[j]?=some r1'):=by
  intro j r1' v1 h1 h2;rw[aB]at h1;split at h1
  .rename_i he;subst he;split at h1
   .cases h1;exact .inl ⟨rfl,rfl⟩
   .cases h1
  .rename_i he;rw[aB]at h1;split at h1
   .split at h1
    .cases h1;exact .inr (.inl rfl)
    .cases h1
   .rename_i he2;rw[aB]at h1;split at h1
    .split at h1
     .cases h1;exact .inr (.inl rfl)
     .cases h1
    .rename_i he3;exact .inr (.inr ⟨λe=>he e.symm,λe=>he2 e.symm,λe=>he3 e.symm,h1⟩)
 have hslm:P4 S w e2 sz2 r1 v:=(hI.ok m _ _ hm hρm).live hv1;have mb:∀q,D3 v q->q≠b:=λq hq e=>hI.dis m i _ _ _ _ q (ba him) hm hi hρm hρi hq e.symm;have gb:∀(p:Nat) x q,xs[p]?=some x->p≠k*s+off->D3 x q->q≠b:=λp x q hx hp hq e=>hI.dis g i _ _ _ _ q (ba hig) hg hi hρg hρi ⟨p,x,hx,λh=>hp ((hole p).1 h),hq⟩ e.symm;have mg:∀(p:Nat) x q,xs[p]?=some x->p≠k*s+off->D3 x q->D3 v q->False:=λp x q hx hp hq h2=>hI.dis m g _ _ _ _ q (ba hgm) hm hg hρm hρg h2 ⟨p,x,hx,λh=>hp ((hole p).1 h),hq⟩;refine⟨hI.regroup (λj0 _=>if j0=g\/j0=m then R.length else j0) (by simp[hL]) (Pre.append _ _) ?_ ?_ ?_ ?_ ?_ ?_ ?_,λ_ h=>h,hS,Pre.append _ _,.tup (vs:=[]) rfl (by simp)⟩
 .intro j r1' v1 h1 h2;rcases D8 h1 with h1|⟨e1,rfl⟩
  .have hjl:j<R.length:=by have:=(ac.1 h1).1;simpa using this
   have h2:ρ[j]?=some v1:=by rw[ax (by omega)]at h2;exact h2
   rcases key j r1' v1 h1 h2 with⟨rfl,rfl⟩|rfl|⟨g1,g2,g3,h1⟩
   .rw[hρi]at h2;cases h2;refine .inr ⟨f,_,cs,hnew,.inr ⟨b,o,rows.length,cap,_,rfl,hsame,hlc,hcm,?_,?_,λq x hx=>?_⟩⟩
    .rw[G_ hbound];exact hfit
    .rw[Array.set!_eq_setIfInBounds,Array.size_setIfInBounds];exact hxs
    .rw[Ip hbound];rw[xget]at hx;by_cases hq:q=k*s+off
     .subst hq;rw[ei rfl]at hx;rw[em (by omega),ei (by simp;omega),←hx,show o+(k*s+off)-(o+k*s+off)=0 from by omega];rfl
     .rw[em hq]at hx;split
      .exact hcp q x hx
      .rw[em (by simp;omega)];exact hcp q x hx
   .exact .inr trivial
   .exact(hI.ok j _ _ h1 h2).mono (λ_ h=>h) hS (Pre.append _ _) λq hq=>hoth q λe=>hI.dis j i _ _ _ _ q g1 h1 hi h2 hρi hq e.symm
  .simp at e1;subst e1;rw[hnew]at h2;cases h2;refine .inr ⟨f,_,cs,rfl,λl hl=>?_,?_,λi2 row2 hi2 j2 d hj2=>?_,λk1 k2 a1 n1 c1 a2 n2 c2 h12 _ _ h4 h5=>?_⟩
   .rcases bW hl with h|h
    .exact o1 l h
    .subst h;simp;omega
   .rw[Array.set!_eq_setIfInBounds,Array.size_setIfInBounds,bV];exact o2
   .have hi2l:i2<rows.length:=by have:=(ac.1 hi2).1;simpa using this
    have hj2l:j2<s:=by
     have:row2.length=s:=by
      rcases bW (ag hi2) with h|h
      .exact o1 _ h
      .subst h;simp;omega
     rw[←this];exact(ac.1 hj2).1
    have hmono:∀{x:Value}{d:Pd},xs[i2*s+j2]?=some x->i2*s+j2≠k*s+off->Aj8 S w tys j2 (H7 s (some (k,off)) (i2*s+j2)) x d->Aj8 S w' tys j2 (H7 s none (i2*s+j2)) x d:=by
     intro x d hx hne hc;cases d with
     |v y=>exact hc
     |s r=>refine⟨hc.1,λ_=>?_⟩;obtain⟨e',s',h1,h2⟩:=hc.2 λh=>hne ((hole _).1 h);exact⟨e',s',h1,h2.mono (λ_ h=>h) hS λq hq=>hoth q (gb _ x q hx hne hq)⟩
    by_cases hik:i2=k
    .subst hik;rw[ch hi2l]at hi2;cases hi2;rcases bX j2 off with hj1|hj1|hj1
     .rw[ax (by simp;omega),ap,ei hj1]at hj2;obtain⟨x,hx,hc⟩:=o3 i2 row hrow j2 d hj2;have hne:i2*s+j2≠i2*s+off:=by omega
      exact⟨x,by rw[xget,em hne];exact hx,hmono hx hne hc⟩
     .subst hj1;rw[aK (by rw[aN];omega)]at hj2;rw[show j2-(row.take j2).length=0 from by rw[aN];omega]at hj2;simp at hj2;subst hj2;exact⟨v,by rw[xget,ei rfl],hv1,λ_=>⟨e2,sz2,ht,hslm.mono (λ_ h=>h) hS λq hq=>hoth q (mb q hq)⟩⟩
     .rw[aK (by simp;omega)]at hj2;rw[show j2-(row.take off).length=(j2-off-1)+1 from by simp;omega,cI,ar,show off+1+(j2-off-1)=j2 from by omega]at hj2;obtain⟨x,hx,hc⟩:=o3 i2 row hrow j2 d hj2;have hne:i2*s+j2≠i2*s+off:=by omega
      exact⟨x,by rw[xget,em hne];exact hx,hmono hx hne hc⟩
    .rw[bz (ba hik)]at hi2;obtain⟨x,hx,hc⟩:=o3 i2 row2 hi2 j2 d hj2;have hne:i2*s+j2≠k*s+off:=by
      rcases Nat.lt_or_gt_of_ne hik with h|h
      .have:(i2+1)*s<=k*s:=aX _ h;rw[az,cg]at this;omega
      .have:(k+1)*s<=i2*s:=aX _ h;rw[az,cg]at this;omega
     exact⟨x,by rw[xget,em hne];exact hx,hmono hx hne hc⟩
   .rw[xget]at h4 h5;by_cases e1:k1=k*s+off
    .rw[ei e1]at h4;have e2:k2≠k*s+off:=λe=>h12 (e1.trans e.symm);rw[em e2]at h5;intro hbb;cases h4;exact mg k2 _ a2.block h5 e2 rfl hbb
    .rw[em e1]at h4;by_cases e2:k2=k*s+off
     .rw[ei e2]at h5;intro hbb;cases h5;exact mg k1 _ a1.block h4 e1 rfl hbb.symm
     .rw[em e2]at h5;exact o4 k1 k2 a1 n1 c1 a2 n2 c2 h12 (λh=>e1 ((hole _).1 h)) (λh=>e2 ((hole _).1 h)) h4 h5
 .intro j r1' v1 q h1 h2 h3;rcases D8 h1 with h1|⟨e1,rfl⟩
  .have hjl:j<R.length:=by have:=(ac.1 h1).1;simpa using this
   have h2:ρ[j]?=some v1:=by rw[ax (by omega)]at h2;exact h2
   rcases key j r1' v1 h1 h2 with⟨rfl,rfl⟩|rfl|⟨g1,g2,g3,h1⟩
   .exact⟨j,_,_,by rw[em (by simp[hig,him])],hi,h2,h3⟩
   .exact h3.elim
   .exact⟨j,_,_,by rw[em (by simp[g2,g3])],h1,h2,h3⟩
  .simp at e1;subst e1;rw[hnew]at h2;cases h2;obtain⟨p,x,p1,_,p3⟩:=h3;rw[xget]at p1;by_cases hp:p=k*s+off
   .rw[ei hp]at p1;cases p1;exact⟨m,_,_,by rw[ei (.inr rfl)],hm,hρm,p3⟩
   .rw[em hp]at p1;exact⟨g,_,_,by rw[ei (.inl rfl)],hg,hρg,p,x,p1,λh=>hp ((hole p).1 h),p3⟩
 .intro q hq;exact hoth q λe=>hq ⟨i,_,_,hi,hρi,e.symm⟩
 .rw[←hw'];simp
 .rw[←hw'];rfl
 .rw[←hw'];exact⟨rfl,λ_=>ai _⟩
 .rw[←hw'];rfl
theorem Inv.putRun(hI:Inv C S w ρ R){l cp:Nat}{e:TypeId}{news:List (List Pd)}(hi:R[i]?=some (.sl e s rows))(hρ:ρ[i]?=some (.slice (some ⟨b,o,none⟩) l cp))
  (hv:Ay (RdP S w) vs2 news.flatten)(hu:∀l,l∈news->l.length=s)(hb:lo+news.length<=rows.length) :
  ∃w',(storeCells ⟨b,o+lo*s,none⟩ vs2).run P w=.ok () w'/\Inv C S w' ρ (R.set i (.sl e s (rows.take lo++(news++rows.drop (lo+news.length)))))/\(∀k,S k->w'.heap[k]?=w.heap[k]?):=by
 rcases Ln.1 ((hI.ok i _ _ hi hρ).live rfl) with⟨h3,_⟩|⟨b',o',cp',vs,h3,hbk,hcap,hmx,hfit,hlen,hcells⟩
 .cases h3
 .cases h3;have hvl:vs2.length=news.length*s:=by rw[hv.length,Ee hu]
  have hle:(lo+news.length)*s<=rows.length*s:=aX _ hb;have hle2:rows.length*s<=cp*s:=aX _ hcap;rw[az]at hle;have hbound:o+lo*s+vs2.length<=vs.size:=by omega
  refine⟨_,Hs hbk hbound (Yh hv),?_,λq hq=>Bg _ _ _ _ λe=>(hI.own i _ _ b hi hρ rfl).1 (e ▸ hq)⟩;have ob:=hI.own i _ _ b hi hρ rfl;refine hI.put hi hρ (b:=b) rfl (λk hk=>by simp[Res.foot]at hk;exact hk.symm) (λk hk=>Bg _ _ _ _ hk) (by simp) rfl ⟨rfl,λ_=>by first|exact ai _|exact aC _⟩ rfl (.inr (Ln.2 (.inr ⟨b,o,cp,_,?_,hbk.put (G_ hbound),?_,hmx,?_,?_,?_⟩)))
  .have:(rows.take lo++(news++rows.drop (lo+news.length))).length=rows.length:=by simp;omega
   rw[this]
  .have:(rows.take lo++(news++rows.drop (lo+news.length))).length=rows.length:=by simp;omega
   rw[this];exact hcap
  .rw[G_ hbound];exact hfit
  .intro r hr;rcases aw.1 hr with hr|hr
   .exact hlen r (bc hr)
   .rcases aw.1 hr with hr|hr
    .exact hu r hr
    .exact hlen r (cx hr)
  .have hrl:(rows.take lo++(news++rows.drop (lo+news.length))).length=rows.length:=by simp;omega
   rw[hrl,ci,ci];have hS:∀k,S k->(w.setRow b (vs.toList.take (o+lo*s)++vs2++vs.toList.drop (o+lo*s+vs2.length)).toArray).heap[k]?=w.heap[k]?:=λq hq=>Bg _ _ _ _ λe=>ob.1 (e ▸ hq);have e1:((vs.toList.take (o+lo*s)++vs2++vs.toList.drop (o+lo*s+vs2.length)).drop o).take (rows.length*s) =
     ((vs.toList.drop o).take (rows.length*s)).take (lo*s)++(vs2++((vs.toList.drop o).take (rows.length*s)).drop ((lo+news.length)*s)):=by
    apply bj;intro q;have hg:=Ip hbound (o+q);simp only[cJ]at hg;rw[ap,ar,hg];have hq1:(((vs.toList.drop o).take (rows.length*s)).take (lo*s)).length=lo*s:=by simp only[aN,bJ,cj];omega
    rcases aR q (lo*s) with hq|hq
    .rw[ax (by rw[hq1];exact hq),ap,ei hq,ap,ei (by omega),ei (by omega),ei (by omega),ar];simp
    .rw[aK (by rw[hq1];exact hq),hq1];rcases aR q (lo*s+vs2.length) with hq2|hq2
     .rw[ax (by omega),ei (by omega),em (by omega),ei (by omega)];congr 1;omega
     .rw[aK (by omega),ar,ap,az];rw[show lo*s+news.length*s+(q-lo*s-vs2.length)=q from by omega];split
      .rw[em (by omega),em (by omega),ar];simp
      .rfl
   rw[e1];have ft:∀n,n<=rows.length->(rows.take n).flatten=rows.flatten.take (n*s):=by
    intro n hn;have h1:=Ee (λl hl=>hlen l (bc (i:=n) hl));rw[aN,cy hn]at h1;have h2:rows.flatten=(rows.take n).flatten++(rows.drop n).flatten:=by rw[←ci,bl]
    rw[h2,←h1];exact(List.take_left).symm
   have fd:∀n,n<=rows.length->(rows.drop n).flatten=rows.flatten.drop (n*s):=by
    intro n hn;have h1:=Ee (λl hl=>hlen l (bc (i:=n) hl));rw[aN,cy hn]at h1;have h2:rows.flatten=(rows.take n).flatten++(rows.drop n).flatten:=by rw[←ci,bl]
    rw[h2,←h1];exact(List.drop_left).symm
   rw[ft lo (by omega),fd (lo+news.length) hb];exact((hcells.take _).append (hv.append (hcells.drop _))).mono λ_ _ h=>h.mono (λ_ h=>h) hS
theorem Aot(hI:Inv C S w ρ R){o:Oper}{ds:List D}(h:Q4 R c o i k size off ds n=some out)(hk:∀x,out.c=some x->x.ok P) 
  (hv:Ay (Rd S w ρ) u.cells.toList ds)(hn:A8 P t=some n){p:Nat}(hρ:ρ[i]?=some (.slice (some ⟨b,p,none⟩) len cap)) :
  o.dst=none/\∃w' ρ',(storeVar t ⟨b,p+k*size+off,none⟩ u).run P w=.ok () w'/\Du C S w ρ out.R undef out.v S w' ρ':=by
 unfold Q4 at h;split at h
 .rename_i e s g m q1 q2 q3 row q4 rows' hi;split at h
  .rename_i s2 tys rows k0 off0 e2 sz2 r1 hg hm;split at h
   .rename_i e3 sz3 ht;cases hb:(Nat.beq s size&&Nat.beq s s2)&&((Nat.beq off off0&&Nat.beq n 1)&&((Nat.blt off s&&o.dst.isNone)&&(Nat.beq e2 e3&&Nat.beq sz2 sz3))) with
    |false=>rw[hb]at h;simp at h
    | true=>
     rw[hb]at h;simp only[eh,ae]at h;subst h;simp only[aa]at hb;obtain⟨⟨b1,b2⟩,⟨b3,b4⟩,⟨b5,b6⟩,b7,b8⟩:=hb;have h1:=af b1;subst h1;have h1:=af b2;subst h1;have h1:=af b3;subst h1;have h1:=af b4;subst h1;have h1:e2=e3:=af b7;subst h1;have h1:=af b8;subst h1;have hos:off<s:=by simpa[eu]using b5
     have hdst:o.dst=none:=by cases hd:o.dst <;> simp[hd]at b6;rfl
     obtain⟨k1,k2,k3⟩:=hk _ rfl;subst k1;subst k3;obtain⟨v,hcells,hr⟩:∃v,u.cells.toList=[v]/\Rd S w ρ v (.os m):=by
      generalize u.cells.toList=l at hv
      match l,hv with
      | [v],hv=>exact⟨v,rfl,hv.1⟩
      | [],hv=>exact hv.elim
      |_::_::_,hv=>exact hv.2.elim
     obtain⟨f,xs,cs,hρg⟩:∃f xs cs,ρ[g]?=some (.func f xs cs):=by obtain⟨f',xs',cs',a1,_⟩:=(hI.ok i _ _ hi hρ).live rfl;exact⟨f',xs',cs',a1⟩
     exact⟨hdst,hI.putBack hcells hi hg hm hρ hρg hr.os_inv hr.one ht k2 hos hn⟩
   .cases h
  .cases h
 .cases h
theorem Ao8(hI:Inv C S w ρ R)(hr:RdA S w ρ v x)(h:Px R x=some (i,lo,n,s)){s2:Nat}(hi:R[i]?=some (.sl e s2 rows)) :
  ∃a c,v=.slice a n c/\lo+n<=rows.length/\(n=0\/(s=s2->∃b o l cp,ρ[i]?=some (.slice (some ⟨b,o,none⟩) l cp)/\a=some ⟨b,o+lo*s,none⟩)):=by
 unfold Px at h;split at h
 .rename_i j;split at h
  .rename_i q s3 rows3 hj;simp at h;obtain⟨rfl,rfl,rfl,rfl⟩:=h;rw[hi]at hj;cases hj;have hρ:=hr.d_inv.os_inv;rcases(hI.ok _ _ _ hi hρ).live hr.d_inv.one with⟨h1,h2⟩|⟨b,o,cap,vs,h1,_⟩
   .exact⟨none,0,by rw[h1,h2];rfl,by omega,.inl (by rw[h2];rfl)⟩
   grind
  .cases h
 .rename_i j lo' n' s';simp at h;obtain⟨rfl,rfl,rfl,rfl⟩:=h;have hr':=hr.d_inv;cases hr' with
  | @osb _ _ _ _ q a len cap hρ hl hc hq hq2=>
   rcases(hI.ok _ _ _ hi hρ).live rfl with⟨h1,h2⟩|⟨b,o,cap',vs,h1,_,h3,_⟩
   .cases h1;subst h2;exact⟨_,_,rfl,hl,.inl (by omega)⟩
   .cases h1;refine⟨_,_,rfl,hl,?_⟩;by_cases hn:n'=0
    .exact .inl hn
    .refine .inr λ_=>⟨b,o,_,_,hρ,?_⟩;rw[hq2 (by omega)];simp[Cn]
 .cases h
theorem Akk(hI : Inv C S w ρ R)(hv : Ay (RdA S w ρ) vs.toList args)(h : N_ P R c ts.toList args = some out)
  (hk:∀x,out.c=some x->x.ok P):∃v w',(Builtin.clear_ ts ty vs).run P w=.ok v w'/\Du C S w ρ out.R v out.v S w' ρ:=by
 unfold N_ at h;split at h
 .rename_i ts' t x hts;split at h
  .rename_i e ht;split at h
   .rename_i size zd i lo n s hs hz hd;split at h
    .rename_i zs e' s2 rows q1 rows' hdp hi;cases hb:(Nat.beq s s2&&Nat.beq s (size+1))&&Nat.beq zs.length (size+1) with
     |false=>rw[hb]at h;simp at h
     | true=>
      rw[hb]at h;simp only[eh,ae]at h;subst h;simp only[aa]at hb;have h1:=af hb.1.1;subst h1;have h1:=af hb.1.2;subst h1;have hzl:=af hb.2;have k1:=hk _ rfl;have k1:rows.take lo++(List.replicate n (zs.map Pd.nz)++rows.drop (lo+n))=rows':=k1;subst k1;obtain⟨v0,hvs,r0⟩:∃v0,vs = #[v0]/\RdA S w ρ v0 x:=by
       obtain⟨l⟩:=vs
       match l,hv with
       | [v0],hv=>exact⟨v0,rfl,hv.1⟩
       | [],hv=>exact hv.elim
       |_::_::_,hv=>exact hv.2.elim
      have htsa:ts = #[t]:=by obtain⟨l⟩:=ts;simp at hts;rw[hts]
      subst hvs;subst htsa;obtain⟨z,hz1,hz2⟩:=Dt hz;obtain⟨a,cc,rfl,hle,hcase⟩:=Ao8 hI r0 hd hi;have hstay:∀(R2:List Res),R2=R->Du C S w ρ R2 (.tuple #[]) (.tup []) S w ρ:=λR2 h=>by subst h;exact⟨hI,λ_ h=>h,λ_ _=>rfl,Pre.refl _,.tup (vs:=[]) rfl (by simp)⟩
      by_cases hn:n=0
      .subst hn;refine⟨.tuple #[],w,?_,hstay _ ?_⟩
       .cases a <;> simp[Builtin.clear_,el ht]
       .simp;apply bj;intro j;rw[aB];split
        .rename_i hj;subst hj;rw[ei (ac.1 hi).1,hi]
        .rfl
      .rcases hcase with hcase|hcase
       .exact absurd hcase hn
       .obtain⟨b,o,l,cp,hρ,rfl⟩:=hcase rfl;have hzc:=J1 (S:=S) (w:=w) (ρ:=ρ) hz2;have hzp:=RdP.nzL (O8 hdp hzc);have hfl:Ay (RdP S w) (Builtin.zeroCells z.cells n).toList (List.replicate n (zs.map Pd.nz)).flatten:=by
         rw[show (Builtin.zeroCells z.cells n).toList=Dv n z.cells.toList from K4 _ _];exact Ma hzp n
        obtain⟨w',hr,hI',hS⟩:=hI.putRun (P:=P) (lo:=lo) hi hρ hfl (λl hl=>by rw[bK hl];simpa using hzl) (by simpa using hle);simp only[List.length_replicate]at hI';refine⟨.tuple #[],w',?_,hI',λ_ h=>h,hS,Pre.refl _,.tup (vs:=[]) rfl (by simp)⟩;obtain⟨n,rfl⟩:∃m,n=m+1:=⟨n-1,by omega⟩;simp[Builtin.clear_,el ht,Fz hz1,hr]
    .cases h
   .cases h
  .cases h
 .cases h
theorem Aoz(hI : Inv C S w ρ R)(hv : Ay (RdA S w ρ) vs.toList args)(h : Q6 P R c ts.toList args = some out)
  (hk:∀x,out.c=some x->x.ok P):∃v w',(Builtin.copy_ ts ty vs).run P w=.ok v w'/\Du C S w ρ out.R v out.v S w' ρ:=by
 unfold Q6 at h;split at h
 .rename_i ts' t tr x y hts;split at h
  .rename_i e ht;split at h
   .rename_i size i lo n s hs hd;split at h
    .rename_i src e' s2 rows q1 q2 q3 m q4 rows' hsrc hi;cases hb:Nat.beq s s2&&Nat.beq s (size+1) with
     |false=>rw[hb]at h;simp at h
     | true=>
      rw[hb]at h;simp only[eh,ae]at h;subst h;simp only[aa]at hb;have h1:=af hb.1;subst h1;have h1:=af hb.2;subst h1;obtain⟨k1,k2,k3⟩:=hk _ rfl;subst k3;subst k1;obtain⟨v0,v1,hvs,r0,r1⟩:∃v0 v1,vs = #[v0,v1]/\RdA S w ρ v0 x/\RdA S w ρ v1 y:=by
       obtain⟨l⟩:=vs
       match l,hv with
       | [v0,v1],hv=>exact⟨v0,v1,rfl,hv.1,hv.2.1⟩
       | [],hv=>exact hv.elim
       | [_],hv=>exact hv.2.elim
       |_::_::_::_,hv=>exact hv.2.2.elim
      have htsa:ts[0]?=some t:=by obtain⟨l⟩:=ts;simp at hts;simp[hts]
      subst hvs;obtain⟨a,cc,rfl,hle,hcase⟩:=Ao8 hI r0 hd hi;have hm:Nat.min src.length n<=src.length:=Nat.min_le_left _ _;have hmn:Nat.min src.length n<=n:=Nat.min_le_right _ _;obtain⟨b2,c2,news,hform,hfc,hall⟩:=Ud (P:=P) hI r1 hsrc k2 hm;subst hform;have hfc:=hfc w λ_=>rfl;have hnl:news.toList.length=Nat.min src.length n*(size+1):=by have h1:=hall.length;rw[Ee (λl hl=>k2 l (bc hl)),aN,cy hm]at h1;exact h1
      by_cases hn:n=0
      .subst hn;have h0:Nat.min src.length 0=0:=Nat.min_zero _;have hsame:R.set i (.sl e' (size+1) (rows.take lo++(src.take (Nat.min src.length 0)++rows.drop (lo+Nat.min src.length 0))))=R:=by
        rw[h0];simp;apply bj;intro j;rw[aB];split
        .rename_i hj;subst hj;rw[ei (ac.1 hi).1,hi]
        .rfl
       refine⟨.int .i64 (Nat.min src.length 0:Nat),w,?_,by rw[hsame];exact hI,λ_ h=>h,λ_ _=>rfl,Pre.refl _,Eg rfl⟩;rw[h0]at hfc hnl;have hnil:news.toList=[]:=bm (by simpa using hnl);cases a <;> simp[Builtin.copy_,htsa,el ht,Builtin.lenOf,Ch hs,hfc,hnil,storeCells,goInt]
      .rcases hcase with hcase|hcase
       .exact absurd hcase hn
       .obtain⟨b,o,l,cp,hρ,rfl⟩:=hcase rfl;obtain⟨w',hr,hI',hS⟩:=hI.putRun (P:=P) (lo:=lo) hi hρ hall (λl hl=>k2 l (bc hl)) (by rw[aN,cy hm];omega);rw[aN,cy hm]at hI';have hcap:n<=maxLen:=by
         rcases(hI.ok _ _ _ hi hρ).live rfl with⟨h1,h2⟩|⟨b',o',cap',vs',h1,_,h3,h4,_⟩
         .cases h1
         .cases h1;omega
        have hw0:IntKind.i64.wrap (Nat.min src.length n:Nat)=(Nat.min src.length n:Nat):=IntWalk.i64_in _ (by unfold maxLen at hcap;omega);refine⟨.int .i64 (Nat.min src.length n:Nat),w',?_,hI',λ_ h=>h,hS,Pre.refl _,Eg rfl⟩;simp[Builtin.copy_,htsa,el ht,Builtin.lenOf,Ch hs,hfc,hr,goInt]
    .cases h
   .cases h
  .cases h
 .cases h
theorem Ag2{ts:List TypeId}(h:Ck P R c ts [.d (.os i),y]=some out)(hi:R[i]?=some (.sl e s rows)) :
  ∃e' s' rows',out.R=R.set i .non++[.sl e' s' rows']:=by
 match ts,h with
 | [t,u],h=>simp only[Ck,hi]at h;grind
 | [],h=>simp[Ck]at h
 | [_],h=>simp[Ck]at h
 |_::_::_::_,h=>simp[Ck]at h
theorem Vd{ts:List TypeId}(h:M0 P R c ts i n s y=some out):∃r,out.R=R.set i .non++[.non,r]:=by
 unfold M0 at h;split at h
 .rename_i e s' rows hi;cases hb:Nat.beq s' s with
  |false=>rw[hb]at h;simp at h
  | true=>
   rw[hb]at h;simp only[eh]at h;obtain⟨e2,s2,r2,hr⟩:=Ag2 h (e:=e) (s:=s') (rows:=rows.take n) (by grind);refine⟨.sl e2 s2 r2,?_⟩
   .rw[hr,List.set_append_right _ _ (by simp)];simp only[bV,Nat.sub_self,List.set_cons_zero];rw[bF];rfl
 .cases h
theorem Ads(hI : Inv C S w ρ R)(hv : Ay (RdA S w ρ) vs.toList [.d (.osb i 0 n s), y])
  (h:M0 P R c ts.toList i n s y=some out)(hk:∀x,out.c=some x->x.ok P):∃v w' ρ',(Builtin.append_ ts ty vs).run P w=.ok v w'/\Du C S w ρ out.R v out.v S w' ρ':=by
 unfold M0 at h;split at h
 .rename_i e s' rows hi;cases hb:Nat.beq s' s with
  |false=>rw[hb]at h;simp at h
  | true=>
   rw[hb]at h;simp only[eh]at h;have hss:=af hb;subst hss;obtain⟨vl,hvl⟩:∃l,l=vs.toList:=⟨_,rfl⟩;rw[←hvl]at hv
   match vl,hv with
   | [x, z], hv =>
    obtain⟨hx,hz,_⟩:=hv;cases hx.d_inv with
    | @osb _ _ _ _ q a len cap hρ hl hc hq hq2=>
     have hq0:q=0:=by omega
     subst hq0;have hone:(Value.slice (a.map (·.add 0)) n (cap-0)).oneCell'=true:=rfl;have hM:Inv C S w (ρ++[.slice (a.map (·.add 0)) n (cap-0)]) (R.set i .non++[.sl e s' (rows.take n)]):=by
      refine hI.move hi hρ (λ_ _ _=>rfl) (ai _) rfl ⟨rfl,λ_=>by first|exact ai _|exact aC _⟩ rfl (λk hk=>?_) ?_
      .cases a with
       |none=>simp[Res.foot]at hk
       |some a0=>simp only[Res.foot,aU]at hk ⊢;exact .inl (by rw[←hk];exact(Dh a0 0).symm)
      .rcases(hI.ok i _ _ hi hρ).live rfl with⟨h1,h2⟩|⟨b,o,cp,vs',h1,h2,h3,h4,h5,h6,h7⟩
       .cases h1;have:n=0:=by omega
        subst this;exact .inr (.inl ⟨rfl,by rw[h2];rfl⟩)
       .cases h1;have hnl:(rows.take n).length=n:=by rw[aN];omega
        refine .inr (.inr ⟨b,o,cap,vs',by rw[hnl];rfl,h2,by rw[hnl];omega,h4,h5,λr hr=>h6 r (bc hr),λj r hj k d hk=>?_⟩);grind
     have hz':=hz.mono (λ_ h=>h) (λ_ _=>rfl) (Pre.append ρ [.slice (a.map (·.add 0)) n (cap-0)]);have hnew:(ρ++[Value.slice (a.map (·.add 0)) n (cap-0)])[R.length]?=some (.slice (a.map (·.add 0)) n (cap-0)):=by rw[←hI.len];simp
     obtain⟨v,w',ρ',hr,hA⟩:=Kd (ty:=ty) (vs:=vs) hM (by rw[←hvl];exact⟨.d (.os hnew hone),hz',trivial⟩) h hk;exact⟨v,w',ρ',hr,hA.inv,hA.sub,hA.same,(Pre.append _ _).trans hA.pre,hA.rd⟩
   | [],hv=>exact hv.elim
   | [_],hv=>exact hv.2.elim
   |_::_::_::_,hv=>exact hv.2.2.elim
 .cases h
theorem Adt(hI : Inv C S w ρ R)(hv : Ay (RdA S w ρ) vs.toList [.d (.osb i 0 n s), y])
  (h:M1 P R c ts.toList i n s y=some out)(hk:∀x,out.c=some x->x.ok P):∃v w',(Builtin.append_ ts ty vs).run P w=.ok v w'/\Du C S w ρ out.R v out.v S w' ρ:=by
 unfold M1 at h;split at h
 .rename_i ts' t u hts;cases hb:Nat.beq t u with
  |false=>rw[hb]at h;simp at h
  | true =>
   rw[hb]at h;simp only[eh]at h;have:=af hb;subst this;split at h
   .rename_i e ht;split at h
    .rename_i size src e' s' rows hs hsrc hi;split at h
     .rename_i q1 q2 q3 q4 m q5 rows';cases hb2:Nat.beq s' s&&Nat.beq s (size+1) with
      |false=>rw[hb2]at h;simp at h
      | true=>
       rw[hb2]at h;simp only[eh,ae]at h;subst h;simp only[aa]at hb2;have h1:=af hb2.1;subst h1;have h1:=af hb2.2;subst h1;obtain⟨⟨k1,k2⟩,k3,k4⟩:=hk _ rfl;subst k4;subst k1;obtain⟨v0,v1,hvs,r0,r1⟩:∃v0 v1,vs = #[v0,v1]/\RdA S w ρ v0 (.d (.osb i 0 n (size+1)))/\RdA S w ρ v1 y:=by
        obtain⟨l⟩:=vs
        match l,hv with
        | [v0,v1],hv=>exact⟨v0,v1,rfl,hv.1,hv.2.1⟩
        | [],hv=>exact hv.elim
        | [_],hv=>exact hv.2.elim
        |_::_::_::_,hv=>exact hv.2.2.elim
       have htsa:ts = #[t,t]:=by obtain⟨l⟩:=ts;simp at hts;rw[hts]
       subst hvs;subst htsa;obtain⟨info,hinfo,hsz⟩:∃info,P.info? e=some info/\info.size=size+1:=by unfold A8 at hs;exact Cv hs
       obtain⟨b2,c2,news,hxf,hfc,hnr⟩:=Anf (P:=P) hI r1 hsrc k3;have hfc:=hfc w λ_=>rfl;rw[←hsz]at hfc;subst hxf;have r0':=r0.d_inv;cases r0' with
       | @osb _ _ _ _ q a len cap hρ hl hc hq hq2=>
        have hq0:q=0:=by omega
        subst hq0;have hadd:a.map (·.add 0)=a:=by cases a <;> simp[M9]
        rw[hadd];rcases(hI.ok _ _ _ hi hρ).live rfl with⟨h1,h2⟩|⟨b,o,cap',vs',h1,hblk,h3,h4,h5,_⟩
        .cases h1;subst h2;have hn0:n=0:=by omega
         subst hn0;have hs0:src=[]:=bm (by simp only[bn]at k2;omega);subst hs0;have hnn:news = #[]:=by have:=hnr.length;apply Array.eq_empty_of_size_eq_zero;simpa using this
         subst hnn;refine⟨.slice none 0 0,w,?_,?_,λ_ h=>h,λ_ _=>rfl,Pre.refl _,?_⟩
         .simp at hfc;simp[Builtin.append_,el ht,sizeOf,typeInfo,hinfo,Builtin.lenOf,hfc]
         .have hsame:R.set i (.sl e' (size+1) (List.take 0 []++([]++List.drop (0+0) [])))=R:=by
           apply bj;intro j;rw[aB];split
           .rename_i hj;subst hj;rw[ei (ac.1 hi).1,hi];rfl
           .rfl
          have hI2:=hI;rw[←hsame]at hI2;exact hI2
         .have:=Rd.osb (S:=S) (w:=w) (lo:=0) (n:=0) (size:=size+1) (q:=0) hρ (by omega) (by omega) (by omega) (by omega);exact .d this
        .cases h1;obtain⟨w',hr,hI',hS⟩:=hI.putRun (P:=P) hi hρ (lo:=n) hnr k3 k2;refine⟨.slice (some ⟨b,o,none⟩) (n+src.length) cap,w',?_,hI',λ_ h=>h,hS,Pre.refl _,?_⟩
         .have hroom:n+src.length<=cap:=by omega
          rw[←hsz]at hr;simp[Builtin.append_,el ht,sizeOf,typeInfo,hinfo,Builtin.lenOf,hroom,hfc,Cn,hr]
         .have:=Rd.osb (S:=S) (w:=w') (lo:=0) (n:=n+src.length) (size:=size+1) (q:=0) hρ (by omega) (by omega) (by omega) (by omega);rw[hadd]at this;exact .d this
     .cases h
    .cases h
   .cases h
 .cases h
end
end Go.SL
