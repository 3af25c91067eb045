import Derived.Test.YtkcebipolafapaaGreatSlG
import Derived.Lib.ConvBytes
import Derived.OrdersIn
import Derived.ControlIn
import Derived.LoopNIn
namespace Go.SL
variable{d:AV}{pi:fc}{Rp Rp':List Res}{vs ρq:fh}{f:Nat->Option Nat}{r r':Res}{v x:Value}
section
variable{P:Program}{C:Ctx}{S S':Nat->Prop}{w w':World}{ρ ρ':fh}{R:List Res}
theorem Kq{f:Nat->Option Nat}:∀{l l':List D},D.renL f l=some l'->l'.length=l.length/\∀(j:Nat) d',l'[j]?=some d'->∃d,l[j]?=some d/\D.ren f d=some d'
 | [],l',h=>by simp[D.renL]at h;subst h;simp
 | d::r,l',h=>by
  simp only[D.renL]at h;split at h
  .rename_i d1 r1 h1 h2;simp at h;subst h;obtain⟨g1,g2⟩:=Kq h2;refine⟨by simp[g1],λj d' hj=>?_⟩;cases j with
   |zero=>simp at hj;subst hj;exact⟨d,rfl,h1⟩
   |succ j=>simp at hj ⊢;exact g2 j d' hj
  .cases h
theorem Rd.ren(hf:∀(i j:Nat) x,f i=some j->ρ[i]?=some x->ρ'[j]?=some x){d:D}(h:Rd S w ρ x d) :
  ∀d',D.ren f d=some d'->Rd S w ρ' x d':=by
 induction h with
 |p h=>intro d' e;simp[D.ren]at e;subst e;exact .p h
 | o h=>
  intro d' e;simp only[D.ren]at e;split at e
  .rename_i j hj;simp at e;subst e;exact .o (hf _ _ _ hj h)
  .cases e
 | os h h1=>
  intro d' e;simp only[D.ren]at e;split at e
  .rename_i j hj;simp at e;subst e;exact .os (hf _ _ _ hj h) h1
  .cases e
 | oe h=>
  intro d' e;simp only[D.ren]at e;split at e
  .rename_i j hj;simp at e;subst e;exact .oe (hf _ _ _ hj h)
  .cases e
 | osb h hl hc hq hq2=>
  intro d' e;simp only[D.ren]at e;split at e
  .rename_i j hj;simp at e;subst e;exact .osb (hf _ _ _ hj h) hl hc hq hq2
  .cases e
 |any h1=>intro d' e;simp[D.ren]at e;subst e;exact .any h1
 |nq h=>intro d' e;simp[D.ren]at e;subst e;exact .nq h
 | oi h hx h1=>
  intro d' e;simp only[D.ren]at e;split at e
  .rename_i j q hj hq;simp at e;subst e;exact .oi (hf _ _ _ hq h) hx h1
  .cases e
 |ip h=>intro d' e;simp[D.ren]at e;subst e;exact .ip h
 | fn hl hm hx hc ih1 ih2=>
  intro d' e;simp only[D.ren]at e;split at e
  .rename_i a b h1 h2;simp at e;subst e;obtain⟨g1,g2⟩:=Kq h1;obtain⟨g3,g4⟩:=Kq h2;refine .fn (by omega) (by omega) (λj x d hxj hd=>?_) (λj x d hxj hd=>?_)
   .obtain⟨d0,k1,k2⟩:=g2 j d hd;exact ih1 j x d0 hxj k1 d k2
   .obtain⟨d0,k1,k2⟩:=g4 j d hd;exact ih2 j x d0 hxj k1 d k2
  .cases e
theorem Ap.renL(hf:∀(i j:Nat) x,f i=some j->ρ[i]?=some x->ρ'[j]?=some x){ds ds':List D}(h:Ap (Rd S w ρ) vs ds)(e:D.renL f ds=some ds') :
  Ap (Rd S w ρ') vs ds':=by
 obtain⟨g1,g2⟩:=Kq e;refine dh (by rw[h.length,g1]) λj x d hx hd=>?_;obtain⟨d0,k1,k2⟩:=g2 j d hd;exact(h.both hx k1).ren hf d k2
theorem Mx{f:Nat->Option Nat}:∀{l l':List AV},AV.renL f l=some l'->l'.length=l.length/\∀(j:Nat) d',l'[j]?=some d'->∃d,l[j]?=some d/\AV.ren f d=some d'
 | [],l',h=>by simp[AV.renL]at h;subst h;simp
 | d::r,l',h=>by
  simp only[AV.renL]at h;split at h
  .rename_i d1 r1 h1 h2;simp at h;subst h;obtain⟨g1,g2⟩:=Mx h2;refine⟨by simp[g1],λj d' hj=>?_⟩;cases j with
   |zero=>simp at hj;subst hj;exact⟨d,rfl,h1⟩
   |succ j=>simp at hj ⊢;exact g2 j d' hj
  .cases h
theorem RdA.ren(hf:∀(i j:Nat) x,f i=some j->ρ[i]?=some x->ρ'[j]?=some x)(h:RdA S w ρ x d) :
  ∀d',AV.ren f d=some d'->RdA S w ρ' x d':=by
 induction h with
 | d h=>
  intro d' e;simp only[AV.ren]at e;split at e
  .rename_i y hy;simp at e;subst e;exact .d (h.ren hf _ hy)
  .cases e
 | agg h=>
  intro d' e;simp only[AV.ren]at e;split at e
  .rename_i y hy;simp at e;subst e;exact .agg (h.renL hf hy)
  .cases e
 | tup hl _ ih=>
  intro d' e;simp only[AV.ren]at e;split at e
  .rename_i y hy;simp at e;subst e;obtain⟨g1,g2⟩:=Mx hy;refine .tup (by omega) λj x a hx ha=>?_;obtain⟨a0,k1,k2⟩:=g2 j a ha;exact ih j x a0 hx k1 a k2
  .cases e
theorem dA(hf:∀(i j:Nat) x,f i=some j->ρ[i]?=some x->ρ'[j]?=some x)(h:r.ok0 S w ρ v)(e:r.ren f=some r') :
  r'.ok0 S w ρ' v/\r'.foot v=r.foot v:=by
 cases r with
 | box t cells=>
  simp only[Res.ren]at e;split at e
  .rename_i cs hc;simp at e;subst e;obtain⟨b,vs,rfl,h1,h2⟩:=h;exact⟨⟨b,vs,rfl,h1,h2.renL hf hc⟩,rfl⟩
  .cases e
 |sl t size rows=>simp[Res.ren]at e;subst e;exact⟨h,rfl⟩
 |zsl t size rows=>simp[Res.ren]at e;subst e;exact⟨h,rfl⟩
 |gh size tys rows hole=>simp[Res.ren]at e;subst e;exact⟨h,rfl⟩
 | dsl t size g=>
  simp only[Res.ren]at e;split at e
  .rename_i q hq;simp at e;subst e;obtain⟨f',xs,cs,h1,h2⟩:=h;exact⟨⟨f',xs,cs,hf _ _ _ hq h1,h2⟩,rfl⟩
  .cases e
 |non=>simp[Res.ren]at e;subst e;exact⟨h,rfl⟩
 | vec t cells=>
  simp only[Res.ren]at e;split at e
  .rename_i cs hc;simp at e;subst e;obtain⟨b,vs,rfl,h1,h2,h3⟩:=h;have hl:=(h2.renL hf hc).length;have hl2:=h2.length;have hle:cs.length=cells.length:=by rw[←hl,hl2]
   exact⟨⟨b,vs,by rw[hle],h1,h2.renL hf hc,by rw[hle];exact h3⟩,rfl⟩
  .cases e
theorem dq(hf:∀(i j:Nat) x,f i=some j->ρ[i]?=some x->ρ'[j]?=some x)(h:r.ok S w ρ v)(e:r.ren f=some r') :
  r'.ok S w ρ' v/\r'.foot v=r.foot v:=by
 rcases h with h|h
 .exact⟨.inl h,by funext b;exact propext ⟨λx=>absurd x (dl h b),λx=>absurd x (dl h b)⟩⟩
 .obtain⟨h1,h2⟩:=dA hf h e;exact⟨.inr h1,h2⟩
theorem Rd.norm{d:D}(h:Rd S w ρ x d):Rd S w ρ x d.norm:=by
 unfold D.norm;split
 .have:=h;cases this with
  |p h=>have:=h.v_form;subst this;exact .p (.s none ⟨0,0,none⟩ 0 0 [] (λ_ _=>undef) (ag _) (by simp[maxLen]) (λ_=>rfl) (by simp) (by simp) (by simp))
 .exact h
theorem RdA.norm(h:RdA S w ρ x d):RdA S w ρ x d.norm:=by
 cases h with
 |d h=>exact .d h.norm
 |agg h=>exact .agg (h.map_right λ_ _ h=>h.norm)
 |tup hl h=>exact .tup hl h
theorem Tf:∀{l:fc}{i j:Nat},Ej l i=some j->l[j]?=some i
 | [],_,_,h=>by simp[Ej]at h
 | a::r,i,j,h=>by
  simp only[Ej]at h;cases hb:Nat.beq a i with
  |true=>rw[hb]at h;simp at h;subst h;have:=aj hb;subst this;rfl
  | false=>
   rw[hb]at h;simp only[eQ]at h;split at h
   .rename_i k hk;simp at h;subst h;simpa using Tf hk
   .cases h
theorem Rb:∀{l:fc}{i:Nat},Ej l i=none->∀(j:Nat),l[j]? ≠ some i
 | [],_,_,j=>by simp
 | a::r,i,h,j=>by
  simp only[Ej]at h;cases hb:Nat.beq a i with
  |true=>rw[hb]at h;simp at h
  | false=>
   rw[hb]at h;simp only[eQ]at h;split at h
   .cases h
   .rename_i hn;cases j with
    |zero=>simp;intro e;subst e;simp at hb
    |succ j=>simpa using Rb hn j
theorem S9:∀{l:fc},Fe l=true->∀{i j k:Nat},l[i]?=some k->l[j]?=some k->i=j
 | [],_,i,j,k,h,_=>by simp at h
 | a::r,h,i,j,k,h1,h2=>by
  simp only[Fe,ac,Option.isNone_iff_eq_none]at h;cases i with
  | zero=>cases j with
   |zero=>rfl
   |succ j=>simp at h1 h2;subst h1;exact absurd h2 (Rb h.1 j)
  | succ i=>cases j with
   |zero=>simp at h1 h2;subst h2;exact absurd h1 (Rb h.1 i)
   |succ j=>simp at h1 h2;rw[S9 h.2 h1 h2]
theorem Oi:∀{pi:fc}{l:List Res},J6 R pi=some l->l.length=pi.length/\∀(j i:Nat),pi[j]?=some i->∃r,l[j]?=some r/\R[i]?=some r
 | [],l,h=>by simp[J6]at h;subst h;simp
 | a::r,l,h=>by
  simp only[J6]at h;split at h
  .rename_i x xs h1 h2;simp at h;subst h;obtain⟨g1,g2⟩:=Oi h2;refine⟨by simp[g1],λj i hj=>?_⟩;cases j with
   |zero=>simp at hj;subst hj;exact⟨x,rfl,h1⟩
   |succ j=>simp at hj ⊢;exact g2 j i hj
  .cases h
theorem H7{f:Nat->Option Nat}:∀{l l':List Res},H2 f l=some l'->l'.length=l.length/\∀(j:Nat) r',l'[j]?=some r'->∃r,l[j]?=some r/\r.ren f=some r'
 | [],l',h=>by simp[H2]at h;subst h;simp
 | d::r,l',h=>by
  simp only[H2]at h;split at h
  .rename_i d1 r1 h1 h2;simp at h;subst h;obtain⟨g1,g2⟩:=H7 h2;refine⟨by simp[g1],λj d' hj=>?_⟩;cases j with
   |zero=>simp at hj;subst hj;exact⟨d,rfl,h1⟩
   |succ j=>simp at hj ⊢;exact g2 j d' hj
  .cases h
theorem Fh:∀(pi:fc)(R l:List Res),(E9 R pi l).length=R.length
 | [],R,l=>by simp[E9]
 |i::pi,R,[]=>by simp[E9]
 |i::pi,R,r::l=>by simp[E9,Fh pi]
theorem Qy:∀(pi:fc)(R l:List Res)(k:Nat)(r:Res),(E9 R pi l)[k]?=some r->(∃j:Nat,pi[j]?=some k/\l[j]?=some r)\/(R[k]?=some r/\(pi.length<=l.length->∀j:Nat,pi[j]? ≠ some k))
 | [],R,l,k,r,h=>by simp[E9]at h;exact .inr ⟨h,by simp⟩
 |i::pi,R,[],k,r,h=>by simp[E9]at h;exact .inr ⟨h,by simp⟩
 | i::pi,R,x::l,k,r,h=>by
  simp only[E9]at h;rcases Qy pi (R.set i x) l k r h with⟨j,h1,h2⟩|⟨h1,h2⟩
  .exact .inl ⟨j+1,by simpa using h1,by simpa using h2⟩
  .rw[aK]at h1;split at h1
   .rename_i e;subst e;split at h1
    .cases h1;exact .inl ⟨0,rfl,rfl⟩
    .cases h1
   .rename_i e;refine .inr ⟨h1,λhl j=>?_⟩;cases j with
    |zero=>simpa using e
    |succ j=>simpa using h2 (by simpa using hl) j
def Ct(ρ:fh)(pi:fc):fh:=pi.map λi=>ρ.getD i undef
theorem Anh{j:Nat}(h:(Ct ρ pi)[j]?=some x):∃i,pi[j]?=some i/\x=ρ.getD i undef:=by
 unfold Ct at h;rw[aD]at h;cases hj:pi[j]? with
 |none=>rw[hj]at h;cases h
 |some i=>rw[hj]at h;simp at h;exact⟨i,rfl,by rw[←h];simp⟩
theorem Inv.start(hI:Inv C S w ρ R)(hn:Fe pi=true)(hp:J6 R pi=some Rp)(hr:H2 (Ej pi) Rp=some Rp') :
  Start S w (Ct ρ pi) Rp'/\(∀(i j:Nat) x,Ej pi i=some j->ρ[i]?=some x->(Ct ρ pi)[j]?=some x) /\
   (∀(j:Nat) r h,Rp'[j]?=some r->(Ct ρ pi)[j]?=some h->∃i r0,pi[j]?=some i/\R[i]?=some r0/\ρ[i]?=some h/\r.foot h=r0.foot h):=by
 obtain⟨p1,p2⟩:=Oi hp;obtain⟨q1,q2⟩:=H7 hr;have hid:∀(i j:Nat) x,Ej pi i=some j->ρ[i]?=some x->(Ct ρ pi)[j]?=some x:=by intro i j x h1 h2;have:=Tf h1;simp[Ct,this,List.getD_eq_getElem?_getD,h2]
 have back:∀(j:Nat) r h,Rp'[j]?=some r->(Ct ρ pi)[j]?=some h->∃i r0,pi[j]?=some i/\R[i]?=some r0/\ρ[i]?=some h/\r0.ren (Ej pi)=some r:=by
  intro j r h h1 h2;obtain⟨i,hi,hx⟩:=Anh h2;obtain⟨r0,g1,g2⟩:=q2 j r h1;obtain⟨r1,g3,g4⟩:=p2 j i hi;rw[g3]at g1;cases g1;have hlt:i<ρ.length:=by rw[hI.len];exact(ab.1 g4).1
  refine⟨i,r0,hi,g4,?_,g2⟩;rw[hx,cZ,af hlt];rfl
 have back':∀(j:Nat) r h,Rp'[j]?=some r->(Ct ρ pi)[j]?=some h->∃i r0,pi[j]?=some i/\R[i]?=some r0/\ρ[i]?=some h/\r.ok S w (Ct ρ pi) h/\r.foot h=r0.foot h:=by intro j r h h1 h2;obtain⟨i,r0,k1,k2,k3,k4⟩:=back j r h h1 h2;obtain⟨m1,m2⟩:=dq hid (hI.ok i r0 h k2 k3) k4;exact⟨i,r0,k1,k2,k3,m1,m2⟩
 refine⟨⟨by simp[Ct,q1,p1],?_,?_,?_,λb hb=>(hI.sup b hb).1,hI.glOk⟩,hid,λj r h h1 h2=>?_⟩
 .intro j r h h1 h2;obtain⟨i,r0,_,_,_,k,_⟩:=back' j r h h1 h2;exact k
 .intro j1 j2 r1 r2 h1 h2 b hj e1 e2 e3 e4 f1 f2;obtain⟨i1,s1,k1,k2,k3,_,k5⟩:=back' j1 r1 h1 e1 e3;obtain⟨i2,s2,m1,m2,m3,_,m5⟩:=back' j2 r2 h2 e2 e4;refine hI.dis i1 i2 s1 s2 h1 h2 b (λe=>hj ?_) k2 m2 k3 m3 (by rw[←k5];exact f1) (by rw[←m5];exact f2);subst e;exact S9 hn k1 m1
 .intro j r h b h1 h2 h3;obtain⟨i,r0,k1,k2,k3,_,k5⟩:=back' j r h h1 h2;have:=hI.own i r0 h b k2 k3 (by rw[←k5];exact h3);exact⟨this.1,this.2.1⟩
 .obtain⟨i,r0,k1,k2,k3,_,k5⟩:=back' j r h h1 h2;exact⟨i,r0,k1,k2,k3,k5⟩
theorem Inv.back(hI:Inv C S w ρ R){Rq Rq':List Res}(hn:Fe pi=true)(hp:J6 R pi=some Rp)(hr:H2 (Ej pi) Rp=some Rp')
  (hq:Inv ⟨w,S,Gt (Ct ρ pi) Rp',Ct ρ pi,[]⟩ S' w' ρq Rq)(hlen:pi.length<=Rq.length)(hrq:H2 (Fp pi R.length) Rq=some Rq') :
  Inv C S' w' (ρ++ρq.drop pi.length) (E9 R pi Rq'++Rq'.drop pi.length)/\(∀b,S b->S' b)/\(∀b,S b->w'.heap[b]?=w.heap[b]?)/\Pre ρ (ρ++ρq.drop pi.length) /\
   (∀(i j:Nat) x,Fp pi R.length i=some j->ρq[i]?=some x->(ρ++ρq.drop pi.length)[j]?=some x):=by
 obtain⟨st,hid,foots⟩:=hI.start hn hp hr;obtain⟨p1,p2⟩:=Oi hp;obtain⟨q1,q2⟩:=H7 hr;obtain⟨t1,t2⟩:=H7 hrq;have hρ:Pre ρ (ρ++ρq.drop pi.length):=Pre.append _ _;have hpre:Pre (Ct ρ pi) ρq:=hq.pre;have hfeet:∀b,Gt (Ct ρ pi) Rp' b->∃i r0 h,(∃j:Nat,pi[j]?=some i)/\R[i]?=some r0/\ρ[i]?=some h/\r0.foot h b:=by rintro b ⟨j,r,h,h1,h2,h3⟩;obtain⟨i,r0,k1,k2,k3,k4⟩:=foots j r h h1 h2;exact⟨i,r0,h,⟨j,k1⟩,k2,k3,by rw[←k4];exact h3⟩
 have hSf:∀b,S b->¬Gt (Ct ρ pi) Rp' b:=by intro b hb hf;obtain⟨i,r0,h,_,k2,k3,k4⟩:=hfeet b hf;exact(hI.own i r0 h b k2 k3 k4).1 hb
 have hSw:∀b,S b->w'.heap[b]?=w.heap[b]?:=λb hb=>hq.frm b (hI.sup b hb).1 (hSf b hb);have hbk:∀(i j:Nat) x,Fp pi R.length i=some j->ρq[i]?=some x->(ρ++ρq.drop pi.length)[j]?=some x:=by
  intro i j x h1 h2;unfold Fp at h1;cases hi:pi[i]? with
  |some k=>
   rw[hi]at h1;simp at h1;subst h1;have hlt:i<pi.length:=(ab.1 hi).1;have hh:(Ct ρ pi)[i]?=some (ρ.getD k undef):=by simp[Ct,hi]
   have:=hpre _ _ hh;rw[this]at h2;cases h2;obtain⟨r,_,g2⟩:=p2 i k hi;have hkl:k<ρ.length:=by rw[hI.len];exact(ab.1 g2).1
   rw[aJ hkl,cZ,af hkl];rfl
  | none=>
   rw[hi]at h1;simp at h1;subst h1;have hge:pi.length<=i:=by
    rcases bc i pi.length with h|h
    .rw[af h]at hi;cases hi
    .exact h
   rw[←hI.len,aW (by omega)];rw[ay];rw[show pi.length+(ρ.length+(i-pi.length)-ρ.length)=i from by omega];exact h2
 have src:∀(k:Nat) r h,(E9 R pi Rq'++Rq'.drop pi.length)[k]?=some r->(ρ++ρq.drop pi.length)[k]?=some h ->
   (∃j r0,Rq[j]?=some r0/\r0.ren (Fp pi R.length)=some r/\ρq[j]?=some h/\Fp pi R.length j=some k)\/(R[k]?=some r/\ρ[k]?=some h/\∀j:Nat,pi[j]? ≠ some k):=by
  intro k r h h1 h2;rcases bc k R.length with hk|hk
  .rw[aJ (by rw[Fh];exact hk)]at h1;rw[aJ (by rw[hI.len];exact hk)]at h2;rcases Qy pi R Rq' k r h1 with⟨j,g1,g2⟩|⟨g1,g2⟩
   .obtain⟨r0,g3,g4⟩:=t2 j r g2;refine .inl ⟨j,r0,g3,g4,?_,by simp[Fp,g1]⟩;have hh:(Ct ρ pi)[j]?=some (ρ.getD k undef):=by simp[Ct,g1]
    have:=hpre _ _ hh;rw[this,cZ,h2];rfl
   .exact .inr ⟨g1,h2,g2 (by omega)⟩
  .rw[aW (by rw[Fh];exact hk),Fh,ay]at h1;rw[aW (by rw[hI.len];exact hk),ay,hI.len]at h2;obtain⟨r0,g3,g4⟩:=t2 _ r h1;refine .inl ⟨_,r0,g3,g4,h2,?_⟩;unfold Fp;rw[bg (by omega)];simp;omega
 have inj:∀(j1 j2 k:Nat),Fp pi R.length j1=some k->Fp pi R.length j2=some k->j1=j2:=by
  intro j1 j2 k h1 h2;have small:∀(j i:Nat),pi[j]?=some i->i<R.length:=λj i h=>by obtain⟨r,_,g⟩:=p2 j i h;exact(ab.1 g).1
  have big:∀j,pi[j]?=none->pi.length<=j:=λj hi=>by
   rcases bc j pi.length with h|h
   .rw[af h]at hi;cases hi
   .exact h
  unfold Fp at h1 h2;cases e1:pi[j1]? with
  |some i1=>
   rw[e1]at h1;simp at h1;subst h1;have:=small j1 _ e1;cases e2:pi[j2]? with
   |some i2=>rw[e2]at h2;simp at h2;subst h2;exact S9 hn e1 e2
   |none=>rw[e2]at h2;simp at h2;omega
  |none=>
   rw[e1]at h1;simp at h1;have:=big j1 e1;cases e2:pi[j2]? with
   |some i2=>rw[e2]at h2;simp at h2;have:=small j2 _ e2;omega
   |none=>rw[e2]at h2;simp at h2;have:=big j2 e2;omega
 have hS'old:∀b,S' b->S b\/Gt (Ct ρ pi) Rp' b\/w.heap.size<=b:=λb hb=>(hq.sup b hb).2;refine⟨⟨?_,?_,?_,?_,λb hb=>hq.sub b (hI.sub b hb),?_,?_,aG hI.size hq.size,hq.os.trans hI.os,hq.tape.trans hI.tape,hq.output.trans hI.output,hI.pre.trans hρ,hI.gl⟩,hq.sub,hSw,hρ,hbk⟩
 .have:=hq.len;simp[hI.len,Fh,t1,this]
 .intro k r h h1 h2;rcases src k r h h1 h2 with⟨j,r0,g1,g2,g3,g4⟩|⟨g1,g2,g3⟩
  .exact(dq hbk (hq.ok j r0 h g1 g3) g2).1
  .refine(hI.ok k r h g1 g2).mono hq.sub hSw hρ λb hb=>hq.frm b (hI.own k r h b g1 g2 hb).2.1 λhf=>?_;obtain⟨i,r1,v,⟨j,k1⟩,k2,k3,k4⟩:=hfeet b hf;exact hI.dis i k r1 r v h b (λe=>g3 j (e ▸ k1)) k2 g1 k3 g2 k4 hb
 .intro k1 k2 r1 r2 v1 v2 b hk e1 e2 e3 e4 f1 f2;have cross:∀(k1 k2:Nat) r1 r2 v1 v2,(∃j r0,Rq[j]?=some r0/\r0.ren (Fp pi R.length)=some r1/\ρq[j]?=some v1/\Fp pi R.length j=some k1) ->
    (R[k2]?=some r2/\ρ[k2]?=some v2/\∀j:Nat,pi[j]? ≠ some k2)->r1.foot v1 b->r2.foot v2 b->False:=by
   rintro k1 k2 r1 r2 v1 v2 ⟨j,r0,g1,g2,g3,g4⟩ ⟨m1,m2,m3⟩ f1 f2;have hf:r0.foot v1 b:=by rw[←(dq hbk (hq.ok j r0 v1 g1 g3) g2).2];exact f1
   obtain⟨_,_,o3⟩:=hq.own j r0 v1 b g1 g3 hf;have hb:=(hI.own k2 r2 v2 b m1 m2 f2).2.1;rcases o3 with o3|o3
   .obtain⟨i,r3,v,⟨j',n1⟩,n2,n3,n4⟩:=hfeet b o3;exact hI.dis i k2 r3 r2 v v2 b (λe=>m3 j' (e ▸ n1)) n2 m1 n3 m2 n4 f2
   .exact absurd hb (Nat.not_lt.2 o3)
  rcases src k1 r1 v1 e1 e3 with s1|s1
  .rcases src k2 r2 v2 e2 e4 with s2|s2
   .obtain⟨j,r0,g1,g2,g3,g4⟩:=s1;obtain⟨j',r0',g1',g2',g3',g4'⟩:=s2;refine hq.dis j j' r0 r0' v1 v2 b (λe=>hk ?_) g1 g1' g3 g3' (by rw[←(dq hbk (hq.ok j r0 v1 g1 g3) g2).2];exact f1) (by rw[←(dq hbk (hq.ok j' r0' v2 g1' g3') g2').2];exact f2);subst e;rw[g4]at g4';cases g4';rfl
   .exact cross k1 k2 r1 r2 v1 v2 s1 s2 f1 f2
  .rcases src k2 r2 v2 e2 e4 with s2|s2
   .exact cross k2 k1 r2 r1 v2 v1 s2 s1 f2 f1
   .exact hI.dis k1 k2 r1 r2 v1 v2 b hk s1.1 s2.1 s1.2.1 s2.2.1 f1 f2
 .intro k r h b h1 h2 h3;rcases src k r h h1 h2 with⟨j,r0,g1,g2,g3,g4⟩|⟨g1,g2,g3⟩
  .have hf:r0.foot h b:=by rw[←(dq hbk (hq.ok j r0 h g1 g3) g2).2];exact h3
   obtain⟨o1,o2,o3⟩:=hq.own j r0 h b g1 g3 hf;refine⟨o1,o2,?_⟩;rcases o3 with o3|o3
   .obtain⟨i,r3,v,_,n2,n3,n4⟩:=hfeet b o3;exact(hI.own i r3 v b n2 n3 n4).2.2
   .exact .inr (aG hI.size o3)
  .obtain⟨o1,o2,o3⟩:=hI.own k r h b g1 g2 h3;refine⟨λhb=>?_,aQ o2 hq.size,o3⟩;rcases hS'old b hb with hb|hb|hb
   .exact o1 hb
   .obtain⟨i,r3,v,⟨j,n1⟩,n2,n3,n4⟩:=hfeet b hb;exact hI.dis i k r3 r v h b (λe=>g3 j (e ▸ n1)) n2 g1 n3 g2 n4 h3
   .omega
 .intro b hb;refine⟨(hq.sup b hb).1,?_⟩;rcases hS'old b hb with hb|hb|hb
  .exact(hI.sup b hb).2
  .obtain⟨i,r3,v,_,n2,n3,n4⟩:=hfeet b hb;exact .inr (hI.own i r3 v b n2 n3 n4).2.2
  .exact .inr (.inr (aG hI.size hb))
 .intro b hb hf;refine(hq.frm b (aQ hb hI.size) λhff=>?_).trans (hI.frm b hb hf);obtain⟨i,r3,v,_,n2,n3,n4⟩:=hfeet b hff;rcases(hI.own i r3 v b n2 n3 n4).2.2 with h|h
  .exact hf h
  .omega
end
end Go.SL
namespace Go.SL
variable{x:AV}{cs:Array Value}{d:D}{cells ds:List D}{ps rw:List Pd}{vs:fh}{cap e g i n o size:Nat}{t u:TypeId}{v:Value}
section
variable{P:Program}{C:Ctx}{S S':Nat->Prop}{w w':World}{ρ ρ':fh}{R:List Res}{L:List Ent}{cur:Ce}{a:Act}
theorem Bq(w:World)(o:Obj)(b:Nat)(h:b<w.heap.size):(w.alloc o).heap[b]?=w.heap[b]?:=Go.RowKit.Below.heap_alloc w o b h
theorem E4(w:World)(o:Obj):(w.alloc o).heap[w.heap.size]?=some o:=Go.heap_alloc_new w o
structure Dt(C:Ctx)(S:Nat->Prop)(w:World)(ρ:fh)(R2:List Res)(v:Value)(av:AV)(S':Nat->Prop)(w':World)(ρ':fh):Prop where
 inv:Inv C S' w' ρ' R2
 sub:∀b,S b->S' b
 same:∀b,S b->w'.heap[b]?=w.heap[b]?
 pre:Pre ρ ρ'
 rd:RdA S' w' ρ' v av
theorem Inv.newBox(hI:Inv C S w ρ R){vs:Array Value}(hc:Ap (Rd S w ρ) vs.toList cells) :
  Dt C S w ρ (R++[.box t cells]) (.pointer (some ⟨w.heap.size,0,none⟩)) (.d (.o R.length 0)) S (w.alloc (.cells vs t)) (ρ++[.pointer (some ⟨w.heap.size,0,none⟩)]):=by
 have hw:∀b,S b->(w.alloc (.cells vs t)).heap[b]?=w.heap[b]?:=λb hb=>Bq _ _ _ (hI.sup b hb).1;refine⟨hI.push _ _ (λb hb=>Bq _ _ _ hb) (by simp) rfl ⟨rfl,λ_=>by first|exact ag _|exact aR _⟩ rfl ?_ ?_,λ_ h=>h,hw,Pre.append _ _,.d (.o ?_)⟩
 .exact .inr ⟨_,vs,rfl,E4 _ _,hc.mono λ_ _ h=>h.mono (λ_ h=>h) hw (Pre.append _ _)⟩
 .intro b hb;simp[Res.foot]at hb;subst hb;simp
 .rw[←hI.len];simp
theorem Inv.newVec(hI:Inv C S w ρ R){vs:Array Value}(hc:Ap (Rd S w ρ) vs.toList cells)(hn:cells.length=n)(hm:n<=maxLen) :
  Dt C S w ρ (R++[.vec t cells]) (.slice (some ⟨w.heap.size,0,none⟩) n n) (.d (.os R.length)) S (w.alloc (.cells vs t)) (ρ++[.slice (some ⟨w.heap.size,0,none⟩) n n]):=by
 subst hn;have hw:∀b,S b->(w.alloc (.cells vs t)).heap[b]?=w.heap[b]?:=λb hb=>Bq _ _ _ (hI.sup b hb).1;refine⟨hI.push _ _ (λb hb=>Bq _ _ _ hb) (by simp) rfl ⟨rfl,λ_=>by first|exact ag _|exact aR _⟩ rfl ?_ ?_,λ_ h=>h,hw,Pre.append _ _,.d (.os ?_ rfl)⟩
 .exact .inr ⟨_,vs,rfl,E4 _ _,hc.mono λ_ _ h=>h.mono (λ_ h=>h) hw (Pre.append _ _),hm⟩
 .intro b hb;simp[Res.foot,D6]at hb;subst hb;simp
 .rw[←hI.len];simp
theorem Lo(g o:Nat)(t:TypeId):∀(vs:fh)(i:Nat)(cur:Array Value)(w:World),Blk w g cur t->o+i+vs.length<=cur.size->(∀v∈vs,v.oneCell'=true) ->
  (storeCells ⟨g,o,none⟩ vs i).run P w=.ok () (w.setRow g (cur.toList.take (o+i)++vs++cur.toList.drop (o+i+vs.length)).toArray)
 | [],i,cur,w,⟨fz,hg,_⟩,_,_=>by simp only[storeCells,aB,bU,bJ,bP,Array.toArray_toList];rw[setRow_self w g cur t fz hg];rfl
 | v::rest,i,cur,w,⟨fz,hg,hfz,hfm⟩,hl,h1=>by
  have hi:o+i<cur.size:=by simp at hl;omega
  have hadd:(⟨g,o,none⟩:Addr).add i=⟨g,o+i,none⟩:=by unfold Addr.add;split <;> simp_all
  have hcell:w.cell? ⟨g,o+i,none⟩=some cur[o+i]:=by simp[World.cell?,hg,hi]
  have hfro:w.frozen? ⟨g,o+i,none⟩=false:=by obtain⟨lo,hi'⟩:=fz;simp only[World.frozen?,hg,bQ,dG];simp only at hfz;omega
  have hst:(store ((⟨g,o,none⟩:Addr).add i) v).run P w=.ok () (w.setRow g (cur.setIfInBounds (o+i) v)):=by rw[hadd,run_store P w _ v _ (h1 v (by simp)),hcell];simp[hfro,setCell_eq_setRow w g (o+i) cur t fz v hg]
  have ih:=Lo g o t rest (i+1) (cur.setIfInBounds (o+i) v) (w.setRow g (cur.setIfInBounds (o+i) v)) (Blk.put ⟨fz,hg,hfz,hfm⟩ (by simp)) (by simp at hl ⊢;omega) (λx hx=>h1 x (by simp[hx]));simp only[storeCells,eX,hst,eY,ih,setRow_setRow];congr 3;have e:=list_seg_step cur.toList (o+i) v rest (by simp at hl ⊢;omega);simpa[Array.toList_setIfInBounds,Nat.add_assoc]using e
theorem H1{cur:Array Value}(h:Blk w g cur t)(hl:o+vs.length<=cur.size)(h1:∀v,v∈vs->v.oneCell'=true) :
  (storeCells ⟨g,o,none⟩ vs).run P w=.ok () (w.setRow g (cur.toList.take o++vs++cur.toList.drop (o+vs.length)).toArray):=by
 have:=Lo (P:=P) g o t vs 0 cur w h (by simpa using hl) h1;simpa using this
theorem Avd(h:Ap (Rd S w ρ) vs ds):∀v,v∈vs->v.oneCell'=true:=by
 induction vs generalizing ds with
 |nil=>simp
 | cons x xs ih=>cases ds with
  |nil=>exact h.elim
  |cons d ds=>
   intro v hv;rcases ah.1 hv with rfl|hv
   .exact h.1.one
   .exact ih h.2 v hv
theorem Ma{cur:Array Value}(hn:A9 P t=some n)(hv:v.cells.size=n)(h:Blk w g cur u)(hl:o+n<=cur.size)
  (h1:∀x,x∈v.cells.toList->x.oneCell'=true) :
  (storeVar t ⟨g,o,none⟩ v).run P w=.ok () (w.setRow g (cur.toList.take o++v.cells.toList++cur.toList.drop (o+v.cells.toList.length)).toArray):=by
 have:=H1 (P:=P) (w:=w) (g:=g) (o:=o) (t:=u) (vs:=v.cells.toList) (cur:=cur) h (by simpa[hv]using hl) h1;simp only[storeVar,eX,Bt hn,eY];rw[eU (by simpa using hv)];exact this
theorem Inv.store(hI:Inv C S w ρ R){off b:Nat}(hi:R[i]?=some (.box u cells))(hρ:ρ[i]?=some (.pointer (some ⟨b,0,none⟩)))
  (hv:Ap (Rd S w ρ) v.cells.toList ds)(hn:A9 P t=some n)(hl:ds.length=n)(ho:off+n<=cells.length) :
  ∃w',(storeVar t ⟨b,off,none⟩ v).run P w=.ok () w'/\Inv C S w' ρ (R.set i (.box u (M9 cells off ds)))/\(∀k,S k->w'.heap[k]?=w.heap[k]?):=by
 obtain⟨vs,h1,h2⟩:=Ue hI hi hρ;have hsz:v.cells.size=n:=by have:=hv.length;simpa[hl]using this
 have hcl:vs.size=cells.length:=by have:=h2.length;simpa using this
 refine⟨_,Ma hn hsz (.of h1) (by omega) (Avd hv),?_,?_⟩
 .have hS:∀k,k≠b->(w.setRow b (vs.toList.take off++v.cells.toList++vs.toList.drop (off+v.cells.toList.length)).toArray).heap[k]?=w.heap[k]?:=λk hk=>A_ _ _ _ _ hk;have ob:=hI.own i _ _ b hi hρ rfl;refine hI.put hi hρ (b:=b) rfl (λk hk=>by simp[Res.foot]at hk;exact hk.symm) hS (by simp) rfl ⟨rfl,λ_=>by first|exact ag _|exact aR _⟩ rfl ?_;refine .inr ⟨b,_,rfl,Cs _ _ _ _ _ _ h1,?_⟩;have hm:∀x d,Rd S w ρ x d->Rd S (w.setRow b (vs.toList.take off++v.cells.toList++vs.toList.drop (off+v.cells.toList.length)).toArray) ρ x d:=λx d h=>
   h.mono (λ_ h=>h) (λk hk=>hS k (λe=>ob.1 (e ▸ hk))) (Pre.refl _)
  unfold M9;have hd:Ap (Rd S w ρ) (vs.toList.drop (off+v.cells.toList.length)) (cells.drop (off+ds.length)):=by rw[hv.length];exact h2.drop _
  have:=((h2.take off).append (hv.append hd)).mono hm;simpa using this
 .intro k hk;exact A_ _ _ _ _ (λe=>(hI.own i _ _ b hi hρ rfl).1 (e ▸ hk))
def J9(S:Nat->Prop)(ρ:fh)(R:List Res)(b:Nat):Prop:=S b\/Gt ρ R b
theorem Inv.rho(hI:Inv C S w ρ R){r:Res}(h:R[i]?=some r):∃v,ρ[i]?=some v:=by
 have hl:i<ρ.length:=by rw[hI.len];exact(ab.1 h).1
 exact⟨_,af hl⟩
theorem vV(hI:Inv C S w ρ R){x:Pd}(h:Rd S w ρ v d)(e:Jy R d=some x):RdP (J9 S ρ R) w v x:=by
 unfold Jy at e;split at e
 .simp at e;subst e;cases h with|p h=>exact h.mono (λ_ h=>.inl h) (λ_ _=>rfl)
 .rename_i i;split at e
  .rename_i t size rows hi;simp at e;subst e;cases h with
   |os h h1=>
    have hk:=Res.ok0.frozen ((hI.ok i _ v hi h).live h1);refine hk.mono (λb hb=>?_) (λ_ _=>rfl);rcases hb with hb|hb
    .exact .inl hb
    .exact .inr ⟨i,_,v,hi,h,hb⟩
  .rename_i t size rows hi;simp at e;subst e;cases h with
   |os h h1=>
    have hk:=zOk.frozen (S:=S) ((hI.ok i _ v hi h).live h1);refine hk.mono (λb hb=>?_) (λ_ _=>rfl);rcases hb with hb|hb
    .exact .inl hb
    .exact .inr ⟨i,_,v,hi,h,hb⟩
  .cases e
 .cases e
theorem Yl(hI:Inv C S w ρ R):∀{vs:fh}{ds:List D}{ps:List Pd},Ap (Rd S w ρ) vs ds->Hp R ds=some ps->Ap (RdP (J9 S ρ R) w) vs ps
 | [],[],ps,_,e=>by simp[Hp]at e;subst e;trivial
 | v::vs,d::ds,ps,h,e=>by
  simp only[Hp]at e;split at e
  .rename_i x l e1 e2;simp at e;subst e;exact⟨vV hI h.1 e1,Yl hI h.2 e2⟩
  .cases e
 | [],_::_,_,h,_=>h.elim
 |_::_,[],_,h,_=>h.elim
theorem vS{es:List D}(h:D.viewL R rw ds=some es):es.length=ds.length/\∀(j:Nat) e,es[j]?=some e->∃d,ds[j]?=some d/\d.view R rw=some e:=by
 induction ds generalizing es with
 |nil=>simp[D.viewL]at h;subst h;simp
 | cons d ds ih=>
  simp only[D.viewL]at h;split at h
  .rename_i d' r' h1 h2;simp at h;subst h;obtain⟨g1,g2⟩:=ih h2;refine⟨by simp[g1],λj e hj=>?_⟩;cases j with
   |zero=>simp at hj;subst hj;exact⟨d,rfl,h1⟩
   |succ j=>simp at hj ⊢;exact g2 j e hj
  .cases h
def Ak0(R:List Res)(rw:List Pd)(l:List (Nat×Nat)):Prop:=∀g k s tys rows,(g,k)∈l->R[g]?=some (.gh s tys rows none)->rows[k]?=some rw
theorem Vr{d:D}:∀{l:List D},d∈l->∀p,p∈d.ois->p∈dp l
 | [],h,_,_=>by cases h
 |a::r,h,p,hp=>by
  simp only[dp];rcases ah.1 h with rfl|h
  .exact bC _ hp
  .exact bD _ (Vr h p hp)
theorem Afz(hI:Inv C S w ρ R)(h:Rd S w ρ v d):∀e,Ak0 R rw d.ois->d.view R rw=some e->Rd (J9 S ρ R) w [] v e:=by
 have hS:∀b,S b->J9 S ρ R b:=λ_ h=>.inl h;induction h with
 |p h=>intro e _ he;simp[D.view]at he;subst he;exact .p (h.mono hS λ_ _=>rfl)
 |ip h=>intro e _ he;simp[D.view]at he;subst he;exact .ip (h.mono hS λ_ _=>rfl)
 | @os i v h h1=>
  intro e _ he;have this:∀x,Jy R (.os i)=some x->RdP (J9 S ρ R) w v x:=λx hx=>vV (d:=.os i) hI (.os h h1) hx;simp only[D.view]at he;split at he
  .rename_i t size rows hi;simp at he;subst he;exact .p (this _ (by simp[Jy,hi]))
  .rename_i t size rows hi;simp at he;subst he;exact .p (this _ (by simp[Jy,hi]))
  .cases he
 | @o i b off h=>
  intro e _ he;simp only[D.view]at he;split at he
  .rename_i t cells hi;split at he
   .rename_i ps hp;simp at he;subst he;rcases(hI.ok i _ _ hi h).live rfl with⟨b',vs,e1,hb,hc⟩;cases e1;have hv:=Yl hI hc hp;refine .ip λj d hj=>?_;rw[ay]at hj;obtain⟨x,hx,hr⟩:=hv.get hj;refine⟨x,.inr ⟨i,_,_,hi,h,rfl⟩,?_,hr⟩;rw[B1,Ic hb];simpa using hx
   .cases he
  .cases he
 |oe h=>intro e _ he;simp[D.view]at he
 |any h1=>intro e _ he;simp[D.view]at he;subst he;exact .any h1
 |nq h=>intro e _ he;simp[D.view]at he;subst he;exact .nq h
 | @osb i lo n size q a len cap h hl hc hq hq2=>
  intro e _ he;simp only[D.view]at he;split at he
  .rename_i t s rows hi;cases hb:Nat.beq s size with
   |false=>rw[hb]at he;simp at he
   | true=>
    rw[hb]at he;simp at he;subst he;have:=aj hb;subst this;have hk:=(hI.ok i _ _ hi h).live rfl;have hz:∀row,row∈rows->row.length=s:=by
     rcases hk with⟨_,h0⟩|⟨b,o,cp,vs,_,_,_,_,_,h0,_⟩
     .subst h0;simp
     .exact h0
    have hF:=(Res.ok0.frozen (ρ:=ρ) hk).mono (S':=J9 S ρ R) (λb hb=>by
     rcases hb with hb|hb
     .exact .inl hb
     .exact .inr ⟨i,_,_,hi,h,hb⟩) (λ_ _=>rfl)
    have hc:=RdP.cut hF (l:=lo) (h:=lo+n) (by omega) hl hz;rw[show (lo+n)-lo=n from by omega,List.drop_take,show (lo+n)-lo=n from by omega]at hc;by_cases hlc:lo<cap
    .rw[eU (by omega)]at hc;rw[hq2 hlc];exact .p hc
    .have hlc:cap=lo:=by omega
     subst hlc;rw[eT rfl]at hc;have hn0:n=0:=by obtain⟨_,_,hsf,hle,_⟩:=hF.slice_form;cases hsf;omega
     subst hn0;simp only[List.take_zero];exact .p (.s _ ⟨0,0,none⟩ _ 0 [] (λ_ _=>undef) (ce _) (by simp) (λ_=>by simp) (by simp) (by simp) (by simp))
  .cases he
 | @oi i g k size off f xs cs v h hx h1=>
  intro e hrw he;simp only[D.view]at he;split at he
  .rename_i s tys rows hg;cases hb:(Nat.beq s size&&Nat.blt off s) with
   |false=>rw[hb]at he;simp at he
   | true=>
    rw[hb]at he;simp only[eO]at he;simp only[ac]at hb;have:=aj hb.1;subst this;split at he
    .rename_i r hr;simp at he;subst he;have hrow:=hrw g k s tys rows (by simp[D.ois]) hg;obtain⟨f',xs',cs',e1,k1,k2,k3,k4⟩:=(hI.ok g _ _ hg h).live rfl;cases e1;obtain⟨x,hx',_,hg2⟩:=k3 k rw hrow off _ hr;rw[hx]at hx';cases hx';have hno:¬G7 s none (k*s+off):=by rintro⟨p,hp,_⟩;cases hp
     obtain⟨e2,s2,_,hsl⟩:=hg2 hno;have hF:=Res.ok0.frozen (ρ:=ρ) (show (Res.sl e2 s2 r).ok0 S w ρ v from hsl);refine .p (hF.mono (λb hb=>?_) (λ_ _=>rfl));rcases hb with hb|hb
     .exact .inl hb
     .exact .inr ⟨g,_,_,hg,h,⟨_,v,hx,hno,hb⟩⟩
    .cases he
  .cases he
 | fn hl hm hx hc ih1 ih2=>
  intro e hrw he;simp only[D.view]at he;split at he
  .rename_i a' b' h1 h2;simp at he;subst he;obtain⟨g1,g2⟩:=vS h1;obtain⟨g3,g4⟩:=vS h2;refine .fn (by rw[hl,g1]) (by rw[hm,g3]) (λj x d hxj hd=>?_) (λj x d hxj hd=>?_)
   .obtain⟨d0,k1,k2⟩:=g2 j d hd;exact ih1 j x d0 hxj k1 d (λg k s tys rows hm=>hrw g k s tys rows (by simp only[D.ois];exact bC _ (Vr (ae k1) _ hm))) k2
   .obtain⟨d0,k1,k2⟩:=g4 j d hd;exact ih2 j x d0 hxj k1 d (λg k s tys rows hm=>hrw g k s tys rows (by simp only[D.ois];exact bD _ (Vr (ae k1) _ hm))) k2
  .cases he
theorem Aqd(hI:Inv C S w ρ R){y:AV}(h:RdA S w ρ v x)(hrw:Ak0 R rw x.ois)(e:x.view R rw=some y):RdA (J9 S ρ R) w [] v y:=by
 cases h with
 | d h=>
  simp only[AV.view]at e;split at e
  .rename_i d' hd;simp at e;subst e;exact .d (Afz hI h _ hrw hd)
  .cases e
 | agg h=>
  simp only[AV.view]at e;split at e
  .rename_i es hes;simp at e;subst e;obtain⟨g1,g2⟩:=vS hes;refine .agg (dh (by rw[h.length,g1]) λj x d hx hd=>?_);obtain⟨d0,k1,k2⟩:=g2 j d hd;exact Afz hI (h.both hx k1) d (λg k s tys rows hm=>hrw g k s tys rows (Vr (ae k1) _ hm)) k2
  .cases e
 |tup=>simp[AV.view]at e
theorem Sb(hI:Inv C S w ρ R){rw:List Pd}:∀{vs:fh}{xs ys:List AV},Ap (RdA S w ρ) vs xs->Ak0 R rw (oisL xs)->AV.viewL R rw xs=some ys->Ap (RdA (J9 S ρ R) w []) vs ys
 | [],[],ys,_,_,e=>by simp[AV.viewL]at e;subst e;trivial
 | v::vs,d::ds,ys,h,hrw,e=>by
  simp only[AV.viewL]at e;split at e
  .rename_i x l e1 e2;simp at e;subst e;exact⟨Aqd hI h.1 (λg k s tys rows hm=>hrw g k s tys rows (by simp only[oisL];exact bC _ hm)) e1,Sb hI h.2 (λg k s tys rows hm=>hrw g k s tys rows (by simp only[oisL];exact bD _ hm)) e2⟩
  .cases e
 | [],_::_,_,h,_,_=>h.elim
 |_::_,[],_,h,_,_=>h.elim
theorem yT:d.norm.ois=d.ois:=by unfold D.norm;split <;> rfl
theorem Zc:∀{l:List D},dp (l.map D.norm)=dp l
 | []=>rfl
 |d::r=>by simp only[bo,dp,yT,Zc]
theorem Arb:x.norm.ois=x.ois:=by
 cases x with
 |d x=>exact yT
 |agg l=>exact Zc
 |tup l=>rfl
theorem S8:∀{l:List AV},oisL (l.map AV.norm)=oisL l
 | []=>rfl
 |d::r=>by simp only[bo,oisL,Arb,S8]
theorem Rd.flat(h:Rd S w ρ v d)(e:d.flat=true):Rd S' w' ρ' v d:=by
 unfold D.flat at e;split at e
 .cases h with|p h=>cases h with|v _ h=>exact .p (.v _ h)
 .cases e
theorem yN:∀{l:List AV},dx l=true->∀{j:Nat}{a:AV},l[j]?=some a->a.flat=true
 | [],_,j,a,h=>by simp at h
 |x::l,e,j,a,h=>by
  simp only[dx,ac]at e;cases j with
  |zero=>simp at h;subst h;exact e.1
  |succ j=>simp at h;exact yN e.2 h
theorem RdA.flat(h:RdA S w ρ v x):x.flat=true->RdA S' w' ρ' v x:=by
 induction h with
 |d h=>intro e;simp only[AV.flat]at e;exact .d (h.flat e)
 |agg h=>intro e;simp only[AV.flat,a9]at e;exact .agg (dh h.length λj x d hx hd=>(h.both hx hd).flat (e d (ae hd)))
 |tup hl _ ih=>intro e;simp only[AV.flat]at e;exact .tup hl λj x a hx ha=>ih j x a hx ha (yN e ha)
theorem An1(hI:Inv C S w ρ R){args:List AV}(hv:Ap (RdA S w ρ) vs args){f:FuncId}{c:Cl}{out:Out}(h:Gy R args f c=some out)
  (hk:∀x,out.c=some x->x.ok P) :
  Ft P f/\Calls P f vs.toArray w λe w'=>∃v S' ρ',e=.returned v/\Dt C S w ρ out.R v out.v S' w' ρ':=by
 unfold Gy at h;split at h
 .rename_i f' q1 res q2 q3 rw';cases hb:(Nat.beq f f'&&res.flat) with
  |false=>rw[hb]at h;simp at h
  | true=>
   rw[hb]at h;simp only[eO]at h;simp only[ac]at hb;obtain⟨args',rw2,rows,kk,e1,hrw,rfl⟩:∃args' rw2 rows kk,AV.viewL R rw2 (args.map AV.norm)=some args'/\(rows[kk]?=some rw2->Ak0 R rw2 (oisL (args.map AV.norm)))/\out=⟨res,R,some (.callB f args' res rows kk rw2)⟩:=by
    split at h
    .rename_i hois;split at h
     .rename_i args' e1;simp at h;subst h;refine⟨args',[],[[]],0,e1,λ_ g k s tys rows hm=>?_,rfl⟩;rw[S8,hois]at hm;cases hm
     .cases h
    .rename_i g k hois;split at h
     .rename_i s tys rows args' hg e1;simp at h;subst h;refine⟨args',rw',rows,k,e1,λhr g' k' s' tys' rows' hm hg'=>?_,rfl⟩;rw[S8,hois]at hm;simp at hm;obtain⟨rfl,rfl⟩:=hm;rw[hg]at hg';cases hg';exact hr
     .cases h
    .cases h
   .obtain⟨⟨hent,hcall⟩,hrw0⟩:=hk _ rfl;refine⟨hent,?_⟩;have hnorm:Ap (RdA S w ρ) vs (args.map AV.norm):=hv.map_right λ_ _ h=>h.norm;have hst:Start (J9 S ρ R) w [] []:=⟨rfl,by simp,by simp,by simp,λb hb=>by
     rcases hb with hb|⟨i,r,h,h1,h2,h3⟩
     .exact(hI.sup b hb).1
     .exact(hI.own i r h b h1 h2 h3).2.1,hI.glOk.mono (λ_ h=>.inl h) λ_ _=>rfl⟩
    refine(hcall _ w [] vs hst (Sb hI hnorm (hrw hrw0) e1)).mono λe w' hp=>?_;obtain⟨v,S',ρq,he,hr,hq⟩:=hp;have hno:∀b,¬Gt [] [] b:=by rintro b ⟨i,r,h,h1,_⟩;simp at h1
    have hsame:∀b,b<w.heap.size->w'.heap[b]?=w.heap[b]?:=λb hb=>hq.frm b hb (hno b);exact⟨v,S,ρ,he,hI.grow (λ_ h=>h) (λ_ h=>.inl h) hsame hq.size hq.os hq.tape hq.output,λ_ h=>h,λb hb=>hsame b (hI.sup b hb).1,Pre.refl _,hr.flat hb.2⟩
 .rename_i f' q1 q2 res R2 pi;cases hb:(Nat.beq f f'&&Fe pi&&Nat.ble pi.length R2.length) with
  |false=>rw[hb]at h;simp at h
  | true=>
   rw[hb]at h;simp only[eO]at h;simp only[ac]at hb;obtain⟨⟨hb1,hb2⟩,hb3⟩:=hb;have hlen:=bp hb3;split at h
   .rename_i args' Rp e1 e2;split at h
    .rename_i Rp' res' R2' e3 e4 e5;simp at h;subst h;obtain⟨hent,hcall⟩:=hk _ rfl;refine⟨hent,?_⟩;obtain⟨st,hid,_⟩:=hI.start hb2 e2 e3;have hargs:Ap (RdA S w (Ct ρ pi)) vs args':=by
      obtain⟨g1,g2⟩:=Mx e1;refine dh (by rw[hv.length,g1];simp) λj x d hx hd=>?_;obtain⟨d0,k1,k2⟩:=g2 j d hd;rw[aD]at k1;obtain⟨d1,k3,k4⟩:=Cw k1;subst k4;exact((hv.both hx k3).norm).ren hid d k2
     refine(hcall S w (Ct ρ pi) vs st hargs).mono λe w' hp=>?_;obtain⟨v,S',ρq,he,hr,hq⟩:=hp;obtain⟨b1,b2,b3,b4,b5⟩:=hI.back hb2 e2 e3 hq hlen e5;exact⟨v,S',_,he,b1,b2,b3,b4,hr.ren b5 _ e4⟩
    .cases h
   .cases h
 .cases h
theorem T2:∀{ds:List D}{ps:List Pd}{vs:fh},dPs ds=some ps->Ap (Rd S w ρ) vs ds->Ap (RdP S w) vs ps
 | [],ps,vs,h,hv=>by simp[dPs]at h;subst h;cases vs with|nil=>trivial|cons=>exact hv.elim
 | d :: r, ps, vs, h, hv => by
  simp only[dPs]at h;split at h
  .rename_i x l h1 h2;simp at h;subst h;cases vs with
   |nil=>exact hv.elim
   | cons v vs=>
    refine⟨?_,T2 h2 hv.2⟩;unfold dP at h1;split at h1
    .simp at h1;subst h1;exact hv.1.p_inv
    .rename_i f;simp at h1;subst h1;have hfn:=hv.1;cases hfn with
     | @fn _ xs cs _ _ hl hm hx hc=>have e1:xs=[]:=bK (by simpa using hl);have e2:cs=[]:=bK (by simpa using hm);subst e1;subst e2;exact .v _ rfl
    .cases h1
  .cases h
theorem Mh{α:Type}(size:Nat):∀(n:Nat)(l:List α),(Dm size n l).length=n
 |0,_=>rfl
 |n+1,l=>by simp[Dm,Mh size n]
theorem Zh{α:Type}(size:Nat):∀(n:Nat)(l:List α)(i:Nat)(row:List α),(Dm size n l)[i]?=some row->row=(l.drop (i*size)).take size
 |0,_,_,_,h=>by simp[Dm]at h
 |n+1,l,0,row,h=>by simp[Dm]at h;simp[h]
 |n+1,l,i+1,row,h=>by simp only[Dm,cG]at h;have:=Zh size n (l.drop size) i row h;rw[this,bL];congr 2;rw[aM];omega
theorem Zg{α:Type}(size:Nat):∀(n:Nat)(l:List α),l.length=n*size->∀row,row∈Dm size n l->row.length=size
 |0,_,_,row,h=>by simp[Dm]at h
 |n+1,l,hl,row,h=>by
  simp only[Dm,ah]at h;rw[aM]at hl;rcases h with rfl|h
  .simp;omega
  .exact Zg size n (l.drop size) (by simp;omega) row h
theorem Amn(hp:Ap (RdP S w) cs.toList ps)(hl:cs.size=cap*size)(hn:n<=cap)(hm:cap<=maxLen)(hb:∀b,S b->b<w.heap.size) :
  (Res.sl e size (Dm size n (ps.take (n*size)))).ok0 S (w.alloc (.cells cs e)) (ρ++[.slice (some ⟨w.heap.size,0,none⟩) n cap]) (.slice (some ⟨w.heap.size,0,none⟩) n cap):=by
 have hpl:ps.length=cap*size:=by rw[←hp.length];simpa using hl
 have hle:n*size<=cap*size:=bi _ hn;refine .inr ⟨w.heap.size,0,cap,cs,by rw[Mh],.of (E4 _ _),by rw[Mh];exact hn,hm,by omega,Zg size n _ (by simp;omega),λi row hi j d hj=>?_⟩;have:=Zh size n _ i row hi;subst this;rw[ax]at hj;split at hj
 .rw[ay,ax]at hj;split at hj
  .obtain⟨x,hx,hr⟩:=hp.get hj;refine⟨x,by simpa[Nat.zero_add]using hx,hr.mono (λ_ h=>h) λb h=>Bq _ _ _ (hb b h)⟩
  .cases hj
 .cases hj
theorem Inv.newSl(hI:Inv C S w ρ R)(hp:Ap (RdP S w) cs.toList ps)(hl:cs.size=cap*size)(hn:n<=cap)(hm:cap<=maxLen) :
  Dt C S w ρ (R++[.sl e size (Dm size n (ps.take (n*size)))]) (.slice (some ⟨w.heap.size,0,none⟩) n cap) (.d (.os R.length)) S (w.alloc (.cells cs e)) (ρ++[.slice (some ⟨w.heap.size,0,none⟩) n cap]):=by
 have hw:∀b,S b->(w.alloc (.cells cs e)).heap[b]?=w.heap[b]?:=λb hb=>Bq _ _ _ (hI.sup b hb).1;refine⟨hI.push _ _ (λb hb=>Bq _ _ _ hb) (by simp) rfl ⟨rfl,λ_=>by first|exact ag _|exact aR _⟩ rfl (.inr (Amn hp hl hn hm λb hb=>(hI.sup b hb).1)) ?_,λ_ h=>h,hw,Pre.append _ _,.d (.os ?_ rfl)⟩
 .intro b hb;simp[Res.foot]at hb;subst hb;simp
 .rw[←hI.len];simp
theorem Inv.newImm(hI:Inv C S w ρ R)(hp:Ap (RdP S w) cs.toList ps)(hl:cs.size=n*size)(hm:n<=maxLen) :
  Dt C S w ρ R (.slice (some ⟨w.heap.size,0,none⟩) n n) (.d (.p (.s (Dm size n ps)))) (λb=>S b\/b=w.heap.size) (w.alloc (.cells cs e)) ρ:=by
 have hpl:ps.length=n*size:=by rw[←hp.length];simpa using hl
 have hw:∀b,S b->(w.alloc (.cells cs e)).heap[b]?=w.heap[b]?:=λb hb=>Bq _ _ _ (hI.sup b hb).1;have hok:=Amn (e:=e) (ρ:=ρ) (n:=n) (cap:=n) hp hl (ag _) hm (λb hb=>(hI.sup b hb).1);have htake:ps.take (n*size)=ps:=cr (by omega);rw[htake]at hok;have hfr:=Res.ok0.frozen hok;refine⟨hI.grow (λ_ h=>.inl h) (λb hb=>?_) (λb hb=>Bq _ _ _ hb) (by simp) rfl ⟨rfl,λ_=>by first|exact ag _|exact aR _⟩ rfl,λ_ h=>.inl h,hw,Pre.refl _,.d (.p (hfr.mono (λb hb=>?_) λ_ _=>rfl))⟩
 .rcases hb with hb|hb
  .exact .inl hb
  .subst hb;exact .inr ⟨ag _,by simp⟩
 .rcases hb with hb|hb
  .exact .inl hb
  .simp[Res.foot]at hb;exact .inr hb.symm
end
end Go.SL
namespace Go.SL
variable{α:Type}{ps:List (Nat×List D)}{vs:List (Nat×Value)}{len:Nat}{t:TypeId}{x z:Value}
section
variable{P:Program}{C:Ctx}{S S':Nat->Prop}{w w':World}{ρ ρ':fh}{R:List Res}{L:List Ent}{cur:Ce}{a:Act}
theorem Kp(n:Nat)(l:List α):(Du n l).length=n*l.length:=by
 induction n with
 |zero=>simp[Du]
 |succ n ih=>simp[Du,ih,Nat.add_mul];omega
theorem Ago{β:Type}{Q:α->β->Prop}{xs:List α}{ds:List β}(h:Ap Q xs ds)(n:Nat):Ap Q (Du n xs) (Du n ds):=by
 induction n with
 |zero=>trivial
 |succ n ih=>exact h.append ih
theorem Na(zs:Array Value)(n:Nat):((Array.range (n*zs.size)).map (λi=>zs[i % zs.size]!)).toList=Du n zs.toList:=by
 rw[Array.toList_map,Array.toList_range];induction n with
 |zero=>simp[Du]
 | succ n ih=>
  have e:(n+1)*zs.size=zs.size+n*zs.size:=by rw[aM];omega
  rw[e,List.range_add,bh,List.map_map];simp only[Du];congr 1
  .apply bj;intro i;rw[aD];by_cases hi:i<zs.size
   .rw[bT hi];simp[Nat.mod_eq_of_lt hi,hi]
   .rw[bg (by simp;omega),bg (by simp;omega)];rfl
  .rw[←ih];apply aY;intro i _;simp[Nat.add_mod_left]
theorem Agk:∀{l:fh}{ds:List D},Fj l=some ds->ds.length=l.length:=λh=>(Ir (S:=λ_=>False) (w:=default) (ρ:=[]) h).length.symm
theorem Pk{e:TypeId}{size:Nat}{zs out:List D}(hu:P.underlying t=some (.slice e))(hs:A9 P e=some (size+1))(hz:Ee P e=some z)
  (hd:Fj z.cells.toList=some zs)(hzl:zs.length=size+1)(hle:len*(size+1)<=16777216)
  (hp:Ap (λ(p:Nat×Value)(q:Nat×List D)=>p.1=q.1/\Ap (Rd S w ρ) p.2.cells.toList q.2) vs ps)
  (hf:H4 ((List.range len).map λi=>(i*(size+1),size+1)) (Du len zs) ps=some out)(hin:∀q,q∈vs->q.1<len) :
  ∃cs:Array Value,(Instr.buildSlice t len vs.toArray).run P w=.ok (.slice (some ⟨w.heap.size,0,none⟩) len len) (w.alloc (.cells cs e))/\Ap (Rd S w ρ) cs.toList out:=by
 have hzs:z.cells.size=size+1:=by have:=Agk hd;rw[hzl]at this;simpa using this.symm
 have hbase:Ap (Rd S w ρ) ((Array.range (len*(size+1))).map (λi=>z.cells[i % z.cells.size]!)).toList (Du len zs):=by rw[←hzs,Na z.cells];exact Ago (Ir hd) len
 obtain⟨r,hr1,hr2⟩:=Vw (λ(i:Nat)=>((List.range len).map λi=>(i*(size+1),size+1))[i]?) _ (λ_ _ h=>h) vs ps _ _ out hp hbase hf;have hfill:∀(vs:List (Nat×Value))(cs:Array Value),(∀q,q∈vs->q.1<len)->Instr.fill (λi=>some (i*(size+1),size+1)) cs vs=Instr.fill (λ(i:Nat)=>((List.range len).map λi=>(i*(size+1),size+1))[i]?) cs vs:=by
  intro vs;induction vs with
  |nil=>intro cs _;rfl
  | cons q vs ih=>
   intro cs hq;have h1:=hq q ai;have e:((List.range len).map λi=>(i*(size+1),size+1))[q.1]?=some (q.1*(size+1),size+1):=by simp[h1]
   simp only[Instr.fill];rw[e];dsimp only;by_cases hc:(decide (q.2.cells.size≠size+1) || decide (q.1*(size+1)+q.2.cells.size>cs.size))=true
   .rw[eT hc,eT hc]
   .rw[eU hc,eU hc];exact ih _ (λq h=>hq q (ak _ h))
 refine⟨r,?_,hr2⟩;have hle':¬(len*(size+1)>2 ^ 24):=by simp;omega
 simp only[Instr.buildSlice,eX,eR hu,eY,Bt hs];rw[eU hle'];by_cases h0:len*(size+1)=0
 .rw[eT h0];simp only[eX,eZ,eY];have hcs:(Array.range (len*(size+1))).map (λi=>(#[]:Array Value)[i % (#[]:Array Value).size]!)=(Array.range (len*(size+1))).map (λi=>z.cells[i % z.cells.size]!):=by simp[h0]
  rw[hcs,hfill vs _ hin,hr1];simp[newRow]
 .rw[eU h0];simp only[eX,eZ,eY,Ga hz];rw[hfill vs _ hin,hr1];simp[newRow]
theorem Xp{n:Nat}{pl:List (Nat×Nat)}(hpl:pl.length=n):∀{ds:List D}{ps:List (Nat×List D)}{out:List D},H4 pl ds ps=some out->∀q,q∈ps->q.1<n
 |_,[],_,_,q,hq=>by cases hq
 | ds,(i,es)::ps,out,h,q,hq=>by
  simp only[H4]at h;split at h
  .rename_i off size hp;have hi:i<n:=by rw[←hpl];exact(ab.1 hp).1
   cases hb:(Nat.beq es.length size&&Nat.ble (off+es.length) ds.length) with
   |false=>rw[hb]at h;simp at h
   |true=>
    rw[hb]at h;simp only[eO]at h;rcases ah.1 hq with rfl|hq
    .exact hi
    .exact Xp hpl h q hq
  .cases h
theorem Ns{pl:List (Nat×Nat)}:∀{ds:List D}{ps:List (Nat×List D)}{out:List D},H4 pl ds ps=some out->out.length=ds.length
 |_,[],_,h=>by simp[H4]at h;rw[h]
 | ds,(i,es)::ps,out,h=>by
  simp only[H4]at h;split at h
  .rename_i off size hp;cases hb:(Nat.beq es.length size&&Nat.ble (off+es.length) ds.length) with
   |false=>rw[hb]at h;simp at h
   |true=>rw[hb]at h;simp only[eO]at h;simp only[ac]at hb;have:=bp hb.2;rw[Ns h];simp[M9];omega
  .cases h
theorem RdP.nz{d:Pd}(h:RdP S w x d):RdP S w x d.nz:=by
 unfold Pd.nz;split
 .have:=h.v_form;subst this;exact .s none ⟨0,0,none⟩ 0 0 [] (λ_ _=>undef) (ag _) (by simp[maxLen]) (λ_=>rfl) (by simp) (by simp) (by simp)
 .exact h
theorem dD{xs:fh}{ds:List Pd}(h:Ap (RdP S w) xs ds):Ap (RdP S w) xs (ds.map Pd.nz):=h.map_right λ_ _ h=>h.nz
theorem Za(hI:Inv C S w ρ R){c:Cl}{out:Out}
  (hp:Ap (λ(p:Nat×Value)(q:Nat×List D)=>p.1=q.1/\Ap (Rd S w ρ) p.2.cells.toList q.2) vs ps)(h:G_ P R c t len ps=some out) :
  (Lf c=false->out.R=R)/\∃v w' S' ρ',(Instr.buildSlice t len vs.toArray).run P w=.ok v w'/\Dt C S w ρ out.R v out.v S' w' ρ':=by
 unfold G_ at h;split at h
 .rename_i e hu;split at h
  .rename_i size zs hs hz;obtain⟨z,hz1,hz2⟩:=Cj hz;cases hb:(Nat.beq zs.length (size+1)&&Nat.ble (len*(size+1)) 16777216) with
   |false=>rw[hb]at h;simp at h
   | true=>
    rw[hb]at h;simp only[eO]at h;simp only[ac]at hb;have hzl:=aj hb.1;have hle:=bp hb.2;split at h
    .rename_i pd he;obtain⟨ds,hf,hd⟩:=Cj he;have hin:∀q,q∈vs->q.1<len:=by
      intro q hq;obtain⟨j,hj,hjq⟩:=cu hq;have hjl:j<ps.length:=by rw[←hp.length];exact hj
      have:=hp.both (af hj) (af hjl);rw[hjq]at this;rw[this.1];exact Xp (by simp) hf _ (List.getElem_mem hjl)
     obtain⟨cs,hrun,hcs⟩:=Pk hu hs hz1 hz2 hzl hle hp hf hin;have hpd:=dD (T2 hd hcs);have hcl:cs.size=len*(size+1):=by have h1:=hcs.length;have h2:=Ns hf;rw[Kp,hzl]at h2;simpa[h2]using h1
     have hmax:len<=maxLen:=by have:len<=len*(size+1):=Nat.le_mul_of_pos_right _ (by omega);simp[maxLen];omega
     cases ho:Lf c with
     |true=>rw[ho]at h;simp at h;subst h;refine⟨by simp,_,_,S,ρ++[.slice (some ⟨w.heap.size,0,none⟩) len len],hrun,?_⟩;have:=hI.newSl (e:=e) (n:=len) (cap:=len) hpd hcl (ag _) hmax;have htake:(pd.map Pd.nz).take (len*(size+1))=pd.map Pd.nz:=cr (by have:=hpd.length;simp at this ⊢;omega);rw[htake]at this;exact this
     |false=>rw[ho]at h;simp at h;subst h;exact⟨λ_=>rfl,_,_,_,ρ,hrun,hI.newImm hpd hcl hmax⟩
    .cases hq:(Lf c&&Nat.beq size 0) with
     |false=>rw[hq]at h;simp at h
     | true=>
      rw[hq]at h;simp only[eO]at h;simp only[ac]at hq;obtain⟨ds,hf,rfl⟩:=Cw h;have hin:∀q,q∈vs->q.1<len:=by
       intro q hq;obtain⟨j,hj,hjq⟩:=cu hq;have hjl:j<ps.length:=by rw[←hp.length];exact hj
       have:=hp.both (af hj) (af hjl);rw[hjq]at this;rw[this.1];exact Xp (by simp) hf _ (List.getElem_mem hjl)
      obtain⟨cs,hrun,hcs⟩:=Pk hu hs hz1 hz2 hzl hle hp hf hin;have hsz:=aj hq.2;have hdl:ds.length=len:=by have h2:=Ns hf;rw[Kp,hzl,hsz]at h2;simpa using h2
      refine⟨by simp[hq.1],_,_,S,ρ++[.slice (some ⟨w.heap.size,0,none⟩) len len],hrun,?_⟩;exact hI.newVec hcs hdl (by rw[hsz]at hle;simp[maxLen];omega)
  .cases h
 .cases h
end
end Go.SL
namespace Go.SL
variable{av:AV}{cur news olds:Array Value}{rows:List (List Pd)}{c2 cap m n size:Nat}{b1 b2:Option Addr}{e t ty:TypeId}{i:TypeInfo}{h x z:Value}
section
variable{P:Program}{C:Ctx}{S S':Nat->Prop}{w w':World}{ρ ρ':fh}{R:List Res}
theorem Dj{α:Type}{size:Nat}:∀{rows:List (List α)},(∀l,l∈rows->l.length=size)->rows.flatten.length=rows.length*size
 | [],_=>by simp
 |l::rows,h=>by rw[List.flatten_cons,aw,Dj (λl hl=>h l (ak _ hl)),h l ai,bf,aM];omega
theorem Lj{α:Type}{size:Nat}:∀{rows:List (List α)},(∀l,l∈rows->l.length=size)->∀{i j:Nat}{row:List α}{d:α},rows[i]?=some row->row[j]?=some d->rows.flatten[i*size+j]?=some d
 | [],_,i,j,row,d,h,_=>by simp at h
 |l::rows,h,0,j,row,d,hi,hj=>by simp at hi;subst hi;rw[List.flatten_cons,Nat.zero_mul,aH,aJ (ab.1 hj).1];exact hj
 |l::rows,h,i+1,j,row,d,hi,hj=>by simp only[cG]at hi;have hl:=h l ai;rw[List.flatten_cons,aW (by rw[hl,aM];omega),hl];rw[show (i+1)*size+j-size=i*size+j from by rw[aM];omega];exact Lj (λl hl=>h l (ak _ hl)) hi hj
theorem Iq{α:Type}{size:Nat}:∀{rows:List (List α)},(∀l,l∈rows->l.length=size)->∀{k:Nat}{d:α},rows.flatten[k]?=some d->∃i j row,k=i*size+j/\rows[i]?=some row/\row[j]?=some d
 | [],_,k,d,h=>by simp at h
 | l::rows,h,k,d,hk=>by
  have hl:=h l ai;rw[List.flatten_cons]at hk;rcases bc k l.length with hlt|hge
  .rw[aJ hlt]at hk;exact⟨0,k,l,by simp,rfl,hk⟩
  .rw[aW hge]at hk;obtain⟨i,j,row,h1,h2,h3⟩:=Iq (λl hl=>h l (ak _ hl)) hk;exact⟨i+1,j,row,by rw[aM];omega,by simpa using h2,h3⟩
theorem Pi{e:Nat}:(Res.sl e size rows).ok0 S w ρ h↔(h=.slice none 0 0/\rows=[]) \/
   ∃b o cap vs,h=.slice (some ⟨b,o,none⟩) rows.length cap/\Blk w b vs e/\rows.length<=cap/\cap<=maxLen/\o+cap*size<=vs.size /\
    (∀row,row∈rows->row.length=size)/\Ap (RdP S w) ((vs.toList.drop o).take (rows.length*size)) rows.flatten:=by
 constructor
 .rintro (h0|⟨b,o,cap,vs,h1,h2,h3,h4,h5,h6,h7⟩)
  .exact .inl h0
  .refine .inr ⟨b,o,cap,vs,h1,h2,h3,h4,h5,h6,dh ?_ λk x d hx hd=>?_⟩
   .have:rows.length*size<=cap*size:=bi _ h3;rw[Dj h6];simp;omega
   .obtain⟨i,j,row,e1,e2,e3⟩:=Iq h6 hd;obtain⟨y,hy,hr⟩:=h7 i row e2 j d e3;rw[ax]at hx;split at hx
    .rw[ay]at hx;subst e1;rw[←bu]at hx;have:vs[o+i*size+j]?=some x:=by simpa using hx
     rw[this]at hy;cases hy;exact hr
    .cases hx
 .rintro (h0|⟨b,o,cap,vs,h1,h2,h3,h4,h5,h6,h7⟩)
  .exact .inl h0
  .refine .inr ⟨b,o,cap,vs,h1,h2,h3,h4,h5,h6,λi row hi j d hj=>?_⟩;obtain⟨x,hx,hr⟩:=h7.get (Lj h6 hi hj);rw[ax]at hx;split at hx
   .rw[ay,←bu]at hx;exact⟨x,by simpa using hx,hr⟩
   .cases hx
theorem RdP.s_inv(h:RdP S w x (.s rows)):∃(a:Option Addr)(ad:Addr)(cap sz:Nat)(xs:Nat->Nat->Value),x=.slice a rows.length cap /\
  (∀row,row∈rows->row.length=sz) /\
  (∀(i:Nat) row,rows[i]?=some row->∀(j:Nat) d,row[j]?=some d->a=some ad/\S ad.block/\w.cell? (ad.add (i*sz+j))=some (xs i j)) /\
  (∀(i:Nat) row,rows[i]?=some row->∀(j:Nat) d,row[j]?=some d->RdP S w (xs i j) d):=by
 cases h with
 |s a ad cap sz _ xs _ _ _ hsz hx hr=>exact⟨a,ad,cap,sz,xs,rfl,hsz,hx,hr⟩
theorem Amj(hI:Inv C S w ρ R)(hr:RdA S w ρ x av)(h:Hr R size av=some rows)(hsz:∀l,l∈rows->l.length=size) :
  ∃b c,x=.slice b rows.length c/\∀(k:Nat) d,rows.flatten[k]?=some d->∃ad v,b=some ad/\w.cell? (ad.add k)=some v/\RdP S w v d:=by
 unfold Hr at h;split at h
 .rename_i rows';simp at h;subst h;obtain⟨b,ad,cap,sz,xs,hform,hsz',hx,hrr⟩:=hr.d_inv.p_inv.s_inv;refine⟨b,cap,hform,λk d hk=>?_⟩;obtain⟨i,j,row,e1,e2,e3⟩:=Iq hsz hk;obtain⟨g1,g2,g3⟩:=hx i row e2 j d e3;have:sz=size:=by rw[←hsz' row (ae e2),hsz row (ae e2)]
  subst this;subst e1;exact⟨ad,_,g1,g3,hrr i row e2 j d e3⟩
 .simp at h;subst h;exact⟨none,0,hr.exact_inv,by simp⟩
 .rename_i i;split at h
  .rename_i e s rows' hi;cases hb:Nat.beq s size with
   |false=>rw[hb]at h;simp at h
   | true=>
    rw[hb]at h;simp at h;subst h;have hs:=aj hb;subst hs;have hρ:=hr.d_inv.os_inv;rcases(hI.ok i _ x hi hρ).live hr.d_inv.one with⟨h1,h2⟩|⟨b,o,cap,vs,h1,h2,h3,h4,h5,h6,h7⟩
    .subst h2;exact⟨none,0,h1,by simp⟩
    .refine⟨some ⟨b,o,none⟩,cap,h1,λk d hk=>?_⟩;obtain⟨i,j,row,e1,e2,e3⟩:=Iq h6 hk;obtain⟨y,hy,hR⟩:=h7 i row e2 j d e3;refine⟨⟨b,o,none⟩,y,rfl,?_,hR⟩;rw[B1,h2.cell,e1,←bu];exact hy
  .cases h
 .rename_i i lo n s2;split at h
  .rename_i e s rows' hi;cases hb:(Nat.beq s size&&Nat.beq s2 s) with
   |false=>rw[hb]at h;simp at h
   | true=>
    rw[hb]at h;simp at h;subst h;simp only[ac]at hb;have hs:=aj hb.1;subst hs;have hs:=aj hb.2;subst hs;cases hr.d_inv with
    | @osb _ _ _ _ q a len cap hρ hl hc hq hq2=>
     rcases(hI.ok i _ _ hi hρ).live rfl with⟨h1,h2⟩|⟨b,o,cap',vs,h1,h2,h3,h4,h5,h6,h7⟩
     .cases h1;subst h2;have:n=0:=by omega
      subst this;exact⟨_,_,rfl,by simp⟩
     .cases h1;have hlen:((rows'.drop lo).take n).length=n:=by simp;omega
      refine⟨_,cap-lo,by rw[hlen],λk d hk=>?_⟩;have h6':∀l,l∈(rows'.drop lo).take n->l.length=s2:=λl hl=>h6 l (cC (be hl));obtain⟨i,j,row,e1,e2,e3⟩:=Iq h6' hk;have hin:i<n:=by have:=(ab.1 e2).1;rw[hlen]at this;exact this
      rw[ax,eT hin,ay]at e2;obtain⟨y,hy,hR⟩:=h7 (lo+i) row e2 j d e3;have hne:q=lo*s2:=hq2 (by omega);refine⟨(⟨b,o,none⟩:Addr).add (lo*s2),y,by rw[hne];rfl,?_,hR⟩;rw[B1,B1,h2.cell,←hy,e1];congr 1;rw[aM];omega
  .cases h
 .cases h
theorem vZ(hI:Inv C S w ρ R)(hr:RdA S w ρ x av)(h:Hr R size av=some rows)(hsz:∀l,l∈rows->l.length=size)(hm:m<=rows.length) :
  ∃b c vs,x=.slice b rows.length c/\(∀w2:World,(∀a,w2.cell? a=w.cell? a)->(Builtin.firstCells size m x).run P w2=.ok vs w2)/\Ap (RdP S w) vs.toList (rows.take m).flatten:=by
 obtain⟨b,c,hform,hcell⟩:=Amj hI hr h hsz;have hsz':∀l,l∈rows.take m->l.length=size:=λl hl=>hsz l (be hl);have hfl:(rows.take m).flatten.length=m*size:=by rw[Dj hsz',aT,cw hm]
 have hpre:∀(k:Nat) d,(rows.take m).flatten[k]?=some d->rows.flatten[k]?=some d:=by
  intro k d hk;obtain⟨i,j,row,e1,e2,e3⟩:=Iq hsz' hk;rw[ax]at e2;split at e2
  .rw[e1];exact Lj hsz e2 e3
  .cases e2
 cases b with
 | none=>
  have hnil:(rows.take m).flatten=[]:=by
   cases hf:(rows.take m).flatten with
   |nil=>rfl
   |cons d l=>obtain⟨ad,v,e,_⟩:=hcell 0 d (hpre 0 d (by rw[hf];rfl));cases e
  refine⟨none,c,#[],hform,λw2 _=>?_,by rw[hnil];trivial⟩;rw[hform];simp[Builtin.firstCells]
 | some ad=>
  let vs:fh:=(List.range (m*size)).map λk=>(w.cell? (ad.add k)).getD undef
  have hvl:vs.length=m*size:=by simp[vs]
  have hvc:∀(k:Nat) v,vs[k]?=some v->w.cell? (ad.add k)=some v:=by
   intro k v hk;have hkl:k<m*size:=by rw[←hvl];exact(ab.1 hk).1
   obtain⟨ad',v',e,hv',_⟩:=hcell k _ (hpre k _ (af (by rw[hfl];exact hkl)));cases e;simp only[vs]at hk;rw[aD,bT hkl]at hk;simp only[bF,hv',ch]at hk;rw[hv'];exact hk
  refine⟨some ad,c,vs.toArray,hform,λw2 h2=>?_,?_⟩
  .have hlc:=run_loadCells_list (P:=P) w2 ad vs (λj v hv=>by rw[h2];exact hvc j v hv);rw[hform];simp only[Builtin.firstCells];rw[←hvl];exact hlc
  .refine dh (by rw[hfl];exact hvl) λk v d hv hd=>?_;obtain⟨ad',v',e,hv',hR⟩:=hcell k d (hpre k d hd);cases e;rw[hvc k v hv]at hv';cases hv';exact hR
theorem Ami(hI:Inv C S w ρ R)(hr:RdA S w ρ x av)(h:Hr R size av=some rows)(hsz:∀l,l∈rows->l.length=size) :
  ∃b c vs,x=.slice b rows.length c/\(∀w2:World,(∀a,w2.cell? a=w.cell? a)->(Builtin.firstCells size rows.length x).run P w2=.ok vs w2)/\Ap (RdP S w) vs.toList rows.flatten:=by
 obtain⟨b,c,vs,h1,h2,h3⟩:=vZ (P:=P) hI hr h hsz (ag _);rw[am]at h3;exact⟨b,c,vs,h1,h2,h3⟩
theorem Inv.move(h:Inv C S w ρ R){i:Nat}{r r':Res}{v v':Value}(hi:R[i]?=some r)(hv:ρ[i]?=some v)
  (hw:∀k,k<w.heap.size->¬r.foot v k->w'.heap[k]?=w.heap[k]?)(hsz:w.heap.size<=w'.heap.size)(ho:w'.os=w.os)(ht:Tp w w')(hp:w'.output=w.output)
  (hf:∀k,r'.foot v' k->r.foot v k\/w.heap.size<=k/\k<w'.heap.size)(hok:r'.ok S w' (ρ++[v']) v'):Inv C S w' (ρ++[v']) (R.set i .non++[r']):=by
 have hS:∀k,S k->w'.heap[k]?=w.heap[k]?:=λk hk=>hw k (h.sup k hk).1 (λe=>(h.own i r v k hi hv e).1 hk);have key:∀(j:Nat) r1 v1,(R.set i .non++[r'])[j]?=some r1->(ρ++[v'])[j]?=some v1->(j=R.length/\r1=r'/\v1=v')\/r1=.non\/(j≠i/\R[j]?=some r1/\ρ[j]?=some v1):=by
  intro j r1 v1 h1 h2;rcases Dc h1 with h1|⟨rfl,rfl⟩
  .rcases Dc h2 with h2|⟨rfl,rfl⟩
   .rw[aK]at h1;split at h1
    .split at h1
     .cases h1;exact .inr (.inl rfl)
     .cases h1
    .rename_i e;exact .inr (.inr ⟨λe'=>e e'.symm,h1,h2⟩)
   .have:=(ab.1 h1).1;simp at this;rw[h.len]at this;omega
  .rcases Dc h2 with h2|⟨_,rfl⟩
   .have:=(ab.1 h2).1;simp at this;rw[h.len]at this;omega
   .exact .inl ⟨by simp,rfl,rfl⟩
 have cross:∀(j:Nat) r1 v1 b,j≠i->R[j]?=some r1->ρ[j]?=some v1->r1.foot v1 b->r'.foot v' b->False:=by
  intro j r1 v1 b hj h1 h2 h3 h4;rcases hf b h4 with h5|h5
  .exact h.dis j i r1 r v1 v b hj h1 hi h2 hv h3 h5
  .have:=(h.own j r1 v1 b h1 h2 h3).2.1;omega
 refine⟨by simp[h.len],?_,?_,?_,h.sub,?_,?_,aG h.size hsz,ho.trans h.os,ht.trans h.tape,hp.trans h.output,h.pre.trans (Pre.append _ _),h.gl⟩
 .intro j r1 v1 h1 h2;rcases key j r1 v1 h1 h2 with⟨_,rfl,rfl⟩|rfl|⟨hj,g1,g2⟩
  .exact hok
  .exact .inr trivial
  .exact(h.ok j r1 v1 g1 g2).mono (λ_ h=>h) hS (Pre.append _ _) λb hb=>hw b (h.own j r1 v1 b g1 g2 hb).2.1 λe=>h.dis j i r1 r v1 v b hj g1 hi g2 hv hb e
 .intro j k r1 r2 v1 v2 b hjk h1 h2 h3 h4 h5 h6;rcases key j r1 v1 h1 h3 with⟨ej,er,ev⟩|rfl|⟨hj,g1,g2⟩
  .rcases key k r2 v2 h2 h4 with⟨ek,_,_⟩|rfl|⟨hk,m1,m2⟩
   .exact hjk (ej.trans ek.symm)
   .simp[Res.foot]at h6
   .subst er;subst ev;exact cross k r2 v2 b hk m1 m2 h6 h5
  .simp[Res.foot]at h5
  .rcases key k r2 v2 h2 h4 with⟨ek,er,ev⟩|rfl|⟨hk,m1,m2⟩
   .subst er;subst ev;exact cross j r1 v1 b hj g1 g2 h5 h6
   .simp[Res.foot]at h6
   .exact h.dis j k r1 r2 v1 v2 b hjk g1 m1 g2 m2 h5 h6
 .intro j r1 v1 b h1 h2 h3;rcases key j r1 v1 h1 h2 with⟨_,rfl,rfl⟩|rfl|⟨hj,g1,g2⟩
  .rcases hf b h3 with h5|h5
   .obtain⟨o1,o2,o3⟩:=h.own i r v b hi hv h5;exact⟨o1,aQ o2 hsz,o3⟩
   .exact⟨λhb=>by have:=(h.sup b hb).1;omega,h5.2,.inr (aG h.size h5.1)⟩
  .simp[Res.foot]at h3
  .obtain⟨o1,o2,o3⟩:=h.own j r1 v1 b g1 g2 h3;exact⟨o1,aQ o2 hsz,o3⟩
 .intro b hb;exact⟨aQ (h.sup b hb).1 hsz,(h.sup b hb).2⟩
 .intro b hb hnf;refine(hw b (aQ hb h.size) λe=>?_).trans (h.frm b hb hnf);rcases(h.own i r v b hi hv e).2.2 with k|k
  .exact hnf k
  .omega
theorem Agu{bytes:Nat}(hs:A9 P e=some size)(hb:(P.info? e).map (·.bytes)=some bytes)(hz:Ee P e=some z) :
  ∃i,P.info? e=some i/\i.size=size/\i.bytes=bytes/\i.zero=some z:=by
 unfold A9 at hs;unfold Ee at hz;cases hi:P.info? e with
 |none=>rw[hi]at hs;cases hs
 |some i=>rw[hi]at hs hb hz;simp at hs hb hz;exact⟨i,rfl,hs,hb,hz⟩
theorem Abe(ht:P.underlying t=some (.slice e))(hi:P.info? e=some i){g o:Nat}(hg:Blk w g cur e)
  (hx:x=.slice b2 m c2)(hf:(Builtin.firstCells i.size m x).run P w=.ok news w)(h1:∀u,u∈news.toList->u.oneCell'=true)
  (hroom:n+m<=cap)(hfit:o+n*i.size+news.size<=cur.size) :
  (Builtin.append_ #[t,t] ty #[.slice (some ⟨g,o,none⟩) n cap,x]).run P w =
   .ok (.slice (some ⟨g,o,none⟩) (n+m) cap) (w.setRow g (cur.toList.take (o+n*i.size)++news.toList++cur.toList.drop (o+n*i.size+news.toList.length)).toArray):=by
 have hst:=H1 (P:=P) (w:=w) (g:=g) (o:=o+n*i.size) (t:=e) (vs:=news.toList) (cur:=cur) hg (by simpa using hfit) h1;subst hx;simp[Builtin.append_,eR ht,sizeOf,typeInfo,hi,Builtin.lenOf,hroom,hf,B1];simp at hst;rw[hst];rfl
theorem Sx(ht:P.underlying t=some (.slice e))(hi:P.info? e=some i)(hz:i.zero=some z) 
  (ho:(Builtin.firstCells i.size n (.slice b1 n cap)).run P w.drew=.ok olds w.drew)
  (hx:x=.slice b2 m c2)(hf:(Builtin.firstCells i.size m x).run P w.drew=.ok news w.drew)
  (hroom:¬n+m<=cap)(h63:((n+m:Nat):Int)<=9223372036854775807)(hfit:Builtin.nextslicecap (n+m) cap*i.bytes<=281474976710656) :
  (Builtin.append_ #[t,t] ty #[.slice b1 n cap,x]).run P w =
   .ok (.slice (some ⟨w.heap.size,0,none⟩) (n+m) (grownCap w (n+m) cap e))
    (w.drew.alloc (.cells (olds++news++Builtin.zeroCells z.cells (grownCap w (n+m) cap e-(n+m))) e)):=by
 have h63':¬(9223372036854775807<((n:Int)+(m:Int))):=by omega
 have h48':¬(281474976710656<Builtin.nextslicecap (n+m) cap*i.bytes):=by omega
 subst hx;simp[Builtin.append_,eR ht,sizeOf,typeInfo,zeroValue,hi,hz,Builtin.lenOf,hroom,h63',h48',Question.forced,hf,ho,newRow,grownCap]
end
end Go.SL
namespace Go.SL
variable{cs vs:Array Value}{c:Cl}{rows rows2:List (List Pd)}{e i n size:Nat}{len x:Option Value}{out:Out}{d s t ty:TypeId}{v z:Value}
section
variable{P:Program}{C:Ctx}{S S':Nat->Prop}{w w':World}{ρ ρ':fh}{R:List Res}{L:List Ent}{cur:Ce}{a:Act}
theorem Inv.drew(hI:Inv C S w ρ R):Inv C S w.drew ρ R:=
 hI.grow (λ_ h=>h) (λ_ h=>.inl h) (λ_ _=>rfl) (ag _) rfl ⟨rfl,λ_=>by first|exact ag _|exact aR _⟩ rfl
theorem X5{vs:fh}{ps:List Pd}(h:Ap (RdP S w) vs ps):∀u,u∈vs->u.oneCell'=true:=by
 induction vs generalizing ps with
 |nil=>simp
 | cons x xs ih=>cases ps with
  |nil=>exact h.elim
  |cons d ds=>grind[Ap,RdP.one]
theorem Aa9{cap:Nat}{xs:fh}(hp:Ap (RdP S w) xs rows.flatten)(hu:∀l,l∈rows->l.length=size)(hn:n=rows.length)
  (hcs:cs.toList.take (n*size)=xs)(hsz:cap*size<=cs.size)(hcap:n<=cap)(hm:cap<=maxLen)(hb:∀b,S b->b<w.heap.size){w2:World}(hw2:w2.heap=w.heap) :
  (Res.sl e size rows).ok0 S (w2.alloc (.cells cs e)) (ρ++[.slice (some ⟨w.heap.size,0,none⟩) n cap]) (.slice (some ⟨w.heap.size,0,none⟩) n cap):=by
 subst hn;refine Pi.2 (.inr ⟨w.heap.size,0,cap,cs,rfl,by rw[←hw2];exact .of (E4 _ _),hcap,hm,by omega,hu,?_⟩);simp only[List.drop_zero];rw[hcs];exact hp.mono λ_ _ h=>h.mono (λ_ h=>h) λb h=>by have:=hb b h;rw[←hw2]at this ⊢;exact Bq _ _ _ this
theorem Am5{c s:Nat}(h:n<=c):c*s<=n*s+(c-n)*s:=by rw[←aM];exact bi _ (by omega)
theorem Adq(hI:Inv C S w ρ R){t ty bytes:Nat}(ht:P.underlying t=some (.slice e))(hs:A9 P e=some (size+1))(hby:(P.info? e).map (·.bytes)=some bytes)(hz:Ee P e=some z)
  (hzn:z.cells.size=size+1){h x:Value}{y:AV}(hi:R[i]?=some (.sl e (size+1) rows))(hρ:ρ[i]?=some h)(hal:h.oneCell'=true)(hx:RdA S w ρ x y)(hsrc:Hr R (size+1) y=some rows2)
  (hu2:∀l,l∈rows2->l.length=size+1)(hroom:(rows.length+rows2.length)*(bytes+1)<=140737488355328) :
  ∃v w' ρ',(Builtin.append_ #[t,t] ty #[h,x]).run P w=.ok v w'/\Dt C S w ρ (R.set i .non++[.sl e (size+1) (rows++rows2)]) v (.d (.os R.length)) S w' ρ':=by
 obtain⟨info,i1,i2,i3,i4⟩:=Agu hs hby hz;obtain⟨b2,c2,news,hxf,hfc,hnr⟩:=Ami (P:=P) hI hx hsrc hu2;have hnews:news.size=rows2.length*(size+1):=by have:=hnr.length;rw[Dj hu2]at this;simpa using this
 have hnl:news.toList.length=rows2.length*(size+1):=by simpa using hnews
 have hb1:(rows.length+rows2.length)*bytes<=140737488355328:=aG (Nat.mul_le_mul_left _ (aR _)) hroom;have hb2:rows.length+rows2.length<=140737488355328:=aG (Nat.le_mul_of_pos_right _ (Nat.succ_pos bytes)) hroom;have hlenS:R.length=ρ.length:=hI.len.symm;have hfc':(Builtin.firstCells info.size rows2.length x).run P w=.ok news w:=by rw[i2];exact hfc w (λ_=>rfl)
 have hfd:(Builtin.firstCells info.size rows2.length x).run P w.drew=.ok news w.drew:=by rw[i2];exact hfc w.drew (λ_=>rfl)
 have fin:∀(n cap:Nat)(cs:Array Value)(xs:fh),n=rows.length+rows2.length->Ap (RdP S w) xs (rows++rows2).flatten->(∀l,l∈rows->l.length=size+1)->cs.toList.take (n*(size+1))=xs->cap*(size+1)<=cs.size->n<=cap->cap<=maxLen ->
   Dt C S w ρ (R.set i .non++[.sl e (size+1) (rows++rows2)]) (.slice (some ⟨w.heap.size,0,none⟩) n cap) (.d (.os R.length)) S (w.drew.alloc (.cells cs e)) (ρ++[.slice (some ⟨w.heap.size,0,none⟩) n cap]):=by
  intro n cap cs xs hn hp hu hcs hsz hcap hm;have hok:=Aa9 (e:=e) (ρ:=ρ) (size:=size+1) (n:=n) hp (λl hl=>(ao.1 hl).elim (hu l) (hu2 l)) (by simp[hn]) hcs hsz hcap hm (λb hb=>(hI.sup b hb).1) (w2:=w.drew) rfl;have hw:∀b,b<w.heap.size->(w.drew.alloc (.cells cs e)).heap[b]?=w.heap[b]?:=λb hb=>Bq w.drew _ b hb;refine⟨hI.move hi hρ (λk hk _=>hw k hk) (by simp) rfl ⟨rfl,λ_=>by first|exact ag _|exact aR _⟩ rfl (λk hk=>?_) (.inr hok),λ_ h=>h,λb hb=>hw b (hI.sup b hb).1,Pre.append _ _,.d (.os ?_ rfl)⟩
  .simp[Res.foot]at hk;subst hk;exact .inr ⟨ag _,by simp⟩
  .rw[hlenS];simp
 rcases Pi.1 ((hI.ok i _ h hi hρ).live hal) with⟨h1,h2⟩|⟨b,o,cap,vs,h1,h2,h3,h4,h5,h6,h7⟩
 .subst h1;subst h2;by_cases hm:rows2.length=0
  .have hr2:rows2=[]:=bK hm;subst hr2;refine⟨.slice none 0 0,w,ρ++[.slice none 0 0],?_,⟨hI.move hi hρ (λ_ _ _=>rfl) (ag _) rfl ⟨rfl,λ_=>by first|exact ag _|exact aR _⟩ rfl (λk hk=>by simp[Res.foot]at hk) (.inr (.inl ⟨rfl,rfl⟩)),λ_ h=>h,λ_ _=>rfl,Pre.append _ _,.d (.os (by rw[hlenS];simp) rfl)⟩⟩;have:news = #[]:=Array.eq_empty_of_size_eq_zero (by simpa using hnews);subst this;subst hxf;simp at hfc';simp[Builtin.append_,eR ht,sizeOf,typeInfo,i1,Builtin.lenOf,hfc']
  .have hg:=Sx (P:=P) (w:=w) (t:=t) (ty:=ty) (e:=e) ht i1 i4 (b1:=none) (n:=0) (cap:=0) (olds:=#[]) (by simp[Builtin.firstCells]) hxf hfd (by omega) (by simp at hb2;omega) (by
    rw[i3];exact growslice_fits (by omega) (by simpa using hb1))
   refine⟨_,_,_,hg,fin _ _ _ news.toList (by simp) (by simpa using hnr) (by simp) ?_ ?_ (grownCap_ge _ _ _ _) (grownCap_le_maxLen _ _ _ _ (by simp[maxLen];simp at hb2;omega))⟩
   .simp only[Array.empty_append,Array.toList_append,aH];rw[←hnews];have:news.size=news.toList.length:=by simp
    rw[this];exact List.take_left
   .have:=grownCap_ge w (0+rows2.length) 0 e;have h2:=Am5 (s:=size+1) this;simp only[Array.size_append,size_zeroCells,hzn,hnews,cd,bU];simpa using h2
 .subst h1;have hold:((vs.toList.drop o).take (rows.length*(size+1))).length=rows.length*(size+1):=by rw[h7.length,Dj h6]
  by_cases hm:rows.length+rows2.length<=cap
  .have hfit:o+rows.length*info.size+news.size<=vs.size:=by
    rw[i2,hnews];have:(rows.length+rows2.length)*(size+1)<=cap*(size+1):=bi _ hm;rw[aM]at this;omega
   have hr:=Abe (P:=P) (w:=w) (t:=t) (ty:=ty) (e:=e) ht i1 h2 hxf hfc' (X5 hnr) hm hfit;have hown:=hI.own i _ _ b hi hρ rfl;have hw:∀k,k≠b->(w.setRow b (vs.toList.take (o+rows.length*info.size)++news.toList++vs.toList.drop (o+rows.length*info.size+news.toList.length)).toArray).heap[k]?=w.heap[k]?:=λk hk=>A_ _ _ _ _ hk;have hS:∀k,S k->(w.setRow b (vs.toList.take (o+rows.length*info.size)++news.toList++vs.toList.drop (o+rows.length*info.size+news.toList.length)).toArray).heap[k]?=w.heap[k]?:=λk hk=>hw k (λe=>hown.1 (e ▸ hk));refine⟨_,_,ρ++[.slice (some ⟨b,o,none⟩) (rows.length+rows2.length) cap],hr,⟨hI.move hi hρ (λk _ hk=>hw k (λe=>hk (by simp[Res.foot,e]))) (by simp) rfl ⟨rfl,λ_=>by first|exact ag _|exact aR _⟩ rfl (λk hk=>by simp[Res.foot]at hk ⊢;exact .inl hk) ?_,λ_ h=>h,hS,Pre.append _ _,.d (.os (by rw[hlenS];simp) rfl)⟩⟩;refine .inr (Pi.2 (.inr ⟨b,o,cap,_,by simp,h2.put (by simp only[cd,aw,aT,bV,cN];simp only[Array.size]at hfit h5 ⊢;omega),by simpa using hm,h4,?_,λl hl=>(ao.1 hl).elim (h6 l) (hu2 l),?_⟩))
   .simp only[cd,aw,aT,bV,cN];simp only[Array.size]at hfit h5 ⊢;omega
   .have key:(((vs.toList.take (o+rows.length*info.size)++news.toList++vs.toList.drop (o+rows.length*info.size+news.toList.length)).drop o).take ((rows++rows2).length*(size+1)))=(vs.toList.drop o).take (rows.length*(size+1))++news.toList:=by
     rw[i2];have e1:(vs.toList.take (o+rows.length*(size+1))++news.toList++vs.toList.drop (o+rows.length*(size+1)+news.toList.length)).drop o=(vs.toList.drop o).take (rows.length*(size+1))++(news.toList++vs.toList.drop (o+rows.length*(size+1)+news.toList.length)):=by rw[aP,List.drop_append_of_le_length (by simp;omega),List.drop_take];congr 2;omega
     rw[e1,←aP];have:(rows++rows2).length*(size+1)=((vs.toList.drop o).take (rows.length*(size+1))++news.toList).length:=by
      have h9:((vs.toList.drop o).take (rows.length*(size+1))++news.toList).length=rows.length*(size+1)+rows2.length*(size+1):=by rw[aw,hold,hnl]
      rw[h9,aw,aM]
     rw[this];exact List.take_left
    rw[key,cv];exact(h7.append hnr).mono λ_ _ h=>h.mono (λ_ h=>h) hS
  .have hcell:∀(j:Nat) v,((vs.toList.drop o).take (rows.length*(size+1)))[j]?=some v->w.drew.cell? ((⟨b,o,none⟩:Addr).add j)=some v:=by
    intro j v hv;rw[ax]at hv;split at hv
    .rw[ay]at hv;rw[World.cell?_drew,B1,h2.cell];simpa using hv
    .cases hv
   have hlc:=run_loadCells_list (P:=P) w.drew ⟨b,o,none⟩ _ hcell;rw[hold]at hlc;have hg:=Sx (P:=P) (w:=w) (t:=t) (ty:=ty) (e:=e) ht i1 i4 (b1:=some ⟨b,o,none⟩) (n:=rows.length) (cap:=cap) (olds:=((vs.toList.drop o).take (rows.length*(size+1))).toArray) (by rw[i2];simpa[Builtin.firstCells]using hlc) hxf hfd hm (by omega) (by rw[i3];exact growslice_fits (by omega) hb1)
   refine⟨_,_,_,hg,fin _ _ _ ((vs.toList.drop o).take (rows.length*(size+1))++news.toList) rfl (by rw[cv];exact h7.append hnr) h6 ?_ ?_ (grownCap_ge _ _ _ _) (grownCap_le_maxLen _ _ _ _ (by simp[maxLen];omega))⟩
   .simp only[Array.toList_append];have:(rows.length+rows2.length)*(size+1)=((vs.toList.drop o).take (rows.length*(size+1))++news.toList).length:=by
     have h9:((vs.toList.drop o).take (rows.length*(size+1))++news.toList).length=rows.length*(size+1)+rows2.length*(size+1):=by rw[aw,hold,hnl]
     rw[h9,aM]
    rw[this];exact List.take_left
   .have h8:=Am5 (s:=size+1) (grownCap_ge w (rows.length+rows2.length) cap e);simp only[Array.size_append,size_zeroCells,hzn,hnews,cd,hold];rw[aM]at h8;exact h8
theorem O4(hI : Inv C S w ρ R){ts : Array TypeId}{args : List AV}(hv : Ap (RdA S w ρ) vs.toList args)(h : B4 P R c ts.toList args = some out)
  (hk:∀x,out.c=some x->x.ok P):∃v w' ρ',(Builtin.append_ ts ty vs).run P w=.ok v w'/\Dt C S w ρ out.R v out.v S w' ρ':=by
 unfold B4 at h;split at h
 .rename_i ts' t u x y hts;cases hb:Nat.beq t u with
  |false=>rw[hb]at h;simp at h
  | true =>
   rw[hb]at h;simp only[eO]at h;have:=aj hb;subst this;obtain⟨v0,v1,hvs,r0,r1⟩:∃v0 v1,vs = #[v0,v1]/\RdA S w ρ v0 x/\RdA S w ρ v1 y:=by
    obtain⟨l⟩:=vs
    match l,hv with
    | [v0,v1],hv=>exact⟨v0,v1,rfl,hv.1,hv.2.1⟩
    | [],hv=>exact hv.elim
    | [_],hv=>exact hv.2.elim
    |_::_::_::_,hv=>exact hv.2.2.elim
   have htsa:ts = #[t,t]:=by obtain⟨l⟩:=ts;simp at hts;rw[hts]
   subst hvs;subst htsa;split at h
   .rename_i e ht;split at h
    .rename_i size bytes zn hs hby hz;obtain⟨z,hz1,hz2⟩:=Cw hz;split at h
     .rename_i q1 q2 q3 q4 rows' rows2 hsrc;cases hb2:Nat.beq zn (size+1) with
      |false=>rw[hb2]at h;simp at h
      | true=>
       rw[hb2]at h;simp only[eO]at h;have hzn:z.cells.size=size+1:=by rw[hz2];exact aj hb2
       split at h
       .simp at h;subst h;obtain⟨k1,k2,k3⟩:=hk _ rfl;subst k3;have hnil:=r0.exact_inv;have hP:=hI.push (w':=w) (.sl e (size+1) []) (.slice none 0 0) (λ_ _=>rfl) (ag _) rfl ⟨rfl,λ_=>by first|exact ag _|exact aR _⟩ rfl (.inr (.inl ⟨rfl,rfl⟩)) (by simp[Res.foot]);have hl:(ρ++[Value.slice none 0 0])[R.length]?=some (.slice none 0 0):=by rw[←hI.len];simp
        have hsrc':Hr (R++[.sl e (size+1) []]) (size+1) y=some rows2:=by
         unfold Hr at hsrc ⊢;split at hsrc
         .exact hsrc
         .exact hsrc
         .rename_i i;split at hsrc
          .rename_i a b c hi;rw[aJ (ab.1 hi).1,hi];exact hsrc
          .cases hsrc
         .rename_i i q1 q2 q3;split at hsrc
          .rename_i a b c hi;rw[aJ (ab.1 hi).1,hi];exact hsrc
          .cases hsrc
         .cases hsrc
        obtain⟨v,w',ρ',hr,ha⟩:=Adq (ty:=ty) hP ht hs hby hz1 hzn (i:=R.length) (rows:=[]) (by simp) hl rfl (r1.mono (λ_ h=>h) (λ_ _=>rfl) (Pre.append _ _)) hsrc' k2 (by simpa using k1);refine⟨v,w',ρ',by rw[hnil];exact hr,?_,ha.sub,ha.same,(Pre.append _ _).trans ha.pre,?_⟩
        .have:=ha.inv;simpa using this
        .have:=ha.rd;simpa using this
       .rename_i i;split at h
        .rename_i e' s' rows hi;cases hb3:(Nat.beq e' e&&Nat.beq s' (size+1)) with
         |false=>rw[hb3]at h;simp at h
         |true=>rw[hb3]at h;simp only[eO]at h;simp at h;subst h;simp only[ac]at hb3;have e1:=aj hb3.1;have e2:=aj hb3.2;subst e1;subst e2;obtain⟨k1,k2,k3⟩:=hk _ rfl;subst k3;obtain⟨v,w',ρ',hr,ha⟩:=Adq (ty:=ty) hI ht hs hby hz1 hzn hi r0.d_inv.os_inv r0.d_inv.one r1 hsrc k2 k1;exact⟨v,w',ρ',hr,ha⟩
        .cases h
       .cases h
     .cases h
    .cases h
   .cases h
 .cases h
theorem P6{α β:Type}{Q:α->β->Prop}{xs:List α}{ds:List β}(h:Ap Q xs ds)(n:Nat):Ap Q (Du n xs) (List.replicate n ds).flatten:=by
 induction n with
 |zero=>trivial
 |succ n ih=>exact h.append ih
theorem Nb{α:Type}(l:List α):∀n,Du n l=(List.replicate n l).flatten
 |0=>rfl
 |n+1=>by simp[Du,List.replicate_succ,Nb l n]
theorem Zb:∀{l:fh}{ds:List D},Fj l=some ds->ds=l.map (λv=>D.p (.v v))/\∀v,v∈l->v.oneCell'=true
 | [],ds,h=>by simp[Fj]at h;subst h;simp
 | v::r,ds,h=>by
  simp only[Fj]at h;split at h
  .rename_i d ds' h1 h2;simp at h;subst h;obtain⟨g1,g2⟩:=Zb h2;unfold dOf at h1;grind
  .cases h
theorem yW:∀{l:fh}{ps:List Pd},dPs (l.map λv=>D.p (.v v))=some ps->ps=l.map Pd.v
 | [],ps,h=>by simp[dPs]at h;subst h;rfl
 | v::r,ps,h=>by
  simp only[bo,dPs,dP]at h;split at h
  .rename_i x l h1 h2;simp at h h1;subst h;subst h1;rw[yW h2];rfl
  .cases h
theorem Ay2(h:zB (.v v)=true)(h1:v.oneCell'=true):Atm v (Pd.nz (.v v)):=by
 unfold zB at h;split at h
 .rename_i heq;cases heq;exact⟨rfl,rfl⟩
 .cases h
 .rename_i x h2 h3 heq;cases heq;have:Pd.nz (.v v)=.v v:=by
   unfold Pd.nz;grind
  rw[this];refine⟨rfl,h1,?_⟩;unfold qK;grind
 .rename_i heq;cases heq
theorem Y9(h : L3 P R c t len = some out)(hk : ∀x, out.c = some x -> x.ok P)(hS : ∀b, S b -> b < w.heap.size) :
    ∃ l n cs e r,len=some l/\out.v=.d (.os R.length)/\out.R=R++[r]/\(Instr.makeSlice t l l).run P w=.ok (.slice (some ⟨w.heap.size,0,none⟩) n n) (w.alloc (.cells cs e)) /\
      (∀ρ',r.ok0 S (w.alloc (.cells cs e)) ρ' (.slice (some ⟨w.heap.size,0,none⟩) n n))/\(∀b,r.foot (.slice (some ⟨w.heap.size,0,none⟩) n n) b->b=w.heap.size):=by
  unfold L3 at h;have key:∀{e:TypeId}{l:Int}{size bytes:Nat}{ds:List D},P.underlying t=some (.slice e)->A9 P e=some (size+1)->(P.info? e).map (·.bytes)=some bytes->((Ee P e).bind λz=>Fj z.cells.toList)=some ds ->
      ∀{zs:List Pd},dPs ds=some zs->zs.length=size+1->0<=l*((bytes:Int)+1)->l*((bytes:Int)+1)<=140737488355328 ->
      ∃(n:Nat)(cs:Array Value)(vs:fh),l=n/\(Instr.makeSlice t (.int .i64 l) (.int .i64 l)).run P w=.ok (.slice (some ⟨w.heap.size,0,none⟩) n n) (w.alloc (.cells cs e)) /\
        cs.toList=(List.replicate n vs).flatten/\vs.length=size+1/\zs=vs.map Pd.v/\(∀v,v∈vs->v.oneCell'=true)/\n<=140737488355328/\cs.size=n*(size+1):=by
    intro e l size bytes ds ht hs hby hz zs hd hzl k1 k2;obtain⟨z,hz1,hz2⟩:=Cj hz;obtain⟨d1,d2⟩:=Zb hz2;subst d1;have hzv:=yW hd;obtain⟨info,i1,i2,i3,i4⟩:=Agu hs hby hz1;have hl0:0<=l:=by
      rcases Int.lt_or_le l 0 with h|h
      · have:l*((bytes:Int)+1)<0:=Int.mul_neg_of_neg_of_pos h (by omega);omega
      · exact h
    obtain⟨n,rfl⟩:=Int.eq_ofNat_of_zero_le hl0;have hn:n*(bytes+1)<=140737488355328:=by
      have:((n*(bytes+1):Nat):Int)<=140737488355328:=by push_cast;exact k2
      omega
    have hn1:n<=140737488355328:=aG (Nat.le_mul_of_pos_right _ (Nat.succ_pos bytes)) hn;have hn2:n*bytes<=140737488355328:=aG (Nat.mul_le_mul_left _ (aR _)) hn;have hwrap:IntKind.i64.wrap (n:Int)=n:=IntWalk.i64_in _ (by omega)
    have hzs : z.cells.size = size + 1 := by have : zs.length = z.cells.toList.length := by rw[hzv]; simp
                                             rw[hzl]at this;simpa using this.symm
    have hlarge:¬((281474976710656:Int)<(bytes:Int)*(n:Int)):=by
      have:((n*bytes:Nat):Int)<=140737488355328:=by omega
      push_cast at this
      rw[Int.mul_comm];omega
    have hcells:∃cs:Array Value,cs.toList=Du n z.cells.toList/\(Instr.makeSlice t (.int .i64 n) (.int .i64 n)).run P w=.ok (.slice (some ⟨w.heap.size,0,none⟩) n n) (w.alloc (.cells cs e)):=by
      refine⟨(Array.range (n*z.cells.size)).map (λi=>z.cells[i % z.cells.size]!),Na _ _,?_⟩;by_cases h0:n=0
      · subst h0;have hw0:IntKind.i64.wrap 0=0:=IntWalk.i64_in 0 (by omega);simp[Instr.makeSlice,eR ht,asInt,asIntOf,typeInfo,i1,sizeOf,newRow,hw0];congr 2;apply Array.ext';simp
      · have hneg:¬((n:Int)<0):=by omega
        have h1:(n*(size+1)=0)=False:=eq_false (Nat.mul_ne_zero h0 (by omega));simp[hneg,h1,Instr.makeSlice,eR ht,asInt,asIntOf,typeInfo,i1,i2,i3,sizeOf,newRow,hwrap,hlarge,hzs,zeroValue,i4]
    obtain⟨cs,hc1,hc2⟩:=hcells;have hcl:cs.size=n*(size+1):=by
      have:cs.toList.length=n*z.cells.toList.length:=by rw[hc1,Kp]
      simpa[hzs]using this
    exact⟨n,cs,z.cells.toList,rfl,hc2,by rw[hc1,Nb],by simpa using hzs,hzv,d2,hn1,hcl⟩
  have hfoot:∀(n b:Nat),D6 (.slice (some ⟨w.heap.size,0,none⟩) n n) b->b=w.heap.size:=λn b h=>Eq.symm h;split at h
  · rename_i e l q1 q2 rows' ht;split at h
    · rename_i size bytes ds hs hby hz;split at h
      · rename_i zs hd;cases hb:Nat.beq zs.length (size+1) with
        |false=>rw[hb]at h;simp at h
        | true=>
          rw[hb]at h;simp at h;subst h;obtain⟨k1,k2,k3⟩:=hk _ rfl;subst k3;have hzl:=aj hb;obtain⟨n,cs,vs,rfl,hrun,hc,hvl,hzv,hone,hn1,hcl⟩:=key ht hs hby hz hd hzl k1 k2;refine⟨_,n,cs,e,_,rfl,rfl,rfl,hrun,λρ'=>?_,λb hb=>hfoot n b hb⟩;have hall:Ap (RdP S w) vs zs:=by rw[hzv];refine dh (by simp) λj x d hx hd=>?_;rw[aD,hx]at hd;simp at hd;subst hd;exact .v x (hone x (ae hx))
          have hok:=Aa9 (e:=e) (ρ:=[]) (size:=size+1) (n:=n) (cap:=n) (rows:=List.replicate n zs) (cs:=cs) (xs:=cs.toList) (by rw[hc,←Nb];exact P6 hall n) (λl hl=>by rw[cj hl];exact hzl) (by simp)
            (cr (by simp[hcl])) (by omega) (ag _) (by simp[maxLen];omega) hS (w2:=w) rfl
          simp only[aq];exact hok
      · cases h
    · cases h
  · rename_i e l q1 q2 rows' ht;split at h
    · rename_i size bytes ds hs hby hz;split at h
      · rename_i zs hd;cases hb:(Nat.beq zs.length (size+1)&&zs.all zB) with
        |false=>rw[hb]at h;simp at h
        | true=>
          rw[hb]at h;simp only[eO,al]at h;subst h;simp only[ac]at hb;obtain⟨k1,k2,k3⟩:=hk _ rfl;subst k3;have hzl:=aj hb.1;obtain⟨n,cs,vs,rfl,hrun,hc,hvl,hzv,hone,hn1,hcl⟩:=key ht hs hby hz hd hzl k1 k2;refine⟨_,n,cs,e,_,rfl,rfl,rfl,hrun,λρ'=>?_,λb hb=>hfoot n b hb⟩;refine .inr ⟨w.heap.size,0,n,cs,by simp,E4 _ _,by simp,by simp[maxLen];omega,by omega,λrow hrow=>?_,λi row hi j d hj=>?_⟩
          · rw [cj hrow];simpa using hzl
          · have hin:i<n:=by have:=(ab.1 hi).1;simpa using this
            have hrow:row=zs.map Pd.nz:=cj (ae hi);subst hrow;rw[hzv,List.map_map,aD]at hj;obtain⟨x,hx,hd'⟩:=Cw hj;refine⟨x,?_,?_⟩
            · have hg:=Lj (rows:=List.replicate n vs) (size:=size+1) (λl hl=>by rw[cj hl];exact hvl) (i:=i) (j:=j) (row:=vs) (d:=x) (by rw[List.getElem?_replicate,eT hin]) hx;rw[←hc]at hg;simpa using hg
            · subst hd';have hzb:=(a9.1 hb.2) (.v x) (by rw[hzv];exact an.2 ⟨x,ae hx,rfl⟩);exact Ay2 hzb (hone x (ae hx))
      · cases h
    · cases h
  · cases h
theorem Anu(hI:Inv C S w ρ R)(h:L3 P R c t len=some out)(hk:∀x,out.c=some x->x.ok P) :
  ∃v w' ρ' l,len=some l/\(Instr.makeSlice t l l).run P w=.ok v w'/\Dt C S w ρ out.R v out.v S w' ρ':=by
 obtain⟨l,n,cs,e,r,h1,h2,h3,h4,h5,h6⟩:=Y9 h hk (λb hb=>(hI.sup b hb).1);have hw:∀b,b<w.heap.size->(w.alloc (.cells cs e)).heap[b]?=w.heap[b]?:=λb hb=>Bq w _ b hb;refine⟨_,_,ρ++[.slice (some ⟨w.heap.size,0,none⟩) n n],l,h1,h4,?_⟩;rw[h2,h3];refine⟨hI.push _ _ hw (by simp) rfl ⟨rfl,λ_=>by first|exact ag _|exact aR _⟩ rfl (.inr (h5 _)) λb hb=>?_,λ_ h=>h,λb hb=>hw b (hI.sup b hb).1,Pre.append _ _,.d (.os ?_ rfl)⟩
 .rw[h6 b hb];simp
 .rw[←hI.len];simp
theorem Aj1(hI:Inv C S w ρ R)(h:M4 P R c s d x=some out)(hk:∀y,out.c=some y->y.ok P) :
  ∃v v' w' ρ',x=some v/\(convert s d v).run P w=.ok v' w'/\Dt C S w ρ out.R v' out.v S w' ρ':=by
 unfold M4 at h;split at h
 .rename_i e b q1 q2 rows' hs hd;split at h
  .rename_i he;have hmk:Vt e=true:=by
    grind
   rw[hmk]at h;simp at h;subst h;obtain⟨k1,k2,k3⟩:=hk _ rfl;subst k3;have hold:∀k,k<w.heap.size->(Lib.bytesWorld w e b).heap[k]?=w.heap[k]?:=λk hk=>Lib.bytesWorld_at_old w e b k hk;have hsz:=Lib.bytesWorld_size w e b;have hlen:(Ie b).length=b.size:=by simp[Ie,Ud]
   have hcs:(Lib.bytesCells w e b).size=b.size+(grownCap w b.size 0 e-b.size):=by simp[Lib.bytesCells]
   refine⟨_,_,_,ρ++[.slice (some ⟨w.heap.size,0,none⟩) b.size (grownCap w b.size 0 e)],rfl,Lib.run_convert_string_bytes w s d e b hs hd he,?_⟩;refine⟨hI.push _ _ hold (by omega) rfl ⟨rfl,λ_=>by first|exact ag _|exact aR _⟩ rfl (.inr (.inr ⟨w.heap.size,0,_,_,by rw[hlen],⟨_,Lib.bytesWorld_at_new w e b,.inr (ag _),λhm=>absurd (hmk.symm.trans hm) (by decide)⟩,by rw[hlen];exact grownCap_ge _ _ _ _,grownCap_le_maxLen _ _ _ _ (by simp[maxLen];omega),?_,λrow hr=>?_,λi row hi j q hj=>?_⟩)) λk hk=>?_,λ_ h=>h,λk hk=>hold k (hI.sup k hk).1,Pre.append _ _,.d (.os ?_ rfl)⟩
   .have:=grownCap_ge w b.size 0 e;omega
   .unfold Ie at hr;obtain⟨n,_,rfl⟩:=an.1 hr;rfl
   .have hil:i<b.size:=by rw[←hlen];exact(ab.1 hi).1
    unfold Ie Ud at hi;rw[aD,aD]at hi;obtain⟨z,h1,rfl⟩:=Cw hi;obtain⟨y,h2,rfl⟩:=Cw h1;have hj0:j=0:=by have:=(ab.1 hj).1;simp at this;exact this
    subst hj0;simp at hj;subst hj;refine⟨.int .u8 (y.toNat:Int),?_,.v _ rfl⟩;have:=Lib.bytesWorld_cell w e b i hil;rw[cZ,h2]at this;rw[Ic (Lib.bytesWorld_at_new w e b)]at this;rw[aH,Nat.mul_one,bJ,this];rfl
   .simp[Res.foot]at hk;subst hk;exact⟨ag _,by omega⟩
   .rw[←hI.len];simp
  .cases h
 .cases h
theorem Aj2(hI : Inv C S w ρ R){x : Option AV}(h : M5 P R c s d x = some out)(hv : ∀y, x = some y -> RdA S w ρ v y) :
  ∃v' w',(convert s d v).run P w=.ok v' w'/\Dt C S w ρ out.R v' out.v S w' ρ:=by
 unfold M5 at h;split at h
 .rename_i e i hd;split at h
  .rename_i e' z row rows hi he;cases hb:Nat.beq s d&&Vt e' with
   |false=>rw[hb]at h;cases h
   | true=>
    rw[hb]at h;have hbm:=(Bool.and_eq_true_iff.1 hb).2;have hsd:=aj (Bool.and_eq_true_iff.1 hb).1;subst hsd;simp at h;subst h;have hr:=hv _ rfl;have hρ:=hr.d_inv.os_inv;rcases(hI.ok i _ v hi hρ).live hr.d_inv.one with⟨h1,h2⟩|⟨b,o,cap,vs,h1,⟨fr,hb1,hb2,hb3⟩,h3,h4,h5,h6,h7⟩
    .cases h2
    .subst h1;have hsh:w.shape? b=some (e',vs.size):=by simp[World.shape?,hb1]
     have hblk:(w.freeze ⟨b,vs.size,none⟩ 1).heap[b]?=some (.cells vs e' (if fr.1==fr.2 then (vs.size,vs.size+1) else (min fr.1 vs.size,max fr.2 (vs.size+1)))):=by simp[World.freeze,Array.getElem?_modify,hb1]
     have hoth:∀k,k≠b->(w.freeze ⟨b,vs.size,none⟩ 1).heap[k]?=w.heap[k]?:=λk hk=>by simp[World.freeze,Array.getElem?_modify,Ne.symm hk]
     have hsz:(w.freeze ⟨b,vs.size,none⟩ 1).heap.size=w.heap.size:=by simp[World.freeze]
     have hown:=hI.own i _ _ b hi hρ rfl;have hS:∀k,S k->(w.freeze ⟨b,vs.size,none⟩ 1).heap[k]?=w.heap[k]?:=λk hk=>hoth k λe=>hown.1 (e ▸ hk);refine⟨.slice (some ⟨b,o,none⟩) (row::rows).length cap,w.freeze ⟨b,vs.size,none⟩ 1,?_,?_,λ_ h=>h,hS,Pre.refl _,?_⟩
     .simp[convert,eR hd,eR he,markStringish,hsh,Result.andThen]
     .have hI':=hI.put hi hρ (w':=w.freeze ⟨b,vs.size,none⟩ 1) (r':=.sl e' z (row::rows)) (b:=b) rfl (λk hk=>by simp[Res.foot]at hk;exact hk.symm) hoth hsz rfl ⟨rfl,λ_=>by first|exact ag _|exact aR _⟩ rfl
       (.inr (.inr ⟨b,o,cap,vs,rfl,⟨_,hblk,.inr ?_,λhm=>absurd (hbm.symm.trans hm) (by decide)⟩,h3,h4,h5,h6,λi2 r hi2 j q hj=>?_⟩))
      .have:R.set i (.sl e' z (row::rows))=R:=by
        apply bj;grind
       rw[this]at hI';exact hI'
      .rcases hb2 with hb2|hb2
       .rw[eT (by simpa using hb2)];exact ag _
       .split
        .exact ag _
        .show vs.size<=min fr.1 vs.size;omega
      .obtain⟨x,hx,hR⟩:=h7 i2 r hi2 j q hj;exact⟨x,hx,hR.mono (λ_ h=>h) hS⟩
     .exact .d (.os hρ rfl)
  .cases h
 .cases h
theorem An0(hI:Inv C S w ρ R)(h:Ty P R c s d x=some out)(hk:∀y,out.c=some y->y.ok P) :
  out.R=R/\∃v v' w' S',x=some v/\(convert s d v).run P w=.ok v' w'/\Dt C S w ρ R v' out.v S' w' ρ:=by
 unfold Ty at h;split at h
 .rename_i e b q1 q2 rows' hs hd;split at h
  .rename_i he;simp at h;subst h;obtain⟨k1,k2,k3⟩:=hk _ rfl;subst k3;refine⟨rfl,_,_,_,λk=>S k\/k=w.heap.size,rfl,Lib.run_convert_string_bytes w s d e b hs hd he,?_⟩;have hold:∀k,k<w.heap.size->(Lib.bytesWorld w e b).heap[k]?=w.heap[k]?:=λk hk=>Lib.bytesWorld_at_old w e b k hk;have hsz:=Lib.bytesWorld_size w e b;have hsub:∀k,S k->k<w.heap.size:=λk hk=>(hI.sup k hk).1;refine⟨hI.grow (λ_ h=>.inl h) (λk hk=>hk.imp id λe=>⟨by omega,by omega⟩) hold (by omega) rfl ⟨rfl,λ_=>by first|exact ag _|exact aR _⟩ rfl,λ_ h=>.inl h,λk hk=>hold k (hsub k hk),Pre.refl _,.d (.p ?_)⟩;have hlen:(Ie b).length=b.size:=by simp[Ie,Ud]
   have hget:∀(i:Nat) row,(Ie b)[i]?=some row->i<b.size/\row=[Pd.v (.int .u8 (b.data.toList.getD i 0).toNat)]:=by
    intro i row hi;have hil:i<b.size:=by rw[←hlen];exact(ab.1 hi).1
    refine⟨hil,?_⟩;unfold Ie Ud at hi;grind
   have:=RdP.s (S:=λk=>S k\/k=w.heap.size) (w:=Lib.bytesWorld w e b) (some ⟨w.heap.size,0,none⟩) ⟨w.heap.size,0,none⟩ (grownCap w b.size 0 e) 1 (Ie b) (λi _=>.int .u8 (b.data.toList.getD i 0).toNat)
    (by rw[hlen];exact grownCap_ge _ _ _ _) (grownCap_le_maxLen _ _ _ _ (by simp[maxLen];omega)) (λh=>by cases h)
    (λrow hr=>by obtain⟨i,hi⟩:=bB hr;rw[(hget i row hi).2];rfl)
    (λi row hi j q hj=>by
     obtain⟨g1,g2⟩:=hget i row hi;subst g2;have hj0:j=0:=by have:=(ab.1 hj).1;simp at this;exact this
     subst hj0;refine⟨rfl,.inr rfl,?_⟩;rw[B1];have:=Lib.bytesWorld_cell w e b i g1;simpa using this)
    (λi row hi j q hj=>by
     obtain⟨g1,g2⟩:=hget i row hi;subst g2;have hj0:j=0:=by have:=(ab.1 hj).1;simp at this;exact this
     subst hj0;have hj':Pd.v (.int .u8 (b.data.toList.getD i 0).toNat)=q:=by simpa using hj
     rw[←hj'];exact .v (.int .u8 (b.data.toList.getD i 0).toNat) rfl)
   rw[hlen]at this;exact this
  .cases h
 .cases h
end
end Go.SL
namespace Go.SL
variable{x y:AV}{ts:Array TypeId}{cs vs xs:Array Value}{c:Cl}{f:Fn}{r1 rows:List (List Pd)}{tys:List (TypeId×Nat)}{args:List AV}{row:List Pd}{news vs2:fh}{b cap e e2 g i k len lo n o off s size sz2:Nat}{out:Out}{t ty:TypeId}{u v:Value}
section
variable{P:Program}{C:Ctx}{S S':Nat->Prop}{w w':World}{ρ ρ':fh}{R R':List Res}
theorem Inv.regroup(h:Inv C S w ρ R)(τ:Nat->Nat->Nat)(hlen:ρ'.length=R'.length)(hpre:Pre ρ ρ')
  (hok:∀(i:Nat) r v,R'[i]?=some r->ρ'[i]?=some v->r.ok S w' ρ' v)
  (hfoot:∀(j:Nat) r v b,R'[j]?=some r->ρ'[j]?=some v->r.foot v b->∃j0 r0 v0,τ j0 b=j/\R[j0]?=some r0/\ρ[j0]?=some v0/\r0.foot v0 b)
  (hfrm:∀b,¬Gt ρ R b->w'.heap[b]?=w.heap[b]?)(hsz:w'.heap.size=w.heap.size)(ho:w'.os=w.os)(ht:Tp w w')(hp:w'.output=w.output):Inv C S w' ρ' R' where
 len:=hlen
 ok:=hok
 dis i j r r' v v' b hij h1 h2 h3 h4 h5 h6:=by obtain⟨j0,r0,v0,e1,a1,a2,a3⟩:=hfoot i r v b h1 h3 h5;obtain⟨k0,q0,u0,e2,b1,b2,b3⟩:=hfoot j r' v' b h2 h4 h6;refine h.dis j0 k0 r0 q0 v0 u0 b (λe=>hij ?_) a1 b1 a2 b2 a3 b3;rw[←e1,←e2,e]
 own i r v b h1 h2 h3:=by obtain⟨j0,r0,v0,_,a1,a2,a3⟩:=hfoot i r v b h1 h2 h3;rw[hsz];exact h.own j0 r0 v0 b a1 a2 a3
 sub:=h.sub
 sup b hb:=by rw[hsz];exact h.sup b hb
 frm b hb hf:=by
  refine(hfrm b λ⟨i,r,v,h1,h2,h3⟩=>?_).trans (h.frm b hb hf);rcases(h.own i r v b h1 h2 h3).2.2 with k|k
  .exact hf k
  .omega
 size:=by rw[hsz];exact h.size
 os:=ho.trans h.os
 tape:=ht.trans h.tape
 output:=hp.trans h.output
 pre:=h.pre.trans hpre
 gl:=h.gl
theorem Ab3{α:Type}{l:List α}{x y z:α}(h:(l++[x,y])[i]?=some z):l[i]?=some z\/i=l.length/\z=x\/i=l.length+1/\z=y:=by grind
theorem Inv.takeOut(hI:Inv C S w ρ R){h:Value}
  (hi:R[i]?=some (.dsl e s g))(hg:R[g]?=some (.gh s tys rows none))(hρi:ρ[i]?=some h)(hρg:ρ[g]?=some (.func f xs cs))(hx:xs[k*s+off]?=some v)(ht:tys[off]?=some (e2,sz2))(hrow:rows[k]?=some row)(hoff:row[off]?=some (.s r1)) :
  Inv C S w (ρ++[.func f xs cs,v]) ((R.set g .non).set i (.dsl e s R.length)++[.gh s tys rows (some (k,off)),.sl e2 sz2 r1]):=by
 have hL:ρ.length=R.length:=hI.len;have hig:i≠g:=λe=>by subst e;rw[hi]at hg;cases hg
 have hil:i<R.length:=(ab.1 hi).1;have hgl:g<R.length:=(ab.1 hg).1;have hgo:gOk S w s tys rows none xs:=by obtain⟨f',xs',cs',k3,k4⟩:=(hI.ok g _ _ hg hρg).live rfl;cases k3;exact k4
 obtain⟨o1,o2,o3,o4⟩:=hgo;have nohole:∀q,¬G7 s none q:=λq ⟨p,hp,_⟩=>by cases hp
 obtain⟨v',hv',hcell⟩:=o3 k row hrow off _ hoff;rw[hx]at hv';cases hv';obtain⟨hone,hsl⟩:=hcell;obtain⟨e2',sz2',ht',hslok⟩:=hsl (nohole _);rw[ht]at ht';cases ht';have dist:∀(q:Nat) x b,q≠k*s+off->xs[q]?=some x->D6 x b->D6 v b->False:=by
  intro q x b hq hxq h1 h2;unfold D6 at h1 h2;split at h1
  .split at h2
   .exact o4 q (k*s+off) _ _ _ _ _ _ hq (nohole _) (nohole _) hxq hx (h1.trans h2.symm)
   .exact h2
  .exact h1
 have key:∀(j:Nat) r1' v1,((R.set g .non).set i (.dsl e s R.length))[j]?=some r1'->ρ[j]?=some v1->(j=i/\r1'=.dsl e s R.length/\h=v1)\/r1'=.non\/(j≠i/\j≠g/\R[j]?=some r1'):=by grind
 have lenR:((R.set g .non).set i (.dsl e s R.length)).length=R.length:=by simp
 have split2:∀(j:Nat) r1' v1,((R.set g .non).set i (.dsl e s R.length)++[.gh s tys rows (some (k,off)),.sl e2 sz2 r1])[j]?=some r1'->(ρ++[.func f xs cs,v])[j]?=some v1 ->
   (((R.set g .non).set i (.dsl e s R.length))[j]?=some r1'/\ρ[j]?=some v1)\/(j=R.length/\r1'=.gh s tys rows (some (k,off))/\v1=.func f xs cs)\/(j=R.length+1/\r1'=.sl e2 sz2 r1/\v=v1):=by
  intro j r1' v1 h1 h2;have hb:∀{j:Nat}{u:Value},ρ[j]?=some u->j<R.length:=λh=>by have:=(ab.1 h).1;omega
  have hb':∀{j:Nat}{u:Res},((R.set g .non).set i (.dsl e s R.length))[j]?=some u->j<R.length:=λh=>by have:=(ab.1 h).1;rw[lenR]at this;exact this
  rcases Ab3 h1 with h1|⟨e1,h1⟩|⟨e1,h1⟩ <;> rcases Ab3 h2 with h2|⟨e2,h2⟩|⟨e2,h2⟩
  .exact .inl ⟨h1,h2⟩
  .have:=hb' h1;omega
  .have:=hb' h1;omega
  .rw[lenR]at e1;have:=hb h2;omega
  .rw[lenR]at e1;exact .inr (.inl ⟨e1,h1,h2⟩)
  .rw[lenR]at e1;omega
  .rw[lenR]at e1;have:=hb h2;omega
  .rw[lenR]at e1;omega
  .rw[lenR]at e1;exact .inr (.inr ⟨e1,h1,h2.symm⟩)
 have hnew:(ρ++[.func f xs cs,v])[R.length]?=some (.func f xs cs):=by rw[←hL];simp
 classical
 refine hI.regroup (λj0 b=>if j0=g then (if D6 v b then R.length+1 else R.length) else j0) (by simp[hL]) (Pre.append _ _) ?_ ?_ (λ_ _=>rfl) rfl rfl ⟨rfl,λ_=>by first|exact ag _|exact aR _⟩ rfl
 .intro j r1' v1 h1 h2;rcases split2 j r1' v1 h1 h2 with⟨h1,h2⟩|⟨_,rfl,rfl⟩|⟨_,rfl,rfl⟩
  .rcases key j r1' v1 h1 h2 with⟨_,rfl,rfl⟩|rfl|⟨_,_,h1⟩
   .refine(hI.ok i _ _ hi hρi).imp id λ⟨f',xs',cs',a1,a2⟩=>?_;rw[hρg]at a1;cases a1;exact⟨f,xs,cs,hnew,a2⟩
   .exact .inr trivial
   .exact(hI.ok j _ _ h1 h2).mono (λ_ h=>h) (λ_ _=>rfl) (Pre.append _ _) (λ_ _=>rfl)
  .refine .inr ⟨f,xs,cs,rfl,o1,o2,λi2 row2 hi2 j2 d hj2=>?_,λk1 k2 a1 n1 c1 a2 n2 c2 h1 _ _ h4 h5=>o4 k1 k2 a1 n1 c1 a2 n2 c2 h1 (nohole _) (nohole _) h4 h5⟩;obtain⟨x,hx,hc⟩:=o3 i2 row2 hi2 j2 d hj2;refine⟨x,hx,?_⟩;cases d with
   |v y=>exact hc
   |s r=>exact⟨hc.1,λ_=>hc.2 (nohole _)⟩
  .exact .inr hslok
 .intro j r1' v1 b h1 h2 h3;rcases split2 j r1' v1 h1 h2 with⟨h1,h2⟩|⟨rfl,rfl,rfl⟩|⟨rfl,rfl,rfl⟩
  .rcases key j r1' v1 h1 h2 with⟨rfl,rfl,rfl⟩|rfl|⟨g1,g2,h1⟩
   .exact⟨j,_,_,by rw[eU hig],hi,hρi,h3⟩
   .exact h3.elim
   .exact⟨j,_,_,by rw[eU g2],h1,h2,h3⟩
  .obtain⟨q,x,q1,q2,q3⟩:=h3;refine⟨g,_,_,?_,hg,hρg,q,x,q1,nohole _,q3⟩;rw[eT rfl,eU];intro hv;exact dist q x b (λe=>q2 ⟨(k,off),rfl,e⟩) q1 q3 hv
  .refine⟨g,_,_,?_,hg,hρg,k*s+off,v,hx,nohole _,h3⟩;rw[eT rfl,eT];exact h3
theorem Agj{ts:List TypeId}(h:B4 P R c ts [.d (.os i),y]=some out)(hi:R[i]?=some (.sl e s rows)) :
  ∃b z m r',out.c=some (.app rows b z m r'):=by
 match ts,h with
 | [t,u],h=>simp only[B4,hi]at h;grind
 | [],h=>simp[B4]at h
 | [_],h=>simp[B4]at h
 |_::_::_::_,h=>simp[B4]at h
theorem Acp(hI:Inv C S w ρ R)(hv:Ap (RdA S w ρ) vs.toList [.d (.oi i g k size off),y])
  (h:Jr P R c ts.toList i g k size off y=some out)(hk:∀x,out.c=some x->x.ok P):∃v w' ρ',(Builtin.append_ ts ty vs).run P w=.ok v w'/\Dt C S w ρ out.R v out.v S w' ρ':=by
 unfold Jr at h;split at h
 .rename_i e s g' s2 tys rows q1 q2 row q3 r1 r2 sz n rows' hi hg;split at h
  .rename_i e2 sz2 ht;cases hb:((Nat.beq g g'&&Nat.beq s s2)&&(Nat.beq s size&&Nat.blt off s)) with
   |false=>rw[hb]at h;simp at h
   | true=>
    rw[hb]at h;simp only[eO]at h;simp only[ac]at hb;have e1:=aj hb.1.1;subst e1;have e1:=aj hb.1.2;subst e1;have e1:=aj hb.2.1;subst e1;split at h
    .rename_i v' R' a b z m r' hap;simp at h;subst h;obtain⟨v0,v1,hvs,r0,hy⟩:∃v0 v1,vs = #[v0,v1]/\RdA S w ρ v0 (.d (.oi i g k s off))/\RdA S w ρ v1 y:=by
      obtain⟨l⟩:=vs
      match l,hv with
      | [v0,v1],hv=>exact⟨v0,v1,rfl,hv.1,hv.2.1⟩
      | [],hv=>exact hv.elim
      | [_],hv=>exact hv.2.elim
      |_::_::_::_,hv=>exact hv.2.2.elim
     subst hvs;have hlen:((R.set g .non).set i (.dsl e s R.length)++[Res.gh s tys rows (some (k,off)),.sl e2 sz2 r1])[R.length+1]?=some (.sl e2 sz2 r1):=by rw[aW (by simp)];simp
     obtain⟨b0,z0,m0,r0',hc⟩:=Agj hap hlen;simp at hc;obtain⟨rfl,_⟩:=hc;obtain⟨⟨k1,k2⟩,k3⟩:=hk _ rfl;have hone:=r0.d_inv.one;cases r0.d_inv with
     | @oi _ _ _ _ _ f xs cs _ hρg hx h1=>
      have hρi:∃h,ρ[i]?=some h:=hI.rho hi;obtain⟨hh,hρi⟩:=hρi;have hT:=hI.takeOut hi hg hρi hρg hx ht k1 k2;have hat:(ρ++[Value.func f xs cs,v0])[R.length+1]?=some v0:=by rw[←hI.len,aW (by simp)];simp
      obtain⟨v,w',ρ',hr,hA⟩:=O4 (ty:=ty) (vs:=#[v0,v1]) hT (args:=[.d (.os (R.length+1)),y]) ⟨.d (.os hat hone),hy.mono (λ_ h=>h) (λ_ _=>rfl) (Pre.append _ _),trivial⟩ hap (λx hx=>by simp at hx;subst hx;exact k3);exact⟨v,w',ρ',hr,hA.inv,hA.sub,hA.same,(Pre.append _ _).trans hA.pre,hA.rd⟩
    .cases h
  .cases h
 .cases h
theorem Ho(hl:o+news.length<=vs.size)(q:Nat) :
  ((vs.toList.take o++news++vs.toList.drop (o+news.length)).toArray)[q]?=if q<o then vs[q]? else if q<o+news.length then news[q-o]? else vs[q]?:=by
 grind
theorem Ge(hl:o+news.length<=vs.size):((vs.toList.take o++news++vs.toList.drop (o+news.length)).toArray).size=vs.size:=by grind
theorem Aiz(h:Qt S w e s rows v)(hf:D6 v b):∃vs,Blk w b vs e:=by
 rcases h with⟨h1,_⟩|⟨b',o,cap,vs,h1,h2,_⟩
 .subst h1;exact hf.elim
 .subst h1;cases hf;exact⟨vs,h2⟩
theorem Inv.putBack(hI:Inv C S w ρ R){m:Nat}(hcells:u.cells.toList=[v])
  (hi:R[i]?=some (.dsl e s g))(hg:R[g]?=some (.gh s tys rows (some (k,off))))(hm:R[m]?=some (.sl e2 sz2 r1))(hρi:ρ[i]?=some (.slice (some ⟨b,o,none⟩) len cap))(hρg:ρ[g]?=some (.func f xs cs))(hρm:ρ[m]?=some v)(hv1:v.oneCell'=true)
  (ht:tys[off]?=some (e2,sz2))(hrow:rows[k]?=some row)(hos:off<s)(hn:A9 P t=some 1) :
  ∃w' ρ',(storeVar t ⟨b,o+k*s+off,none⟩ u).run P w=.ok () w' /\
   Dt C S w ρ ((((R.set m .non).set g .non).set i (.dsl e s R.length))++[.gh s tys (rows.set k (row.take off++(.s r1::row.drop (off+1)))) none]) undef (.tup []) S w' ρ':=by
 have hL:ρ.length=R.length:=hI.len;have hig:i≠g:=λe=>by subst e;rw[hi]at hg;cases hg
 have him:i≠m:=λe=>by subst e;rw[hi]at hm;cases hm
 have hgm:g≠m:=λe=>by subst e;rw[hg]at hm;cases hm
 have hgo:gOk S w s tys rows (some (k,off)) xs:=by obtain⟨f',xs',cs',k3,k4⟩:=(hI.ok g _ _ hg hρg).live rfl;cases k3;exact k4
 obtain⟨o1,o2,o3,o4⟩:=hgo;have hrl:row.length=s:=o1 row (ae hrow);have hkl:k<rows.length:=(ab.1 hrow).1;obtain⟨vs,hb,hlc,hcm,hfit,hxs,hcp⟩:∃vs,w.heap[b]?=some (.cells vs e (0,0))/\len<=cap/\cap<=maxLen/\o+cap*s<=vs.size/\xs.size=len*s/\∀(k:Nat) x,xs[k]?=some x->vs[o+k]?=some x:=by
  obtain⟨f',xs',cs',a1,a2⟩:=(hI.ok i _ _ hi hρi).live rfl;rw[hρg]at a1;cases a1;rcases a2 with⟨a2,_⟩|⟨b',o',len',cap',vs,a2,a3,a4,a5,a6,a7,a8⟩
  .cases a2
  .cases a2;exact⟨vs,a3,a4,a5,a6,a7,a8⟩
 have hs0:0<s:=by omega
 have hlen:len=rows.length:=Nat.eq_of_mul_eq_mul_right hs0 (hxs.symm.trans o2);subst hlen;have hks:k*s+off<rows.length*s:=by have:(k+1)*s<=rows.length*s:=bi _ hkl;rw[aM,ci]at this;omega
 have hkc:k*s+off<cap*s:=aQ hks (bi _ hlc);have hbound:o+k*s+off+[v].length<=vs.size:=by simp;omega
 have hrun:=Ma (P:=P) (w:=w) (t:=t) (v:=u) (n:=1) (g:=b) (o:=o+k*s+off) (u:=e) (cur:=vs) hn (by have:=congrArg List.length hcells;simpa using this) (.of hb) (by simpa using hbound) (by rw[hcells];intro x hx;simp at hx;subst hx;exact hv1);rw[hcells]at hrun;refine⟨_,ρ++[.func f (xs.set! (k*s+off) v) cs],hrun,?_⟩;generalize hw':w.setRow b (vs.toList.take (o+k*s+off)++[v]++vs.toList.drop (o+k*s+off+[v].length)).toArray=w';have hoth:∀q,q≠b->w'.heap[q]?=w.heap[q]?:=λq hq=>by rw[←hw'];exact A_ _ _ _ _ hq
 have hsame:w'.heap[b]?=some (.cells (vs.toList.take (o+k*s+off)++[v]++vs.toList.drop (o+k*s+off+[v].length)).toArray e (0,0)):=by rw[←hw'];exact Cs _ _ _ _ _ _ hb
 have hown:=hI.own i _ _ b hi hρi rfl;have hS:∀q,S q->w'.heap[q]?=w.heap[q]?:=λq hq=>hoth q λe=>hown.1 (e ▸ hq);have hnew:(ρ++[Value.func f (xs.set! (k*s+off) v) cs])[R.length]?=some (.func f (xs.set! (k*s+off) v) cs):=by rw[←hL];simp
 have xget:∀q,(xs.set! (k*s+off) v)[q]?=if q=k*s+off then some v else xs[q]?:=by
  intro q;rw[Array.set!_eq_setIfInBounds,Array.getElem?_setIfInBounds];by_cases hq:q=k*s+off
  .subst hq;simp;omega
  .rw[eU (λe=>hq e.symm),eU hq]
 have nohole:∀q,¬G7 s none q:=λq ⟨p,hp,_⟩=>by cases hp
 have hole:∀q,G7 s (some (k,off)) q↔q=k*s+off:=λq=>⟨λ⟨p,hp,he⟩=>by cases hp;exact he,λh=>⟨_,rfl,h⟩⟩;have key:∀(j:Nat) r1' v1,(((R.set m .non).set g .non).set i (.dsl e s R.length))[j]?=some r1'->ρ[j]?=some v1->(j=i/\r1'=.dsl e s R.length)\/r1'=.non\/(j≠i/\j≠g/\j≠m/\R[j]?=some r1'):=by
  intro j r1' v1 h1 h2;rw[aK]at h1;split at h1
  .rename_i he;subst he;split at h1
   .cases h1;exact .inl ⟨rfl,rfl⟩
   .cases h1
  .rename_i he;rw[aK]at h1;split at h1
   .split at h1
    .cases h1;exact .inr (.inl rfl)
    .cases h1
   .rename_i he2;rw[aK]at h1;split at h1
    .split at h1
     .cases h1;exact .inr (.inl rfl)
     .cases h1
    .rename_i he3;exact .inr (.inr ⟨λe=>he e.symm,λe=>he2 e.symm,λe=>he3 e.symm,h1⟩)
 have hslm:Qt S w e2 sz2 r1 v:=(hI.ok m _ _ hm hρm).live hv1;have mb:∀q,D6 v q->q≠b:=λq hq e=>hI.dis m i _ _ _ _ q (Ne.symm him) hm hi hρm hρi hq e.symm;have gb:∀(p:Nat) x q,xs[p]?=some x->p≠k*s+off->D6 x q->q≠b:=λp x q hx hp hq e=>hI.dis g i _ _ _ _ q (Ne.symm hig) hg hi hρg hρi ⟨p,x,hx,λh=>hp ((hole p).1 h),hq⟩ e.symm;have mg:∀(p:Nat) x q,xs[p]?=some x->p≠k*s+off->D6 x q->D6 v q->False:=λp x q hx hp hq h2=>hI.dis m g _ _ _ _ q (Ne.symm hgm) hm hg hρm hρg h2 ⟨p,x,hx,λh=>hp ((hole p).1 h),hq⟩;refine⟨hI.regroup (λj0 _=>if j0=g\/j0=m then R.length else j0) (by simp[hL]) (Pre.append _ _) ?_ ?_ ?_ ?_ ?_ ?_ ?_,λ_ h=>h,hS,Pre.append _ _,.tup (vs:=[]) rfl (by simp)⟩
 .intro j r1' v1 h1 h2;rcases Dc h1 with h1|⟨e1,rfl⟩
  .have hjl:j<R.length:=by have:=(ab.1 h1).1;simpa using this
   have h2:ρ[j]?=some v1:=by rw[aJ (by omega)]at h2;exact h2
   rcases key j r1' v1 h1 h2 with⟨rfl,rfl⟩|rfl|⟨g1,g2,g3,h1⟩
   .rw[hρi]at h2;cases h2;refine .inr ⟨f,_,cs,hnew,.inr ⟨b,o,rows.length,cap,_,rfl,hsame,hlc,hcm,?_,?_,λq x hx=>?_⟩⟩
    .rw[Ge hbound];exact hfit
    .rw[Array.set!_eq_setIfInBounds,Array.size_setIfInBounds];exact hxs
    .rw[Ho hbound];rw[xget]at hx;by_cases hq:q=k*s+off
     .subst hq;rw[eT rfl]at hx;rw[eU (by omega),eT (by simp;omega),←hx,show o+(k*s+off)-(o+k*s+off)=0 from by omega];rfl
     .rw[eU hq]at hx;split
      .exact hcp q x hx
      .rw[eU (by simp;omega)];exact hcp q x hx
   .exact .inr trivial
   .exact(hI.ok j _ _ h1 h2).mono (λ_ h=>h) hS (Pre.append _ _) λq hq=>hoth q λe=>hI.dis j i _ _ _ _ q g1 h1 hi h2 hρi hq e.symm
  .simp at e1;subst e1;rw[hnew]at h2;cases h2;refine .inr ⟨f,_,cs,rfl,λl hl=>?_,?_,λi2 row2 hi2 j2 d hj2=>?_,λk1 k2 a1 n1 c1 a2 n2 c2 h12 _ _ h4 h5=>?_⟩
   .rcases cM hl with h|h
    .exact o1 l h
    .subst h;simp;omega
   .rw[Array.set!_eq_setIfInBounds,Array.size_setIfInBounds,bA];exact o2
   .have hi2l:i2<rows.length:=by have:=(ab.1 hi2).1;simpa using this
    have hj2l:j2<s:=by
     have:row2.length=s:=by
      rcases cM (ae hi2) with h|h
      .exact o1 _ h
      .subst h;simp;omega
     rw[←this];exact(ab.1 hj2).1
    have hmono:∀{x:Value}{d:Pd},xs[i2*s+j2]?=some x->i2*s+j2≠k*s+off->Ajq S w tys j2 (G7 s (some (k,off)) (i2*s+j2)) x d->Ajq S w' tys j2 (G7 s none (i2*s+j2)) x d:=by
     intro x d hx hne hc;cases d with
     |v y=>exact hc
     |s r=>refine⟨hc.1,λ_=>?_⟩;obtain⟨e',s',h1,h2⟩:=hc.2 λh=>hne ((hole _).1 h);exact⟨e',s',h1,h2.mono (λ_ h=>h) hS λq hq=>hoth q (gb _ x q hx hne hq)⟩
    by_cases hik:i2=k
    .subst hik;rw[bH hi2l]at hi2;cases hi2;rcases bM j2 off with hj1|hj1|hj1
     .rw[aJ (by simp;omega),ax,eT hj1]at hj2;obtain⟨x,hx,hc⟩:=o3 i2 row hrow j2 d hj2;have hne:i2*s+j2≠i2*s+off:=by omega
      exact⟨x,by rw[xget,eU hne];exact hx,hmono hx hne hc⟩
     .subst hj1;rw[aW (by rw[aT];omega)]at hj2;rw[show j2-(row.take j2).length=0 from by rw[aT];omega]at hj2;simp at hj2;subst hj2;exact⟨v,by rw[xget,eT rfl],hv1,λ_=>⟨e2,sz2,ht,hslm.mono (λ_ h=>h) hS λq hq=>hoth q (mb q hq)⟩⟩
     .rw[aW (by simp;omega)]at hj2;rw[show j2-(row.take off).length=(j2-off-1)+1 from by simp;omega,cG,ay,show off+1+(j2-off-1)=j2 from by omega]at hj2;obtain⟨x,hx,hc⟩:=o3 i2 row hrow j2 d hj2;have hne:i2*s+j2≠i2*s+off:=by omega
      exact⟨x,by rw[xget,eU hne];exact hx,hmono hx hne hc⟩
    .rw[bS (Ne.symm hik)]at hi2;obtain⟨x,hx,hc⟩:=o3 i2 row2 hi2 j2 d hj2;have hne:i2*s+j2≠k*s+off:=by
      rcases Nat.lt_or_gt_of_ne hik with h|h
      .have:(i2+1)*s<=k*s:=bi _ h;rw[aM,ci]at this;omega
      .have:(k+1)*s<=i2*s:=bi _ h;rw[aM,ci]at this;omega
     exact⟨x,by rw[xget,eU hne];exact hx,hmono hx hne hc⟩
   .rw[xget]at h4 h5;by_cases e1:k1=k*s+off
    .rw[eT e1]at h4;have e2:k2≠k*s+off:=λe=>h12 (e1.trans e.symm);rw[eU e2]at h5;intro hbb;cases h4;exact mg k2 _ a2.block h5 e2 rfl hbb
    .rw[eU e1]at h4;by_cases e2:k2=k*s+off
     .rw[eT e2]at h5;intro hbb;cases h5;exact mg k1 _ a1.block h4 e1 rfl hbb.symm
     .rw[eU e2]at h5;exact o4 k1 k2 a1 n1 c1 a2 n2 c2 h12 (λh=>e1 ((hole _).1 h)) (λh=>e2 ((hole _).1 h)) h4 h5
 .intro j r1' v1 q h1 h2 h3;rcases Dc h1 with h1|⟨e1,rfl⟩
  .have hjl:j<R.length:=by have:=(ab.1 h1).1;simpa using this
   have h2:ρ[j]?=some v1:=by rw[aJ (by omega)]at h2;exact h2
   rcases key j r1' v1 h1 h2 with⟨rfl,rfl⟩|rfl|⟨g1,g2,g3,h1⟩
   .exact⟨j,_,_,by rw[eU (by simp[hig,him])],hi,h2,h3⟩
   .exact h3.elim
   .exact⟨j,_,_,by rw[eU (by simp[g2,g3])],h1,h2,h3⟩
  .simp at e1;subst e1;rw[hnew]at h2;cases h2;obtain⟨p,x,p1,_,p3⟩:=h3;rw[xget]at p1;by_cases hp:p=k*s+off
   .rw[eT hp]at p1;cases p1;exact⟨m,_,_,by rw[eT (.inr rfl)],hm,hρm,p3⟩
   .rw[eU hp]at p1;exact⟨g,_,_,by rw[eT (.inl rfl)],hg,hρg,p,x,p1,λh=>hp ((hole p).1 h),p3⟩
 .intro q hq;exact hoth q λe=>hq ⟨i,_,_,hi,hρi,e.symm⟩
 .rw[←hw'];simp
 .rw[←hw'];rfl
 .rw[←hw'];exact⟨rfl,λ_=>ag _⟩
 .rw[←hw'];rfl
theorem Inv.putRun(hI:Inv C S w ρ R){l cp:Nat}{e:TypeId}{news:List (List Pd)}(hi:R[i]?=some (.sl e s rows))(hρ:ρ[i]?=some (.slice (some ⟨b,o,none⟩) l cp))
  (hv:Ap (RdP S w) vs2 news.flatten)(hu:∀l,l∈news->l.length=s)(hb:lo+news.length<=rows.length) :
  ∃w',(storeCells ⟨b,o+lo*s,none⟩ vs2).run P w=.ok () w'/\Inv C S w' ρ (R.set i (.sl e s (rows.take lo++(news++rows.drop (lo+news.length)))))/\(∀k,S k->w'.heap[k]?=w.heap[k]?):=by
 rcases Pi.1 ((hI.ok i _ _ hi hρ).live rfl) with⟨h3,_⟩|⟨b',o',cp',vs,h3,hbk,hcap,hmx,hfit,hlen,hcells⟩
 .cases h3
 .cases h3;have hvl:vs2.length=news.length*s:=by rw[hv.length,Dj hu]
  have hle:(lo+news.length)*s<=rows.length*s:=bi _ hb;have hle2:rows.length*s<=cp*s:=bi _ hcap;rw[aM]at hle;have hbound:o+lo*s+vs2.length<=vs.size:=by omega
  refine⟨_,H1 hbk hbound (X5 hv),?_,λq hq=>A_ _ _ _ _ λe=>(hI.own i _ _ b hi hρ rfl).1 (e ▸ hq)⟩;have ob:=hI.own i _ _ b hi hρ rfl;refine hI.put hi hρ (b:=b) rfl (λk hk=>by simp[Res.foot]at hk;exact hk.symm) (λk hk=>A_ _ _ _ _ hk) (by simp) rfl ⟨rfl,λ_=>by first|exact ag _|exact aR _⟩ rfl (.inr (Pi.2 (.inr ⟨b,o,cp,_,?_,hbk.put (Ge hbound),?_,hmx,?_,?_,?_⟩)))
  .have:(rows.take lo++(news++rows.drop (lo+news.length))).length=rows.length:=by simp;omega
   rw[this]
  .have:(rows.take lo++(news++rows.drop (lo+news.length))).length=rows.length:=by simp;omega
   rw[this];exact hcap
  .rw[Ge hbound];exact hfit
  .intro r hr;rcases ao.1 hr with hr|hr
   .exact hlen r (be hr)
   .rcases ao.1 hr with hr|hr
    .exact hu r hr
    .exact hlen r (cC hr)
  .have hrl:(rows.take lo++(news++rows.drop (lo+news.length))).length=rows.length:=by simp;omega
   rw[hrl,cv,cv];have hS:∀k,S k->(w.setRow b (vs.toList.take (o+lo*s)++vs2++vs.toList.drop (o+lo*s+vs2.length)).toArray).heap[k]?=w.heap[k]?:=λq hq=>A_ _ _ _ _ λe=>ob.1 (e ▸ hq);have e1:((vs.toList.take (o+lo*s)++vs2++vs.toList.drop (o+lo*s+vs2.length)).drop o).take (rows.length*s) =
     ((vs.toList.drop o).take (rows.length*s)).take (lo*s)++(vs2++((vs.toList.drop o).take (rows.length*s)).drop ((lo+news.length)*s)):=by
    apply bj;intro q;have hg:=Ho hbound (o+q);simp only[cF]at hg;rw[ax,ay,hg];have hq1:(((vs.toList.drop o).take (rows.length*s)).take (lo*s)).length=lo*s:=by simp only[aT,bV,cN];omega
    rcases bc q (lo*s) with hq|hq
    .rw[aJ (by rw[hq1];exact hq),ax,eT hq,ax,eT (by omega),eT (by omega),eT (by omega),ay];simp
    .rw[aW (by rw[hq1];exact hq),hq1];rcases bc q (lo*s+vs2.length) with hq2|hq2
     .rw[aJ (by omega),eT (by omega),eU (by omega),eT (by omega)];congr 1;omega
     .rw[aW (by omega),ay,ax,aM];rw[show lo*s+news.length*s+(q-lo*s-vs2.length)=q from by omega];split
      .rw[eU (by omega),eU (by omega),ay];simp
      .rfl
   rw[e1];have ft:∀n,n<=rows.length->(rows.take n).flatten=rows.flatten.take (n*s):=by
    intro n hn;have h1:=Dj (λl hl=>hlen l (be (i:=n) hl));rw[aT,cw hn]at h1;have h2:rows.flatten=(rows.take n).flatten++(rows.drop n).flatten:=by rw[←cv,bP]
    rw[h2,←h1];exact(List.take_left).symm
   have fd:∀n,n<=rows.length->(rows.drop n).flatten=rows.flatten.drop (n*s):=by
    intro n hn;have h1:=Dj (λl hl=>hlen l (be (i:=n) hl));rw[aT,cw hn]at h1;have h2:rows.flatten=(rows.take n).flatten++(rows.drop n).flatten:=by rw[←cv,bP]
    rw[h2,←h1];exact(List.drop_left).symm
   rw[ft lo (by omega),fd (lo+news.length) hb];exact((hcells.take _).append (hv.append (hcells.drop _))).mono λ_ _ h=>h.mono (λ_ h=>h) hS
theorem Anr(hI:Inv C S w ρ R){o:Oper}{ds:List D}(h:Tv R c o i k size off ds n=some out)(hk:∀x,out.c=some x->x.ok P) 
  (hv:Ap (Rd S w ρ) u.cells.toList ds)(hn:A9 P t=some n){p:Nat}(hρ:ρ[i]?=some (.slice (some ⟨b,p,none⟩) len cap)) :
  o.dst=none/\∃w' ρ',(storeVar t ⟨b,p+k*size+off,none⟩ u).run P w=.ok () w'/\Dt C S w ρ out.R undef out.v S w' ρ':=by
 unfold Tv at h;split at h
 .rename_i e s g m q1 q2 q3 row q4 rows' hi;split at h
  .rename_i s2 tys rows k0 off0 e2 sz2 r1 hg hm;split at h
   .rename_i e3 sz3 ht;cases hb:(Nat.beq s size&&Nat.beq s s2)&&((Nat.beq off off0&&Nat.beq n 1)&&((Nat.blt off s&&o.dst.isNone)&&(Nat.beq e2 e3&&Nat.beq sz2 sz3))) with
    |false=>rw[hb]at h;simp at h
    | true=>
     rw[hb]at h;simp only[eO,al]at h;subst h;simp only[ac]at hb;obtain⟨⟨b1,b2⟩,⟨b3,b4⟩,⟨b5,b6⟩,b7,b8⟩:=hb;have h1:=aj b1;subst h1;have h1:=aj b2;subst h1;have h1:=aj b3;subst h1;have h1:=aj b4;subst h1;have h1:e2=e3:=aj b7;subst h1;have h1:=aj b8;subst h1;have hos:off<s:=by simpa[e_]using b5
     have hdst:o.dst=none:=by cases hd:o.dst <;> simp[hd]at b6;rfl
     obtain⟨k1,k2,k3⟩:=hk _ rfl;subst k1;subst k3;obtain⟨v,hcells,hr⟩:∃v,u.cells.toList=[v]/\Rd S w ρ v (.os m):=by
      generalize u.cells.toList=l at hv
      match l,hv with
      | [v],hv=>exact⟨v,rfl,hv.1⟩
      | [],hv=>exact hv.elim
      |_::_::_,hv=>exact hv.2.elim
     obtain⟨f,xs,cs,hρg⟩:∃f xs cs,ρ[g]?=some (.func f xs cs):=by obtain⟨f',xs',cs',a1,_⟩:=(hI.ok i _ _ hi hρ).live rfl;exact⟨f',xs',cs',a1⟩
     exact⟨hdst,hI.putBack hcells hi hg hm hρ hρg hr.os_inv hr.one ht k2 hos hn⟩
   .cases h
  .cases h
 .cases h
theorem An7(hI:Inv C S w ρ R)(hr:RdA S w ρ v x)(h:Vy R x=some (i,lo,n,s)){s2:Nat}(hi:R[i]?=some (.sl e s2 rows)) :
  ∃a c,v=.slice a n c/\lo+n<=rows.length/\(n=0\/(s=s2->∃b o l cp,ρ[i]?=some (.slice (some ⟨b,o,none⟩) l cp)/\a=some ⟨b,o+lo*s,none⟩)):=by
 unfold Vy at h;split at h
 .rename_i j;split at h
  .rename_i q s3 rows3 hj;simp at h;obtain⟨rfl,rfl,rfl,rfl⟩:=h;rw[hi]at hj;cases hj;have hρ:=hr.d_inv.os_inv;rcases(hI.ok _ _ _ hi hρ).live hr.d_inv.one with⟨h1,h2⟩|⟨b,o,cap,vs,h1,_⟩
   .exact⟨none,0,by rw[h1,h2];rfl,by omega,.inl (by rw[h2];rfl)⟩
   grind
  .cases h
 .rename_i j lo' n' s';simp at h;obtain⟨rfl,rfl,rfl,rfl⟩:=h;have hr':=hr.d_inv;cases hr' with
  | @osb _ _ _ _ q a len cap hρ hl hc hq hq2=>
   rcases(hI.ok _ _ _ hi hρ).live rfl with⟨h1,h2⟩|⟨b,o,cap',vs,h1,_,h3,_⟩
   .cases h1;subst h2;exact⟨_,_,rfl,hl,.inl (by omega)⟩
   .cases h1;refine⟨_,_,rfl,hl,?_⟩;by_cases hn:n'=0
    .exact .inl hn
    .refine .inr λ_=>⟨b,o,_,_,hρ,?_⟩;rw[hq2 (by omega)];simp[B1]
 .cases h
theorem Aj3(hI : Inv C S w ρ R)(hv : Ap (RdA S w ρ) vs.toList args)(h : Pz P R c ts.toList args = some out)
  (hk:∀x,out.c=some x->x.ok P):∃v w',(Builtin.clear_ ts ty vs).run P w=.ok v w'/\Dt C S w ρ out.R v out.v S w' ρ:=by
 unfold Pz at h;split at h
 .rename_i ts' t x hts;split at h
  .rename_i e ht;split at h
   .rename_i size zd i lo n s hs hz hd;split at h
    .rename_i zs e' s2 rows q1 rows' hdp hi;cases hb:(Nat.beq s s2&&Nat.beq s (size+1))&&Nat.beq zs.length (size+1) with
     |false=>rw[hb]at h;simp at h
     | true=>
      rw[hb]at h;simp only[eO,al]at h;subst h;simp only[ac]at hb;have h1:=aj hb.1.1;subst h1;have h1:=aj hb.1.2;subst h1;have hzl:=aj hb.2;have k1:=hk _ rfl;have k1:rows.take lo++(List.replicate n (zs.map Pd.nz)++rows.drop (lo+n))=rows':=k1;subst k1;obtain⟨v0,hvs,r0⟩:∃v0,vs = #[v0]/\RdA S w ρ v0 x:=by
       obtain⟨l⟩:=vs
       match l,hv with
       | [v0],hv=>exact⟨v0,rfl,hv.1⟩
       | [],hv=>exact hv.elim
       |_::_::_,hv=>exact hv.2.elim
      have htsa:ts = #[t]:=by obtain⟨l⟩:=ts;simp at hts;rw[hts]
      subst hvs;subst htsa;obtain⟨z,hz1,hz2⟩:=Cj hz;obtain⟨a,cc,rfl,hle,hcase⟩:=An7 hI r0 hd hi;have hstay:∀(R2:List Res),R2=R->Dt C S w ρ R2 (.tuple #[]) (.tup []) S w ρ:=λR2 h=>by subst h;exact⟨hI,λ_ h=>h,λ_ _=>rfl,Pre.refl _,.tup (vs:=[]) rfl (by simp)⟩
      by_cases hn:n=0
      .subst hn;refine⟨.tuple #[],w,?_,hstay _ ?_⟩
       .cases a <;> simp[Builtin.clear_,eR ht]
       .simp;apply bj;intro j;rw[aK];split
        .rename_i hj;subst hj;rw[eT (ab.1 hi).1,hi]
        .rfl
      .rcases hcase with hcase|hcase
       .exact absurd hcase hn
       .obtain⟨b,o,l,cp,hρ,rfl⟩:=hcase rfl;have hzc:=Ir (S:=S) (w:=w) (ρ:=ρ) hz2;have hzp:=dD (T2 hdp hzc);have hfl:Ap (RdP S w) (Builtin.zeroCells z.cells n).toList (List.replicate n (zs.map Pd.nz)).flatten:=by
         rw[show (Builtin.zeroCells z.cells n).toList=Du n z.cells.toList from Na _ _];exact P6 hzp n
        obtain⟨w',hr,hI',hS⟩:=hI.putRun (P:=P) (lo:=lo) hi hρ hfl (λl hl=>by rw[cj hl];simpa using hzl) (by simpa using hle);simp only[List.length_replicate]at hI';refine⟨.tuple #[],w',?_,hI',λ_ h=>h,hS,Pre.refl _,.tup (vs:=[]) rfl (by simp)⟩;obtain⟨n,rfl⟩:∃m,n=m+1:=⟨n-1,by omega⟩;simp[Builtin.clear_,eR ht,Ga hz1,hr]
    .cases h
   .cases h
  .cases h
 .cases h
theorem Anz(hI : Inv C S w ρ R)(hv : Ap (RdA S w ρ) vs.toList args)(h : Tx P R c ts.toList args = some out)
  (hk:∀x,out.c=some x->x.ok P):∃v w',(Builtin.copy_ ts ty vs).run P w=.ok v w'/\Dt C S w ρ out.R v out.v S w' ρ:=by
 unfold Tx at h;split at h
 .rename_i ts' t tr x y hts;split at h
  .rename_i e ht;split at h
   .rename_i size i lo n s hs hd;split at h
    .rename_i src e' s2 rows q1 q2 q3 m q4 rows' hsrc hi;cases hb:Nat.beq s s2&&Nat.beq s (size+1) with
     |false=>rw[hb]at h;simp at h
     | true=>
      rw[hb]at h;simp only[eO,al]at h;subst h;simp only[ac]at hb;have h1:=aj hb.1;subst h1;have h1:=aj hb.2;subst h1;obtain⟨k1,k2,k3⟩:=hk _ rfl;subst k3;subst k1;obtain⟨v0,v1,hvs,r0,r1⟩:∃v0 v1,vs = #[v0,v1]/\RdA S w ρ v0 x/\RdA S w ρ v1 y:=by
       obtain⟨l⟩:=vs
       match l,hv with
       | [v0,v1],hv=>exact⟨v0,v1,rfl,hv.1,hv.2.1⟩
       | [],hv=>exact hv.elim
       | [_],hv=>exact hv.2.elim
       |_::_::_::_,hv=>exact hv.2.2.elim
      have htsa:ts[0]?=some t:=by obtain⟨l⟩:=ts;simp at hts;simp[hts]
      subst hvs;obtain⟨a,cc,rfl,hle,hcase⟩:=An7 hI r0 hd hi;have hm:Nat.min src.length n<=src.length:=Nat.min_le_left _ _;have hmn:Nat.min src.length n<=n:=Nat.min_le_right _ _;obtain⟨b2,c2,news,hform,hfc,hall⟩:=vZ (P:=P) hI r1 hsrc k2 hm;subst hform;have hfc:=hfc w λ_=>rfl;have hnl:news.toList.length=Nat.min src.length n*(size+1):=by have h1:=hall.length;rw[Dj (λl hl=>k2 l (be hl)),aT,cw hm]at h1;exact h1
      by_cases hn:n=0
      .subst hn;have h0:Nat.min src.length 0=0:=Nat.min_zero _;have hsame:R.set i (.sl e' (size+1) (rows.take lo++(src.take (Nat.min src.length 0)++rows.drop (lo+Nat.min src.length 0))))=R:=by
        rw[h0];simp;apply bj;intro j;rw[aK];split
        .rename_i hj;subst hj;rw[eT (ab.1 hi).1,hi]
        .rfl
       refine⟨.int .i64 (Nat.min src.length 0:Nat),w,?_,by rw[hsame];exact hI,λ_ h=>h,λ_ _=>rfl,Pre.refl _,Dx rfl⟩;rw[h0]at hfc hnl;have hnil:news.toList=[]:=bK (by simpa using hnl);cases a <;> simp[Builtin.copy_,htsa,eR ht,Builtin.lenOf,Bt hs,hfc,hnil,storeCells,goInt]
      .rcases hcase with hcase|hcase
       .exact absurd hcase hn
       .obtain⟨b,o,l,cp,hρ,rfl⟩:=hcase rfl;obtain⟨w',hr,hI',hS⟩:=hI.putRun (P:=P) (lo:=lo) hi hρ hall (λl hl=>k2 l (be hl)) (by rw[aT,cw hm];omega);rw[aT,cw hm]at hI';have hcap:n<=maxLen:=by
         rcases(hI.ok _ _ _ hi hρ).live rfl with⟨h1,h2⟩|⟨b',o',cap',vs',h1,_,h3,h4,_⟩
         .cases h1
         .cases h1;omega
        have hw0:IntKind.i64.wrap (Nat.min src.length n:Nat)=(Nat.min src.length n:Nat):=IntWalk.i64_in _ (by unfold maxLen at hcap;omega);refine⟨.int .i64 (Nat.min src.length n:Nat),w',?_,hI',λ_ h=>h,hS,Pre.refl _,Dx rfl⟩;simp[Builtin.copy_,htsa,eR ht,Builtin.lenOf,Bt hs,hfc,hr,goInt]
    .cases h
   .cases h
  .cases h
 .cases h
theorem Agi{ts:List TypeId}(h:B4 P R c ts [.d (.os i),y]=some out)(hi:R[i]?=some (.sl e s rows)) :
  ∃e' s' rows',out.R=R.set i .non++[.sl e' s' rows']:=by
 match ts,h with
 | [t,u],h=>simp only[B4,hi]at h;grind
 | [],h=>simp[B4]at h
 | [_],h=>simp[B4]at h
 |_::_::_::_,h=>simp[B4]at h
theorem Tz{ts:List TypeId}(h:L5 P R c ts i n s y=some out):∃r,out.R=R.set i .non++[.non,r]:=by
 unfold L5 at h;split at h
 .rename_i e s' rows hi;cases hb:Nat.beq s' s with
  |false=>rw[hb]at h;simp at h
  | true=>
   rw[hb]at h;simp only[eO]at h;obtain⟨e2,s2,r2,hr⟩:=Agi h (e:=e) (s:=s') (rows:=rows.take n) (by grind);refine⟨.sl e2 s2 r2,?_⟩
   .rw[hr,List.set_append_right _ _ (by simp)];simp only[bA,Nat.sub_self,List.set_cons_zero];rw[aP];rfl
 .cases h
theorem Acn(hI : Inv C S w ρ R)(hv : Ap (RdA S w ρ) vs.toList [.d (.osb i 0 n s), y])
  (h:L5 P R c ts.toList i n s y=some out)(hk:∀x,out.c=some x->x.ok P):∃v w' ρ',(Builtin.append_ ts ty vs).run P w=.ok v w'/\Dt C S w ρ out.R v out.v S w' ρ':=by
 unfold L5 at h;split at h
 .rename_i e s' rows hi;cases hb:Nat.beq s' s with
  |false=>rw[hb]at h;simp at h
  | true=>
   rw[hb]at h;simp only[eO]at h;have hss:=aj hb;subst hss;obtain⟨vl,hvl⟩:∃l,l=vs.toList:=⟨_,rfl⟩;rw[←hvl]at hv
   match vl,hv with
   | [x, z], hv =>
    obtain⟨hx,hz,_⟩:=hv;cases hx.d_inv with
    | @osb _ _ _ _ q a len cap hρ hl hc hq hq2=>
     have hq0:q=0:=by omega
     subst hq0;have hone:(Value.slice (a.map (·.add 0)) n (cap-0)).oneCell'=true:=rfl;have hM:Inv C S w (ρ++[.slice (a.map (·.add 0)) n (cap-0)]) (R.set i .non++[.sl e s' (rows.take n)]):=by
      refine hI.move hi hρ (λ_ _ _=>rfl) (ag _) rfl ⟨rfl,λ_=>by first|exact ag _|exact aR _⟩ rfl (λk hk=>?_) ?_
      .cases a with
       |none=>simp[Res.foot]at hk
       |some a0=>simp only[Res.foot,bF]at hk ⊢;exact .inl (by rw[←hk];exact(F_ a0 0).symm)
      .rcases(hI.ok i _ _ hi hρ).live rfl with⟨h1,h2⟩|⟨b,o,cp,vs',h1,h2,h3,h4,h5,h6,h7⟩
       .cases h1;have:n=0:=by omega
        subst this;exact .inr (.inl ⟨rfl,by rw[h2];rfl⟩)
       .cases h1;have hnl:(rows.take n).length=n:=by rw[aT];omega
        refine .inr (.inr ⟨b,o,cap,vs',by rw[hnl];rfl,h2,by rw[hnl];omega,h4,h5,λr hr=>h6 r (be hr),λj r hj k d hk=>?_⟩);grind
     have hz':=hz.mono (λ_ h=>h) (λ_ _=>rfl) (Pre.append ρ [.slice (a.map (·.add 0)) n (cap-0)]);have hnew:(ρ++[Value.slice (a.map (·.add 0)) n (cap-0)])[R.length]?=some (.slice (a.map (·.add 0)) n (cap-0)):=by rw[←hI.len];simp
     obtain⟨v,w',ρ',hr,hA⟩:=O4 (ty:=ty) (vs:=vs) hM (by rw[←hvl];exact⟨.d (.os hnew hone),hz',trivial⟩) h hk;exact⟨v,w',ρ',hr,hA.inv,hA.sub,hA.same,(Pre.append _ _).trans hA.pre,hA.rd⟩
   | [],hv=>exact hv.elim
   | [_],hv=>exact hv.2.elim
   |_::_::_::_,hv=>exact hv.2.2.elim
 .cases h
theorem Aco(hI : Inv C S w ρ R)(hv : Ap (RdA S w ρ) vs.toList [.d (.osb i 0 n s), y])
  (h:L6 P R c ts.toList i n s y=some out)(hk:∀x,out.c=some x->x.ok P):∃v w',(Builtin.append_ ts ty vs).run P w=.ok v w'/\Dt C S w ρ out.R v out.v S w' ρ:=by
 unfold L6 at h;split at h
 .rename_i ts' t u hts;cases hb:Nat.beq t u with
  |false=>rw[hb]at h;simp at h
  | true =>
   rw[hb]at h;simp only[eO]at h;have:=aj hb;subst this;split at h
   .rename_i e ht;split at h
    .rename_i size src e' s' rows hs hsrc hi;split at h
     .rename_i q1 q2 q3 q4 m q5 rows';cases hb2:Nat.beq s' s&&Nat.beq s (size+1) with
      |false=>rw[hb2]at h;simp at h
      | true=>
       rw[hb2]at h;simp only[eO,al]at h;subst h;simp only[ac]at hb2;have h1:=aj hb2.1;subst h1;have h1:=aj hb2.2;subst h1;obtain⟨⟨k1,k2⟩,k3,k4⟩:=hk _ rfl;subst k4;subst k1;obtain⟨v0,v1,hvs,r0,r1⟩:∃v0 v1,vs = #[v0,v1]/\RdA S w ρ v0 (.d (.osb i 0 n (size+1)))/\RdA S w ρ v1 y:=by
        obtain⟨l⟩:=vs
        match l,hv with
        | [v0,v1],hv=>exact⟨v0,v1,rfl,hv.1,hv.2.1⟩
        | [],hv=>exact hv.elim
        | [_],hv=>exact hv.2.elim
        |_::_::_::_,hv=>exact hv.2.2.elim
       have htsa:ts = #[t,t]:=by obtain⟨l⟩:=ts;simp at hts;rw[hts]
       subst hvs;subst htsa;obtain⟨info,hinfo,hsz⟩:∃info,P.info? e=some info/\info.size=size+1:=by unfold A9 at hs;exact Cw hs
       obtain⟨b2,c2,news,hxf,hfc,hnr⟩:=Ami (P:=P) hI r1 hsrc k3;have hfc:=hfc w λ_=>rfl;rw[←hsz]at hfc;subst hxf;have r0':=r0.d_inv;cases r0' with
       | @osb _ _ _ _ q a len cap hρ hl hc hq hq2=>
        have hq0:q=0:=by omega
        subst hq0;have hadd:a.map (·.add 0)=a:=by cases a <;> simp[Uj]
        rw[hadd];rcases(hI.ok _ _ _ hi hρ).live rfl with⟨h1,h2⟩|⟨b,o,cap',vs',h1,hblk,h3,h4,h5,_⟩
        .cases h1;subst h2;have hn0:n=0:=by omega
         subst hn0;have hs0:src=[]:=bK (by simp only[bU]at k2;omega);subst hs0;have hnn:news = #[]:=by have:=hnr.length;apply Array.eq_empty_of_size_eq_zero;simpa using this
         subst hnn;refine⟨.slice none 0 0,w,?_,?_,λ_ h=>h,λ_ _=>rfl,Pre.refl _,?_⟩
         .simp at hfc;simp[Builtin.append_,eR ht,sizeOf,typeInfo,hinfo,Builtin.lenOf,hfc]
         .have hsame:R.set i (.sl e' (size+1) (List.take 0 []++([]++List.drop (0+0) [])))=R:=by
           apply bj;intro j;rw[aK];split
           .rename_i hj;subst hj;rw[eT (ab.1 hi).1,hi];rfl
           .rfl
          have hI2:=hI;rw[←hsame]at hI2;exact hI2
         .have:=Rd.osb (S:=S) (w:=w) (lo:=0) (n:=0) (size:=size+1) (q:=0) hρ (by omega) (by omega) (by omega) (by omega);exact .d this
        .cases h1;obtain⟨w',hr,hI',hS⟩:=hI.putRun (P:=P) hi hρ (lo:=n) hnr k3 k2;refine⟨.slice (some ⟨b,o,none⟩) (n+src.length) cap,w',?_,hI',λ_ h=>h,hS,Pre.refl _,?_⟩
         .have hroom:n+src.length<=cap:=by omega
          rw[←hsz]at hr;simp[Builtin.append_,eR ht,sizeOf,typeInfo,hinfo,Builtin.lenOf,hroom,hfc,B1,hr]
         .have:=Rd.osb (S:=S) (w:=w') (lo:=0) (n:=n+src.length) (size:=size+1) (q:=0) hρ (by omega) (by omega) (by omega) (by omega);rw[hadd]at this;exact .d this
     .cases h
    .cases h
   .cases h
 .cases h
end
end Go.SL
namespace Go.SL
variable{K:Act->World->Prop}{c:Cl}{ds:List D}{b cap i k len n off p size:Nat}{o:Oper}{out:Out}{t:TypeId}{u v:Value}
section
variable{P:Program}{C:Ctx}{S S':Nat->Prop}{w w':World}{ρ ρ':fh}{R:List Res}{L:List Ent}{cur:Ce}{a:Act}
def FR(ro:Option Nat):Fence:={Fence.wide with round:=ro}
def Ajg(o:Oper):Prop:=∀c,o.op ≠ .defer c
def Ay3(P:Program)(o:Oper)(a:Act)(K:Act->World->Prop):Result Next->Prop
 |.ok (.value v) w'=>K (a.put o.dst v) w'
 |.ok .skip w'=>K (a.put o.dst undef) w'
 |.ok (.enter f args) w'=>Calls P f args w' λe w''=>∃v,e=.returned v/\K (a.put o.dst v) w''
 |_=>False
def wpv(P:Program)(o:Oper)(a:Act)(w:World)(K:Act->World->Prop):Prop:=Ay3 P o a K ((execOp a.eval o).run P w)
theorem Awn{ro:Option Nat}{Q:Exit->Act->World->Prop}(hd:Ajg o)(h:wpv P o a w K):o.wpIn (FR ro) 0 P a w K Q:=by
 refine⟨λ_ _=>trivial,?_⟩;rw[Oper.semAt_eq (FR ro).round a.eval o hd];unfold wpv at h;generalize (execOp a.eval o).run P w=r at h
 match r,h with
 |.ok (.value v) w',h=>exact h
 |.ok .skip w',h=>exact h
 |.ok (.enter f args) w',h=>refine⟨(λh=>by cases h),?_⟩;have h2:CallsIn Fence.wide 0 P f args w' λe w''=>∃v,e=.returned v/\K (a.put o.dst v) w'':=callsIn_wide.2 h;refine CallsIn.mono (F:=FR ro) h2 λe w'' hp=>?_;obtain⟨v,rfl,hk⟩:=hp;exact hk
theorem Da(h:(execOp a.eval o).run P w=.ok (.value v) w')(hK:K (a.put o.dst v) w'):wpv P o a w K:=by unfold wpv;rw[h];exact hK
theorem Y8(h:Ix P L cur R c o=some out):Ajg o:=by intro k hk;obtain⟨dst,op,type,pos,after,guard⟩:=o;simp only at hk;subst hk;simp[Ix,Bp]at h
theorem Akx(hI:Inv C S w ρ R){av:AV}(h:RdA S w ρ v av):Dt C S w ρ R v av S w ρ:=⟨hI,λ_ h=>h,λ_ _=>rfl,Pre.refl _,h⟩
theorem uC:∀{ds:List D}{ps:List Pd},dPs ds=some ps->ds.length=ps.length
 | [],ps,h=>by simp[dPs]at h;subst h;rfl
 | d::r,ps,h=>by
  simp only[dPs]at h;split at h
  .rename_i x l h1 h2;simp at h;subst h;simp[uC h2]
  .cases h
theorem Inv.putRow(hI:Inv C S w ρ R){s o l cp:Nat}{e:TypeId}{rows:List (List Pd)}{row ps:List Pd}(hi:R[i]?=some (.sl e s rows))(hρ:ρ[i]?=some (.slice (some ⟨b,o,none⟩) l cp))
  (hv:Ap (RdP S w) v.cells.toList ps)(hn:A9 P t=some n)(hl:ps.length=n)(ho:off+n<=s)(hrow:rows[k]?=some row) :
  ∃w',(storeVar t ⟨b,o+k*s+off,none⟩ v).run P w=.ok () w'/\Inv C S w' ρ (R.set i (.sl e s (rows.set k (row.take off++(ps++row.drop (off+n))))))/\(∀k,S k->w'.heap[k]?=w.heap[k]?):=by
 have hklt:k<rows.length:=(ab.1 hrow).1;rcases(hI.ok i _ _ hi hρ).live rfl with⟨h3,h4⟩|⟨b',o',cp',vs,h3,hb,hcap,hmx,hfit,hlen,hcells⟩
 .cases h3
 .cases h3;have hrl:row.length=s:=hlen row (ae hrow);have hsz:v.cells.size=n:=by have:=hv.length;simpa[hl]using this
  have hk1:(k+1)*s<=cp*s:=bi _ (by omega);rw[aM,ci]at hk1;have hbound:o+k*s+off+n<=vs.size:=by omega
  have hone:∀x,x∈v.cells.toList->x.oneCell'=true:=X5 hv;refine⟨_,Ma hn hsz hb hbound hone,?_,?_⟩
  .have ob:=hI.own i _ _ b hi hρ rfl;refine hI.put hi hρ (b:=b) rfl (λk hk=>by simp[Res.foot]at hk;exact hk.symm) (λk hk=>A_ _ _ _ _ hk) (by simp) rfl ⟨rfl,λ_=>by first|exact ag _|exact aR _⟩ rfl ?_;have hS:∀q,S q->(w.setRow b (vs.toList.take (o+k*s+off)++v.cells.toList++vs.toList.drop (o+k*s+off+v.cells.toList.length)).toArray).heap[q]?=w.heap[q]?:=λq hq=>A_ _ _ _ _ (λe=>ob.1 (e ▸ hq));have hvl:v.cells.toList.length=n:=by simpa using hsz
   refine .inr (.inr ⟨b,o,cp,_,by simp,hb.put (by simp only[cd,aw,aT,bV,hvl];simp only[cN];omega),by simpa using hcap,hmx,?_,λr hr=>?_,λi2 r hi2 j d hj=>?_⟩)
   .simp only[cd,aw,aT,bV,hvl];simp only[cN];omega
   .rcases cM hr with h|h
    .exact hlen r h
    .subst h;simp;omega
   .have hil:i2<rows.length:=by have:=(ab.1 hi2).1;simpa using this
    have hjl:j<s:=by
     have hm:=ae hi2;have:r.length=s:=by
      rcases cM hm with h|h
      .exact hlen r h
      .subst h;simp;omega
     rw[←this];exact(ab.1 hj).1
    have hget:∀q,((vs.toList.take (o+k*s+off)++v.cells.toList++vs.toList.drop (o+k*s+off+v.cells.toList.length)).toArray)[q]?=if q<o+k*s+off then vs[q]? else if q<o+k*s+off+n then v.cells[q-(o+k*s+off)]? else vs[q]?:=by
     intro q;simp only[cF];have hA:(vs.toList.take (o+k*s+off)).length=o+k*s+off:=by simp;omega
     split
     .rename_i hq;rw[aP,aJ (by rw[hA];exact hq),ax,eT hq];simp
     .rename_i hq;rw[aP,aW (by rw[hA];omega),hA];split
      .rename_i hq2;rw[aJ (by rw[hvl];omega)];simp
      .rename_i hq2;rw[aW (by rw[hvl];omega),hvl,ay];simp only[cE];congr 1;omega
    by_cases hik:i2=k
    .subst hik;rw[bH hil]at hi2;cases hi2;rcases bc j off with hj1|hj1
     .rw[aJ (by simp;omega),ax,eT hj1]at hj;obtain⟨x,g1,g2⟩:=hcells i2 row hrow j d hj;exact⟨x,by rw[hget,eT (by omega)];exact g1,g2.mono (λ_ h=>h) hS⟩
     .rw[aW (by simp;omega)]at hj;have htl:(row.take off).length=off:=by simp;omega
      rw[htl]at hj;rcases bc (j-off) ps.length with hj2|hj2
      .rw[aJ hj2]at hj;obtain⟨x,g1,g2⟩:=hv.get hj;refine⟨x,?_,g2.mono (λ_ h=>h) hS⟩;rw[hget,eU (by omega),eT (by omega)];rw[←cE,←g1];congr 1;omega
      .rw[aW hj2,ay]at hj;obtain⟨x,g1,g2⟩:=hcells i2 row hrow j d (by rw[←hj];congr 1;omega);refine⟨x,?_,g2.mono (λ_ h=>h) hS⟩;rw[hget,eU (by omega),eU (by omega)];exact g1
    .rw[bS (Ne.symm hik)]at hi2;obtain⟨x,g1,g2⟩:=hcells i2 r hi2 j d hj;refine⟨x,?_,g2.mono (λ_ h=>h) hS⟩;have hsep:o+i2*s+j<o+k*s+off\/o+k*s+off+n<=o+i2*s+j:=by
      rcases Nat.lt_or_gt_of_ne hik with h|h
      .have:(i2+1)*s<=k*s:=bi _ h;rw[aM,ci]at this;left;omega
      .have:(k+1)*s<=i2*s:=bi _ h;rw[aM,ci]at this;right;omega
     rw[hget];rcases hsep with h|h
     .rw[eT h];exact g1
     .rw[eU (by omega),eU (by omega)];exact g1
  .intro q hq;exact A_ _ _ _ _ (λe=>(hI.own i _ _ b hi hρ rfl).1 (e ▸ hq))
theorem Ar9(hI:Inv C S w ρ R)(hput:Rk R c o i k size off ds n=some out)(hk:∀x,out.c=some x->x.ok P) 
  (hy:Ap (Rd S w ρ) u.cells.toList ds)(e3:A9 P t=some n)(hρ:ρ[i]?=some (.slice (some ⟨b,p,none⟩) len cap)) :
  o.dst=none/\∃w',(storeVar t ⟨b,p+k*size+off,none⟩ u).run P w=.ok () w'/\Dt C S w ρ out.R undef out.v S w' ρ:=by
 unfold Rk at hput;split at hput
 .rename_i e s rows q1 q2 row q3 rows' ps hi hps;cases hb:(Nat.beq s size&&(Nat.beq ds.length n&&(Nat.ble (off+n) size&&o.dst.isNone))) with
  |false=>rw[hb]at hput;simp at hput
  |true=>
   rw[hb]at hput;simp at hput;subst hput;simp only[ac]at hb;obtain⟨b0,b1,b2,b3⟩:=hb;have hss:=aj b0;subst hss;obtain⟨k1,k2⟩:=hk _ rfl;obtain⟨w',hr,hI',hS⟩:=hI.putRow hi hρ (T2 hps hy) e3 (by rw[←uC hps];exact aj b1) (bp b2) k1;rw[k2]at hI';have hdst:o.dst=none:=by cases hd:o.dst <;> simp[hd]at b3;rfl
   exact⟨hdst,w',hr,hI',λ_ h=>h,hS,Pre.refl _,.tup (vs:=[]) rfl (by simp)⟩
 .cases hput
theorem Anq(hI:Inv C S w ρ R)(h:Tu R c o i k size off ds n=some out)(hk:∀x,out.c=some x->x.ok P) 
  (hy:Ap (Rd S w ρ) u.cells.toList ds)(e3:A9 P t=some n)(hρ:ρ[i]?=some (.slice (some ⟨b,p,none⟩) len cap)) :
  o.dst=none/\∃w' S',(storeVar t ⟨b,p+k*size+off,none⟩ u).run P w=.ok () w'/\Dt C S w ρ out.R undef out.v S' w' ρ:=by
 unfold Tu at h;split at h
 .rename_i m;split at h
  .rename_i e2 s2 rows2 hm;cases hb:Nat.beq m i with
   |true=>rw[hb]at h;simp at h
   | false=>
    rw[hb]at h;simp only[eQ]at h;obtain⟨v,hcells,hr⟩:∃v,u.cells.toList=[v]/\Rd S w ρ v (.os m):=by
     generalize u.cells.toList=l at hy
     match l,hy with
     | [v],hv=>exact⟨v,rfl,hv.1⟩
     | [],hv=>exact hv.elim
     |_::_::_,hv=>exact hv.2.elim
    have hρm:=hr.os_inv;have hf:=hI.freeze hm hρm;have hfz:=Res.ok0.frozen ((hI.ok m _ _ hm hρm).live hr.one);have hy':Ap (Rd (λb=>S b\/(Res.sl e2 s2 rows2).foot v b) w ρ) u.cells.toList [.p (.s rows2)]:=by rw[hcells];exact⟨.p hfz,trivial⟩
    obtain⟨hd,w',hr',hA⟩:=Ar9 hf h hk hy' e3 hρ;obtain⟨a1,a2,a3,a4,a5⟩:=hA;exact⟨hd,w',_,hr',a1,λb hb=>a2 b (.inl hb),λb hb=>a3 b (.inl hb),a4,a5⟩
  .cases h
 .cases h
theorem Ahs(hI : Inv C S w ρ R)(hL : B0 S w ρ a L)(hp : pt a cur)(h : Ix P L cur R c o = some out)
  (hk:∀x,out.c=some x->x.ok P) 
  (hK:∀v w' S' ρ',Dt C S w ρ out.R v out.v S' w' ρ'->K (a.put o.dst v) w'):wpv P o a w K:=by
 unfold Ix at h;split at h
 .rename_i v k hv;simp at h;subst h;obtain⟨x,hx,hr⟩:=Ans hI hL hp hv hk;exact Da hx (hK x w S ρ (Akx hI hr))
 .obtain⟨dst,op,type,pos,after,guard⟩:=o;simp only at h hK;cases op with
  | box t x=>
   simp only at h;split at h
   .rename_i cells n e1 e2;cases hb:Nat.beq cells.length n with
    |false=>rw[hb]at h;simp at h
    |true=>rw[hb]at h;simp at h;subst h;obtain⟨av,h1,h2⟩:=Cj e1;have hcells:=My (A7 hL hp h1) h2;have hA:=hI.newBox (t:=t) hcells;refine Da ?_ (hK _ _ _ _ hA);simp[execOp,Instr.box,newVar,newRow]
   .cases h
  | alloc t=>
   simp only at h;split at h
   .rename_i cells e1;simp at h;subst h;obtain⟨z,hz,hd⟩:=Cj e1;have hA:=hI.newBox (t:=t) (Ir (S:=S) (w:=w) (ρ:=ρ) hd);refine Da ?_ (hK _ _ _ _ hA);simp[execOp,Instr.alloc,newVar,newRow,Ga hz]
   .cases h
  | store t x y=>
   simp only at h;cases hc:cur.isEmpty with
   |false=>rw[hc]at h;simp at h
   | true=>
    rw[hc]at h;simp only[eO]at h;split at h
    .rename_i i off ds n e1 e2 e3;split at h
     .rename_i u cells hi;cases hb:(Nat.beq ds.length n&&Nat.ble (off+n) cells.length&&dst.isNone) with
      |false=>rw[hb]at h;simp at h
      | true=>
       rw[hb]at h;simp at h;subst h;simp only[ac]at hb;obtain⟨⟨b1,b2⟩,b3⟩:=hb;obtain⟨b,hx,hρ⟩:=(A7 hL hp e1).d_inv.o_inv;obtain⟨av,h1,h2⟩:=Cj e2;have hy:=My (A7 hL hp h1) h2;obtain⟨w',hr,hI',hS⟩:=hI.store hi hρ hy e3 (aj b1) (bp b2);have hdst:dst=none:=by cases dst <;> simp at b3;rfl
       subst hdst;unfold wpv;have:(execOp a.eval ⟨none,.store t x y,type,pos,after,guard⟩).run P w=.ok .skip w':=by simp only[execOp,eX,hx,Instr.storeAt,Instr.sureAddr,eZ,eY,hr]
       rw[this];exact hK undef w' S ρ ⟨hI',λ_ h=>h,hS,Pre.refl _,.tup (vs:=[]) rfl (by simp)⟩
     .cases h
    .rename_i i k size off ds n e1 e2 e3;obtain⟨b,o,l,cp,hx,hρ⟩:=(A7 hL hp e1).d_inv.oe_inv;obtain⟨av,h1,h2⟩:=Cj e2;have hy:=My (A7 hL hp h1) h2;have fin:∀w' ρ',dst=none->(storeVar t ⟨b,o+k*size+off,none⟩ (a.eval y)).run P w=.ok () w'->Dt C S w ρ out.R undef out.v S w' ρ'->wpv P ⟨dst,.store t x y,type,pos,after,guard⟩ a w K:=by
      intro w' ρ' hdst hr hA;subst hdst;unfold wpv;have:(execOp a.eval ⟨none,.store t x y,type,pos,after,guard⟩).run P w=.ok .skip w':=by simp only[execOp,eX,hx,Instr.storeAt,Instr.sureAddr,eZ,eY,hr]
      rw[this];exact hK undef w' S ρ' hA
     split at h
     .rename_i out' hput;simp at h;subst h;unfold Rk at hput;split at hput
      .rename_i e s rows q1 q2 row q3 rows' ps hi hps q4;cases hb:(Nat.beq s size&&(Nat.beq ds.length n&&(Nat.ble (off+n) size&&dst.isNone))) with
       |false=>rw[hb]at hput;simp at hput
       |true=>
        rw[hb]at hput;simp at hput;subst hput;simp only[ac]at hb;obtain⟨b0,b1,b2,b3⟩:=hb;have hss:=aj b0;subst hss;obtain⟨k1,k2⟩:=hk _ rfl;obtain⟨w',hr,hI',hS⟩:=hI.putRow hi hρ (T2 hps hy) e3 (by rw[←uC hps];exact aj b1) (bp b2) k1;rw[k2]at hI';have hdst:dst=none:=by cases dst <;> simp at b3;rfl
        exact fin w' ρ hdst hr ⟨hI',λ_ h=>h,hS,Pre.refl _,.tup (vs:=[]) rfl (by simp)⟩
      .cases hput
     .split at h
      .rename_i out' hput;simp at h;subst h;obtain⟨hdst,w',ρ',hr,hA⟩:=Anr hI hput hk hy e3 hρ;exact fin w' ρ' hdst hr hA
      .obtain⟨hdst,w',S',hr,hA⟩:=Anq hI h hk hy e3 hρ;have hdst':dst=none:=hdst;subst hdst';unfold wpv;have:(execOp a.eval ⟨none,.store t x y,type,pos,after,guard⟩).run P w=.ok .skip w':=by
        simp only[execOp,eX,hx,Instr.storeAt,Instr.sureAddr,eZ,eY,hr]
       rw[this];exact hK undef w' S' ρ hA
    .cases h
  | buildSlice t len parts=>
   simp only at h;split at h
   .rename_i ps e1;obtain⟨_,v,w',S',ρ',hr,hA⟩:=Za hI (J8 hL hp e1) h;refine Da ?_ (hK _ _ _ _ hA);have e:(parts.map λ(x:Nat×Operand)=>(x.1,a.eval x.2))=(parts.toList.map λx=>(x.1,a.eval x.2)).toArray:=by apply Array.ext';simp
    simp only[execOp,eX];have e':(parts.map fun|(i,x)=>(i,a.eval x))=(parts.toList.map λx=>(x.1,a.eval x.2)).toArray:=e;rw[e',hr];rfl
   .cases h
  | convert s d x=>
   simp only at h;unfold Py at h;split at h
   .rename_i o1 h0;cases h;obtain⟨hR,v,v',w',S',hx,hr,hA⟩:=An0 (ρ:=ρ) hI h0 hk;have:=A3 hL hp hx;refine Da ?_ (hK v' w' S' ρ (by rw[hR];exact hA));simp only[execOp,this,eX,hr];rfl
   .split at h
    .rename_i o1 h0;cases h;obtain⟨v,v',w',ρ',hx,hr,hA⟩:=Aj1 (ρ:=ρ) hI h0 hk;have:=A3 hL hp hx;refine Da ?_ (hK v' w' S ρ' hA);simp only[execOp,this,eX,hr];rfl
    .obtain⟨v',w',hr,hA⟩:=Aj2 (ρ:=ρ) (v:=a.eval x) hI h λy hy=>A7 hL hp hy;refine Da ?_ (hK v' w' S ρ hA);simp only[execOp,eX,hr];rfl
  | makeSlice t l k=>
   simp only at h;cases hc:Kn l k with
   |false=>rw[hc]at h;simp at h
   | true=>
    rw[hc]at h;simp only[eO]at h;have hlk:l=k:=by
     have:=hc;unfold Kn at this;split at this
     .rw[aj this]
     .rw[eq_of_beq this]
     .cases this
    subst hlk;obtain⟨v,w',ρ',x,hx,hr,hA⟩:=Anu hI h hk;have:=A3 hL hp hx;refine Da ?_ (hK _ _ _ _ hA);simp only[execOp,this,eX,hr];rfl
  | call kk=>
   obtain⟨callee,cargs,argTypes⟩:=kk;have hl:(cargs.map a.eval).toList=cargs.toList.map a.eval:=by simp
   cases callee with
   |invoke r m=>simp at h
   | builtin b=>
    cases b with
    | append=>
     simp only at h;split at h
     .rename_i i g q size off y e1;have hargs:=E2 hL hp e1;rw[←hl]at hargs;obtain⟨v,w',ρ',hr,hA⟩:=Acp (ty:=type) hI hargs h hk;refine Da ?_ (hK _ _ _ _ hA);simp only[execOp,resolve,eX,eZ,eY,invoke,builtin,hr]
     .rename_i i n s y e1;have hargs:=E2 hL hp e1;rw[←hl]at hargs;unfold Oq at h;split at h
      .obtain⟨v,w',hr,hA⟩:=Aco (ty:=type) hI hargs h hk;refine Da ?_ (hK _ _ _ _ hA);simp only[execOp,resolve,eX,eZ,eY,invoke,builtin,hr]
      .obtain⟨v,w',ρ',hr,hA⟩:=Acn (ty:=type) hI hargs h hk;refine Da ?_ (hK _ _ _ _ hA);simp only[execOp,resolve,eX,eZ,eY,invoke,builtin,hr]
     .rename_i args _ _ e1;have hargs:=E2 hL hp e1;rw[←hl]at hargs;obtain⟨v,w',ρ',hr,hA⟩:=O4 (ty:=type) hI hargs h hk;refine Da ?_ (hK _ _ _ _ hA);simp only[execOp,resolve,eX,eZ,eY,invoke,builtin,hr]
     .cases h
    | clear=>
     simp only at h;split at h
     .rename_i args e1;have hargs:=E2 hL hp e1;rw[←hl]at hargs;obtain⟨v,w',hr,hA⟩:=Aj3 (ty:=type) hI hargs h hk;refine Da ?_ (hK _ _ _ _ hA);simp only[execOp,resolve,eX,eZ,eY,invoke,builtin,hr]
     .cases h
    | copy=>
     simp only at h;split at h
     .rename_i args e1;have hargs:=E2 hL hp e1;rw[←hl]at hargs;obtain⟨v,w',hr,hA⟩:=Anz (ty:=type) hI hargs h hk;refine Da ?_ (hK _ _ _ _ hA);simp only[execOp,resolve,eX,eZ,eY,invoke,builtin,hr]
     .cases h
    |_=>simp at h
   | value f=>
    simp only at h;split at h
    .rename_i g first caps args e1 e2;obtain⟨xs,cs,hf,hxs,hcs⟩:=(A7 hL hp e1).d_inv.fn_inv;have hargs:=E2 hL hp e2;have hall:Ap (RdA S w ρ) (xs++cargs.toList.map a.eval++cs) (first.map AV.d++args++caps.map AV.d):=
      ((hxs.map_right λ_ _ h=>.d h).append hargs).append (hcs.map_right λ_ _ h=>.d h)
     obtain⟨hent,hcall⟩:=An1 hI hall h hk;unfold wpv;have:(execOp a.eval ⟨dst,.call ⟨.value f,cargs,argTypes⟩,type,pos,after,guard⟩).run P w=.ok (.enter g (xs++cargs.toList.map a.eval++cs).toArray) w:=by simp only[execOp,resolve,hf,Deferred.ofValue,eX,eZ,eY,invoke];rw[hent];congr 2;apply Array.ext';simp
     rw[this];refine Calls.mono hcall λe w' hpost=>?_;obtain⟨v,S',ρ',rfl,hA⟩:=hpost;exact⟨v,rfl,hK v w' S' ρ' hA⟩
    .cases h
  |_=>simp at h
def E7(R R':List Res):Prop:=∃R1 l,R'=R1++l/\R1.length=R.length/\∀(i:Nat) r,R1[i]?=some r->r=.non\/R[i]?=some r
theorem E7.refl(R:List Res):E7 R R:=⟨R,[],by simp,rfl,λ_ _ h=>.inr h⟩
theorem E7.app(R l:List Res):E7 R (R++l):=⟨R,l,rfl,rfl,λ_ _ h=>.inr h⟩
theorem Qq:undef.oneCell'=false:=rfl
theorem Inv.skip{R':List Res}(h:Inv C S w ρ R)(hg:E7 R R'):∃ρ',Inv C S w ρ' R'/\Pre ρ ρ':=by
 obtain⟨R1,l,rfl,hl,hr⟩:=hg;have key:∀(i:Nat) r v,(R1++l)[i]?=some r->(ρ++List.replicate l.length undef)[i]?=some v->v.oneCell'=false\/r=.non\/(R[i]?=some r/\ρ[i]?=some v):=by
  intro i r v h1 h2;rcases bc i R1.length with hi|hi
  .rw[aJ hi]at h1;rw[aJ (by rw[h.len,←hl];exact hi)]at h2;grind
  .rw[aW (by rw[h.len,←hl];exact hi)]at h2;have:=ae h2;rw[cj this];exact .inl Qq
 refine⟨ρ++List.replicate l.length undef,⟨by simp[h.len,hl],λi r v h1 h2=>?_,λi j r r' v v' b hij h1 h2 h3 h4 h5 h6=>?_,λi r v b h1 h2 h3=>?_,h.sub,h.sup,h.frm,h.size,h.os,h.tape,h.output,h.pre.trans (Pre.append _ _),h.gl⟩,Pre.append _ _⟩
 .rcases key i r v h1 h2 with hd|rfl|⟨g1,g2⟩
  .exact .inl hd
  .exact .inr trivial
  .exact(h.ok i r v g1 g2).mono (λ_ h=>h) (λ_ _=>rfl) (Pre.append _ _) (λ_ _=>rfl)
 .rcases key i r v h1 h3 with hd|rfl|⟨g1,g2⟩
  .exact absurd h5 (dl hd _)
  .simp[Res.foot]at h5
  .rcases key j r' v' h2 h4 with hd|rfl|⟨m1,m2⟩
   .exact absurd h6 (dl hd _)
   .simp[Res.foot]at h6
   .exact h.dis i j r r' v v' b hij g1 m1 g2 m2 h5 h6
 .rcases key i r v h1 h2 with hd|rfl|⟨g1,g2⟩
  .exact absurd h3 (dl hd _)
  .simp[Res.foot]at h3
  .exact h.own i r v b g1 g2 h3
theorem Inv.dummies(h:Inv C S w ρ R)(l:List Res):∃ρ',Inv C S w ρ' (R++l)/\Pre ρ ρ'/\∀i,R.length<=i->i<R.length+l.length->∃x,ρ'[i]?=some x/\x.oneCell'=false:=by
 have key:∀(i:Nat) r v,(R++l)[i]?=some r->(ρ++List.replicate l.length undef)[i]?=some v->v.oneCell'=false\/(R[i]?=some r/\ρ[i]?=some v):=by
  intro i r v h1 h2;rcases bc i R.length with hi|hi
  .rw[aJ hi]at h1;rw[aJ (by rw[h.len];exact hi)]at h2;exact .inr ⟨h1,h2⟩
  .rw[aW (by rw[h.len];exact hi)]at h2;have:=ae h2;rw[cj this];exact .inl Qq
 refine⟨ρ++List.replicate l.length undef,⟨by simp[h.len],λi r v h1 h2=>?_,λi j r r' v v' b hij h1 h2 h3 h4 h5 h6=>?_,λi r v b h1 h2 h3=>?_,h.sub,h.sup,h.frm,h.size,h.os,h.tape,h.output,h.pre.trans (Pre.append _ _),h.gl⟩,Pre.append _ _,λi h1 h2=>⟨undef,?_,Qq⟩⟩
 .rcases key i r v h1 h2 with hd|⟨g1,g2⟩
  .exact .inl hd
  .exact(h.ok i r v g1 g2).mono (λ_ h=>h) (λ_ _=>rfl) (Pre.append _ _) (λ_ _=>rfl)
 .rcases key i r v h1 h3 with hd|⟨g1,g2⟩
  .exact absurd h5 (dl hd _)
  .rcases key j r' v' h2 h4 with hd|⟨m1,m2⟩
   .exact absurd h6 (dl hd _)
   .exact h.dis i j r r' v v' b hij g1 m1 g2 m2 h5 h6
 .rcases key i r v h1 h2 with hd|⟨g1,g2⟩
  .exact absurd h3 (dl hd _)
  .exact h.own i r v b g1 g2 h3
 .rw[aW (by rw[h.len];exact h1),List.getElem?_replicate,eT (by rw[h.len];omega)]
mutual
theorem D.ren_back{f g:Nat->Option Nat}(hfg:∀i j k,f i=some j->g j=some k->k=i):∀(d d' d'':D),D.ren f d=some d'->D.ren g d'=some d''->d''=d
 |.p x,d',d'',h,k=>by simp[D.ren]at h;subst h;simp[D.ren]at k;exact k.symm
 | .o i off,d',d'',h,k=>by
  simp only[D.ren]at h;split at h
  .rename_i j hj;simp at h;subst h;simp only[D.ren]at k;split at k
   .rename_i m hm;simp at k;subst k;rw[hfg _ _ _ hj hm]
   .cases k
  .cases h
 | .os i,d',d'',h,k=>by
  simp only[D.ren]at h;split at h
  .rename_i j hj;simp at h;subst h;simp only[D.ren]at k;split at k
   .rename_i m hm;simp at k;subst k;rw[hfg _ _ _ hj hm]
   .cases k
  .cases h
 | .oe i a b c,d',d'',h,k=>by
  simp only[D.ren]at h;split at h
  .rename_i j hj;simp at h;subst h;simp only[D.ren]at k;split at k
   .rename_i m hm;simp at k;subst k;rw[hfg _ _ _ hj hm]
   .cases k
  .cases h
 | .osb i a b c,d',d'',h,k=>by
  simp only[D.ren]at h;split at h
  .rename_i j hj;simp at h;subst h;simp only[D.ren]at k;split at k
   .rename_i m hm;simp at k;subst k;rw[hfg _ _ _ hj hm]
   .cases k
  .cases h
 | .oi i q a b c,d',d'',h,k=>by
  simp only[D.ren]at h;split at h
  .rename_i j j2 hj hj2;simp at h;subst h;simp only[D.ren]at k;split at k
   .rename_i m m2 hm hm2;simp at k;subst k;rw[hfg _ _ _ hj hm,hfg _ _ _ hj2 hm2]
   .cases k
  .cases h
 |.any,d',d'',h,k=>by simp[D.ren]at h;subst h;simp[D.ren]at k;exact k.symm
 |.nq _,d',d'',h,k=>by simp[D.ren]at h;subst h;simp[D.ren]at k;exact k.symm
 |.ip c,d',d'',h,k=>by simp[D.ren]at h;subst h;simp[D.ren]at k;exact k.symm
 | .fn q a b,d',d'',h,k=>by
  simp only[D.ren]at h;split at h
  .rename_i a' b' h1 h2;simp at h;subst h;simp only[D.ren]at k;split at k
   .rename_i a2 b2 k1 k2;simp at k;subst k;rw[dr hfg a a' a2 h1 k1,dr hfg b b' b2 h2 k2]
   .cases k
  .cases h
theorem dr{f g:Nat->Option Nat}(hfg:∀i j k,f i=some j->g j=some k->k=i):∀(d d' d'':List D),D.renL f d=some d'->D.renL g d'=some d''->d''=d
 | [],d',d'',h,k=>by simp[D.renL]at h;subst h;simp[D.renL]at k;exact k
 | x::r,d',d'',h,k=>by
  simp only[D.renL]at h;split at h
  .rename_i x' r' h1 h2;simp at h;subst h;simp only[D.renL]at k;split at k
   .rename_i x2 r2 k1 k2;simp at k;subst k;rw[D.ren_back hfg x x' x2 h1 k1,dr hfg r r' r2 h2 k2]
   .cases k
  .cases h
end
theorem Res.ren_back{f g:Nat->Option Nat}(hfg:∀i j k,f i=some j->g j=some k->k=i){r r' r'':Res}(h:r.ren f=some r')(k:r'.ren g=some r''):r''=r:=by
 cases r with
 | box t cells=>
  simp only[Res.ren]at h;split at h
  .rename_i cs hc;simp at h;subst h;simp only[Res.ren]at k;split at k
   .rename_i cs2 hc2;simp at k;subst k;rw[dr hfg _ _ _ hc hc2]
   .cases k
  .cases h
 |sl e s rows=>simp[Res.ren]at h;subst h;simp[Res.ren]at k;exact k.symm
 |zsl e s rows=>simp[Res.ren]at h;subst h;simp[Res.ren]at k;exact k.symm
 | dsl e s g=>
  simp only[Res.ren]at h;split at h
  .rename_i j hj;simp at h;subst h;simp only[Res.ren]at k;grind
  .cases h
 |gh s tys rows hole=>simp[Res.ren]at h;subst h;simp[Res.ren]at k;exact k.symm
 |non=>simp[Res.ren]at h;subst h;simp[Res.ren]at k;exact k.symm
 | vec t cells=>
  simp only[Res.ren]at h;split at h
  .rename_i cs hc;simp at h;subst h;simp only[Res.ren]at k;split at k
   .rename_i cs2 hc2;simp at k;subst k;rw[dr hfg _ _ _ hc hc2]
   .cases k
  .cases h
theorem Ws:∀{pi:fc}{R l:List Res},(∀(j i:Nat) r,pi[j]?=some i->l[j]?=some r->R[i]?=some r)->E9 R pi l=R
 | [],R,l,_=>by cases l <;> rfl
 |i::pi,R,[],_=>rfl
 | i::pi,R,r::l,h=>by
  have h0:R[i]?=some r:=h 0 i r rfl rfl;have e:R.set i r=R:=by apply bj;grind
  simp only[E9];rw[e];exact Ws λj k r hj hr=>h (j+1) k r (by simpa using hj) (by simpa using hr)
theorem Agh{args : List AV}{f : FuncId}(h : Gy R args f c = some out)(hk : Arc c = true \/ (∀x, out.c = some x -> x.keeps)) : E7 R out.R := by
 unfold Gy at h;split at h
 .rename_i f' q1 res q2 q3 rw;cases hb:(Nat.beq f f'&&res.flat) with
  |false=>rw[hb]at h;simp at h
  | true=>
   rw[hb]at h;simp only[eO]at h;split at h
   .split at h
    .simp at h;subst h;exact E7.refl _
    .cases h
   .split at h
    .simp at h;subst h;exact E7.refl _
    .cases h
   .cases h
 .rename_i f' q1 q2 res R2 pi;cases hb:(Nat.beq f f'&&Fe pi&&Nat.ble pi.length R2.length) with
  |false=>rw[hb]at h;simp at h
  | true=>
   rw[hb]at h;simp only[eO]at h;simp only[ac]at hb;obtain⟨⟨hb1,hb2⟩,hb3⟩:=hb;split at h
   .rename_i args' Rp e1 e2;split at h
    .rename_i Rp' res' R2' e3 e4 e5;simp at h;subst h;have same:E9 R pi R2'=R:=by
      rcases hk with hk|hk
      .simp only[Arc,cI]at hk;subst hk;cases R2' <;> rfl
      .have hkeep:R2.take pi.length=Rp':=hk _ rfl;obtain⟨p1,p2⟩:=Oi e2;obtain⟨q1',q2'⟩:=H7 e3;obtain⟨m1,m2⟩:=H7 e5;refine Ws λj i r hj hr=>?_;obtain⟨r0,g1,g2⟩:=m2 j r hr;obtain⟨r1,g3,g4⟩:=p2 j i hj;have hjl:j<pi.length:=(ab.1 hj).1;have g5:Rp'[j]?=some r0:=by
        rw[←hkeep,ax,eT hjl];exact g1
       obtain⟨r2,g6,g7⟩:=q2' j r0 g5;rw[g3]at g6;cases g6;have:=Res.ren_back (λa b k hab hbk=>by have:=Tf hab;unfold Fp at hbk;rw[this]at hbk;simpa using hbk.symm) g7 g2
       rw[this];exact g4
     rw[same];exact E7.app _ _
    .cases h
   .cases h
 .cases h
theorem yR{s d:TypeId}{x:Option AV}(h:Py P R c s d x=some out):out.R=R\/∃r,out.R=R++[r]:=by
 unfold Py at h;split at h
 .rename_i o1 h0;cases h;unfold Ty at h0;grind
 .split at h
  .rename_i o1 h0;cases h;unfold M4 at h0;grind
  .unfold M5 at h;grind
theorem yQ{r : Bool}(h : Ix P L cur R c o = some out)(hs : M_ r c o = true)(hk : r = true -> ∀x, out.c = some x -> x.keeps) : E7 R out.R := by
  unfold Ix at h;split at h
  · simp at h;subst h;exact E7.refl _
  · obtain ⟨dst, op, type, pos, after, guard⟩ := o;simp only at h;cases op with
    | box t x=>
      simp only at h;split at h
      · generalize (Nat.beq _ _)=bb at h;cases bb with
        |false=>simp at h
        |true=>simp at h;subst h;exact E7.app _ _
      · cases h
    | alloc t=>
      simp only at h;split at h
      · simp at h;subst h;exact E7.app _ _
      · cases h
    |store t x y=>simp[M_]at hs
    | buildSlice t len parts=>
      simp only at h;split at h
      · unfold G_ at h;split at h
        · split at h
          · generalize (Nat.beq _ _&&Nat.ble _ _)=bb at h;cases bb with
            |false=>simp at h
            | true=>
              simp only[eO]at h;split at h
              · cases ho:Lf c with
                |true=>rw[ho]at h;simp at h;subst h;exact E7.app _ _
                |false=>rw[ho]at h;simp at h;subst h;exact E7.refl _
              · generalize (Lf c&&Nat.beq _ _)=bb at h;cases bb with
                |false=>simp at h
                |true=>obtain⟨ds,_,rfl⟩:=Cw h;exact E7.app _ _
          · cases h
        · cases h
      · cases h
    | convert s d x=>
      simp only at h;rcases yR h with e|⟨r,e⟩
      · rw [e];exact E7.refl _
      · rw [e];exact E7.app _ _
    | makeSlice t x y=>
      simp only at h;generalize (Kn x y)=bb at h;cases bb with
      |false=>simp at h
      | true=>
        simp only[eO]at h;unfold L3 at h;split at h
        · split at h
          · split at h
            · generalize (Nat.beq _ _)=bb at h;cases bb with
              |false=>simp at h
              |true=>simp at h;subst h;exact E7.app _ _
            · cases h
          · cases h
        · split at h
          · split at h
            · generalize (Nat.beq _ _&&_)=bb at h;cases bb with
              |false=>simp at h
              |true=>simp at h;subst h;exact E7.app _ _
            · cases h
          · cases h
        · cases h
    | call kk=>
      obtain⟨callee,cargs,argTypes⟩:=kk;cases callee with
      |invoke r m=>simp at h
      | builtin b=>
        cases b <;> first
          |(simp at h;done)
          |(simp[M_]at hs;done)
          | (simp only at h
             split at h
             · rename_i i g q size off y e1;exfalso;unfold Jr at h;split at h
               · simp [M_,isW]at hs
               · cases h
             · rename_i i n s y e1;unfold Oq at h;split at h
               · exfalso;simp[M_,isW]at hs
               · obtain⟨r0,hr0⟩:=Tz h;rw[hr0];refine⟨R.set i .non,_,rfl,by simp,λj r hj=>?_⟩;rw[aK]at hj;split at hj
                 · split at hj
                   · cases hj;exact .inl rfl
                   · cases hj
                 · exact .inr hj
             · rename_i args _ _ e1;unfold B4 at h;split at h
               · generalize (Nat.beq _ _) = bb at h;cases bb with
                 |false=>simp at h
                 | true=>
                   simp only[eO]at h;split at h
                   · split at h
                     · split at h
                       · generalize (Nat.beq _ _)=bb at h;cases bb with
                         |false=>simp at h
                         | true=>
                           simp only[eO]at h;split at h
                           · simp at h;subst h;exact E7.app _ _
                           · rename_i j;split at h
                             · generalize (Nat.beq _ _&&Nat.beq _ _)=bb at h;cases bb with
                               |false=>simp at h
                               | true=>
                                 simp at h;subst h;refine⟨R.set _ .non,_,rfl,by simp,λi r hi=>?_⟩;rw[aK]at hi;split at hi
                                 · split at hi
                                   · cases hi;exact .inl rfl
                                   · cases hi
                                 · exact .inr hi
                             · cases h
                           · cases h
                       · cases h
                     · cases h
                   · cases h
               · cases h
             · cases h)
      | value f=>
        simp only at h;split at h
        · refine Agh h ?_;simp only[M_,aE]at hs;rcases hs with hs|hs
          · exact .inr (hk hs)
          · exact .inl hs
        · cases h
    |_=>simp at h
end
end Go.SL
