import Derived.Test.YtiaaaghdkhnonaaGreatSlL
import Derived.OrdersIn
import Derived.ControlIn
import Derived.LoopNIn
namespace Go.SL
section
variable {P:Program} {C:Ctx} {S S':Nat->Prop} {w w':World} {ρ ρ':List Value} {R R':List Res}
theorem Inv.regroup (h:Inv C S w ρ R) (τ:Nat->Nat->Nat) (hlen:ρ'.length=R'.length) (hpre:Pre ρ ρ')
  (hok:∀ (i:Nat) r v,R'[i]? = some r->ρ'[i]? = some v->r.ok S w' ρ' v)
  (hfoot:∀ (j:Nat) r v b,R'[j]? = some r->ρ'[j]? = some v->r.foot v b->∃ j0 r0 v0,τ j0 b=j/\R[j0]? = some r0/\ρ[j0]? = some v0/\r0.foot v0 b)
  (hfrm:∀ b,¬Dz ρ R b->w'.heap[b]? = w.heap[b]?) (hsz:w'.heap.size=w.heap.size) (ho:w'.os=w.os) (ht:Tp w w') (hp:w'.output=w.output):Inv C S w' ρ' R' where
 len:=hlen
 ok:=hok
 dis i j r r' v v' b hij h1 h2 h3 h4 h5 h6:=by
  obtain⟨j0,r0,v0,e1,a1,a2,a3⟩:=hfoot i r v b h1 h3 h5
  obtain⟨k0,q0,u0,e2,b1,b2,b3⟩:=hfoot j r' v' b h2 h4 h6
  refine h.dis j0 k0 r0 q0 v0 u0 b (λ e=>hij ?_) a1 b1 a2 b2 a3 b3
  rw [←e1,←e2,e]
 own i r v b h1 h2 h3:=by
  obtain⟨j0,r0,v0,_,a1,a2,a3⟩:=hfoot i r v b h1 h2 h3
  rw [hsz]
  exact h.own j0 r0 v0 b a1 a2 a3
 sub:=h.sub
 sup b hb:=by rw [hsz];exact h.sup b hb
 frm b hb hf:=by
  refine (hfrm b λ ⟨i,r,v,h1,h2,h3⟩=>?_).trans (h.frm b hb hf)
  rcases (h.own i r v b h1 h2 h3).2.2 with k | k
  ·exact hf k
  ·omega
 size:=by rw [hsz];exact h.size
 os:=ho.trans h.os
 tape:=ht.trans h.tape
 output:=hp.trans h.output
 pre:=h.pre.trans hpre
 gl:=h.gl
theorem Abk {α:Type} {l:List α} {x y z:α} {i:Nat} (h:(l++[x,y])[i]? = some z):l[i]? = some z\/i=l.length/\z=x\/i=l.length+1/\z=y:=by
 grind
theorem Inv.takeOut (hI:Inv C S w ρ R) {i g e s k off e2 sz2:Nat} {tys:List (TypeId×Nat)} {rows:List (List Pd)} {row:List Pd} {r1:List (List Pd)} {f:Fn} {xs cs:Array Value} {v h:Value}
  (hi:R[i]? = some (.dsl e s g)) (hg:R[g]? = some (.gh s tys rows none)) (hρi:ρ[i]? = some h) (hρg:ρ[g]? = some (.func f xs cs)) (hx:xs[k*s+off]? = some v) (ht:tys[off]? = some (e2,sz2)) (hrow:rows[k]? = some row) (hoff:row[off]? = some (.s r1)) :
  Inv C S w (ρ++[.func f xs cs,v]) ((R.set g .non).set i (.dsl e s R.length)++[.gh s tys rows (some (k,off)),.sl e2 sz2 r1]):=by
 have hL:ρ.length=R.length:=hI.len
 have hig:i≠g:=λ e=>by subst e;rw [hi] at hg;cases hg
 have hil:i<R.length:=(aa.1 hi).1
 have hgl:g<R.length:=(aa.1 hg).1
 have hgo:gOk S w s tys rows none xs:=by
  obtain⟨f',xs',cs',k3,k4⟩:=(hI.ok g _ _ hg hρg).live rfl
  cases k3;exact k4
 obtain⟨o1,o2,o3,o4⟩:=hgo
 have nohole:∀ q,¬G6 s none q:=λ q ⟨p,hp,_⟩=>by cases hp
 obtain⟨v',hv',hcell⟩:=o3 k row hrow off _ hoff
 rw [hx] at hv';cases hv'
 obtain⟨hone,hsl⟩:=hcell
 obtain⟨e2',sz2',ht',hslok⟩:=hsl (nohole _)
 rw [ht] at ht';cases ht'
 have dist:∀ (q:Nat) x b,q≠k*s+off->xs[q]? = some x->El x b->El v b->False:=by
  intro q x b hq hxq h1 h2
  unfold El at h1 h2
  split at h1
  ·split at h2
   ·exact o4 q (k*s+off) _ _ _ _ _ _ hq (nohole _) (nohole _) hxq hx (h1.trans h2.symm)
   ·exact h2
  ·exact h1
 have key:∀ (j:Nat) r1' v1,((R.set g .non).set i (.dsl e s R.length))[j]? = some r1'->ρ[j]? = some v1->(j=i/\r1' = .dsl e s R.length/\h=v1)\/r1' = .non\/(j≠i/\j≠g/\R[j]? = some r1'):=by
  grind
 have lenR:((R.set g .non).set i (.dsl e s R.length)).length=R.length:=by simp
 have split2:∀ (j:Nat) r1' v1,((R.set g .non).set i (.dsl e s R.length)++[.gh s tys rows (some (k,off)),.sl e2 sz2 r1])[j]? = some r1'->(ρ++[.func f xs cs,v])[j]? = some v1 ->
   (((R.set g .non).set i (.dsl e s R.length))[j]? = some r1'/\ρ[j]? = some v1)\/(j=R.length/\r1' = .gh s tys rows (some (k,off))/\v1 = .func f xs cs)\/(j=R.length+1/\r1' = .sl e2 sz2 r1/\v=v1):=by
  intro j r1' v1 h1 h2
  have hb:∀ {j:Nat} {u:Value},ρ[j]? = some u->j<R.length:=λ h=>by have:=(aa.1 h).1;omega
  have hb':∀ {j:Nat} {u:Res},((R.set g .non).set i (.dsl e s R.length))[j]? = some u->j<R.length:=λ h=>by have:=(aa.1 h).1;rw [lenR] at this;exact this
  rcases Abk h1 with h1 | ⟨e1,h1⟩ | ⟨e1,h1⟩ <;> rcases Abk h2 with h2 | ⟨e2,h2⟩ | ⟨e2,h2⟩
  ·exact .inl ⟨h1,h2⟩
  ·have:=hb' h1;omega
  ·have:=hb' h1;omega
  ·rw [lenR] at e1;have:=hb h2;omega
  ·rw [lenR] at e1;exact .inr (.inl ⟨e1,h1,h2⟩)
  ·rw [lenR] at e1;omega
  ·rw [lenR] at e1;have:=hb h2;omega
  ·rw [lenR] at e1;omega
  ·rw [lenR] at e1;exact .inr (.inr ⟨e1,h1,h2.symm⟩)
 have hnew:(ρ++[.func f xs cs,v])[R.length]? = some (.func f xs cs):=by rw [←hL];simp
 classical
 refine hI.regroup (λ j0 b=>if j0=g then (if El v b then R.length+1 else R.length) else j0) (by simp [hL]) (Pre.append _ _) ?_ ?_ (λ _ _=>rfl) rfl rfl ⟨rfl,λ _=>by first | exact af _ | exact aJ _⟩ rfl
 ·intro j r1' v1 h1 h2
  rcases split2 j r1' v1 h1 h2 with⟨h1,h2⟩ | ⟨_,rfl,rfl⟩ | ⟨_,rfl,rfl⟩
  ·rcases key j r1' v1 h1 h2 with⟨_,rfl,rfl⟩ | rfl | ⟨_,_,h1⟩
   ·refine (hI.ok i _ _ hi hρi).imp id λ ⟨f',xs',cs',a1,a2⟩=>?_
    rw [hρg] at a1;cases a1
    exact⟨f,xs,cs,hnew,a2⟩
   ·exact .inr trivial
   ·exact (hI.ok j _ _ h1 h2).mono (λ _ h=>h) (λ _ _=>rfl) (Pre.append _ _) (λ _ _=>rfl)
  ·refine .inr ⟨f,xs,cs,rfl,o1,o2,λ i2 row2 hi2 j2 d hj2=>?_,λ k1 k2 a1 n1 c1 a2 n2 c2 h1 _ _ h4 h5=>o4 k1 k2 a1 n1 c1 a2 n2 c2 h1 (nohole _) (nohole _) h4 h5⟩
   obtain⟨x,hx,hc⟩:=o3 i2 row2 hi2 j2 d hj2
   refine⟨x,hx,?_⟩
   cases d with
   | v y=>exact hc
   | s r=>exact⟨hc.1,λ _=>hc.2 (nohole _)⟩
  ·exact .inr hslok
 ·intro j r1' v1 b h1 h2 h3
  rcases split2 j r1' v1 h1 h2 with⟨h1,h2⟩ | ⟨rfl,rfl,rfl⟩ | ⟨rfl,rfl,rfl⟩
  ·rcases key j r1' v1 h1 h2 with⟨rfl,rfl,rfl⟩ | rfl | ⟨g1,g2,h1⟩
   ·exact⟨j,_,_,by rw [if_neg hig],hi,hρi,h3⟩
   ·exact h3.elim
   ·exact⟨j,_,_,by rw [if_neg g2],h1,h2,h3⟩
  ·obtain⟨q,x,q1,q2,q3⟩:=h3
   refine⟨g,_,_,?_,hg,hρg,q,x,q1,nohole _,q3⟩
   rw [if_pos rfl,if_neg]
   intro hv
   exact dist q x b (λ e=>q2 ⟨(k,off),rfl,e⟩) q1 q3 hv
  ·refine⟨g,_,_,?_,hg,hρg,k*s+off,v,hx,nohole _,h3⟩
   rw [if_pos rfl,if_pos]
   exact h3
theorem Afl {c:Cl} {ts:List TypeId} {i:Nat} {y:AV} {out:Out} {e s:Nat} {rows:List (List Pd)} (h:C3 P R c ts [.d (.os i),y]=some out) (hi:R[i]? = some (.sl e s rows)) :
  ∃ b z m r',out.c=some (.app rows b z m r'):=by
 match ts,h with
 | [t,u],h=>
  simp only [C3,hi] at h
  grind
 | [],h=>simp [C3] at h
 | [_],h=>simp [C3] at h
 | _::_::_::_,h=>simp [C3] at h
theorem Ab8 (hI:Inv C S w ρ R) {c:Cl} {ts:Array TypeId} {ty:TypeId} {vs:Array Value} {i g k size off:Nat} {y:AV} {out:Out} (hv:A5 (RdA S w ρ) vs.toList [.d (.oi i g k size off),y])
  (h:J4 P R c ts.toList i g k size off y=some out) (hk:∀ x,out.c=some x->x.ok P):∃ v w' ρ',(Builtin.append_ ts ty vs).run P w = .ok v w'/\D_ C S w ρ out.R v out.v S w' ρ':=by
 unfold J4 at h
 split at h
 ·rename_i e s g' s2 tys rows q1 q2 row q3 r1 r2 sz n rows' hi hg
  split at h
  ·rename_i e2 sz2 ht
   cases hb:((Nat.beq g g'&&Nat.beq s s2)&&(Nat.beq s size&&Nat.blt off s)) with
   | false=>rw [hb] at h;simp at h
   | true=>
    rw [hb] at h
    simp only [cond_true] at h
    simp only [ab] at hb
    have e1:=aj hb.1.1
    subst e1
    have e1:=aj hb.1.2
    subst e1
    have e1:=aj hb.2.1
    subst e1
    split at h
    ·rename_i v' R' a b z m r' hap
     simp at h;subst h
     obtain⟨v0,v1,hvs,r0,hy⟩:∃ v0 v1,vs = #[v0,v1]/\RdA S w ρ v0 (.d (.oi i g k s off))/\RdA S w ρ v1 y:=by
      obtain⟨l⟩:=vs
      match l,hv with
      | [v0,v1],hv=>exact⟨v0,v1,rfl,hv.1,hv.2.1⟩
      | [],hv=>exact hv.elim
      | [_],hv=>exact hv.2.elim
      | _::_::_::_,hv=>exact hv.2.2.elim
     subst hvs
     have hlen:((R.set g .non).set i (.dsl e s R.length)++[Res.gh s tys rows (some (k,off)),.sl e2 sz2 r1])[R.length+1]? = some (.sl e2 sz2 r1):=by
      rw [aQ (by simp)];simp
     obtain⟨b0,z0,m0,r0',hc⟩:=Afl hap hlen
     simp at hc
     obtain⟨rfl,_⟩:=hc
     obtain⟨⟨k1,k2⟩,k3⟩:=hk _ rfl
     have hone:=r0.d_inv.one
     cases r0.d_inv with
     | @oi _ _ _ _ _ f xs cs _ hρg hx h1=>
      have hρi:∃ h,ρ[i]? = some h:=hI.rho hi
      obtain⟨hh,hρi⟩:=hρi
      have hT:=hI.takeOut hi hg hρi hρg hx ht k1 k2
      have hat:(ρ++[Value.func f xs cs,v0])[R.length+1]? = some v0:=by
       rw [←hI.len,aQ (by simp)];simp
      obtain⟨v,w',ρ',hr,hA⟩:=O7 (ty:=ty) (vs:=#[v0,v1]) hT (args:=[.d (.os (R.length+1)),y]) ⟨.d (.os hat hone),hy.mono (λ _ h=>h) (λ _ _=>rfl) (Pre.append _ _),trivial⟩ hap (λ x hx=>by simp at hx;subst hx;exact k3)
      exact⟨v,w',ρ',hr,hA.inv,hA.sub,hA.same,(Pre.append _ _).trans hA.pre,hA.rd⟩
    ·cases h
  ·cases h
 ·cases h
theorem Hq {vs:Array Value} {news:List Value} {o:Nat} (hl:o+news.length<=vs.size) (q:Nat) :
  ((vs.toList.take o++news++vs.toList.drop (o+news.length)).toArray)[q]? = if q<o then vs[q]? else if q<o+news.length then news[q-o]? else vs[q]?:=by
 grind
theorem F5 {vs:Array Value} {news:List Value} {o:Nat} (hl:o+news.length<=vs.size):((vs.toList.take o++news++vs.toList.drop (o+news.length)).toArray).size=vs.size:=by
 grind
theorem Ah4 {v:Value} {b:Nat} {e s:Nat} {rows:List (List Pd)} (h:Nc S w e s rows v) (hf:El v b):∃ vs,Blk w b vs e:=by
 rcases h with⟨h1,_⟩ | ⟨b',o,cap,vs,h1,h2,_⟩
 ·subst h1;exact hf.elim
 ·subst h1;cases hf;exact⟨vs,h2⟩
theorem Inv.putBack (hI:Inv C S w ρ R) {i g m e s k off e2 sz2 b o len cap:Nat} {tys:List (TypeId×Nat)} {rows:List (List Pd)} {row:List Pd} {r1:List (List Pd)} {f:Fn} {xs cs:Array Value} {v u:Value} {t:TypeId} (hcells:u.cells.toList=[v])
  (hi:R[i]? = some (.dsl e s g)) (hg:R[g]? = some (.gh s tys rows (some (k,off)))) (hm:R[m]? = some (.sl e2 sz2 r1)) (hρi:ρ[i]? = some (.slice (some ⟨b,o,none⟩) len cap)) (hρg:ρ[g]? = some (.func f xs cs)) (hρm:ρ[m]? = some v) (hv1:v.oneCell'=true)
  (ht:tys[off]? = some (e2,sz2)) (hrow:rows[k]? = some row) (hos:off<s) (hn:B2 P t=some 1) :
  ∃ w' ρ',(storeVar t ⟨b,o+k*s+off,none⟩ u).run P w = .ok () w' /\
   D_ C S w ρ ((((R.set m .non).set g .non).set i (.dsl e s R.length))++[.gh s tys (rows.set k (row.take off++(.s r1::row.drop (off+1)))) none]) undef (.tup []) S w' ρ':=by
 have hL:ρ.length=R.length:=hI.len
 have hig:i≠g:=λ e=>by subst e;rw [hi] at hg;cases hg
 have him:i≠m:=λ e=>by subst e;rw [hi] at hm;cases hm
 have hgm:g≠m:=λ e=>by subst e;rw [hg] at hm;cases hm
 have hgo:gOk S w s tys rows (some (k,off)) xs:=by
  obtain⟨f',xs',cs',k3,k4⟩:=(hI.ok g _ _ hg hρg).live rfl
  cases k3;exact k4
 obtain⟨o1,o2,o3,o4⟩:=hgo
 have hrl:row.length=s:=o1 row (ae hrow)
 have hkl:k<rows.length:=(aa.1 hrow).1
 obtain⟨vs,hb,hlc,hcm,hfit,hxs,hcp⟩:∃ vs,w.heap[b]? = some (.cells vs e (0,0))/\len<=cap/\cap<=maxLen/\o+cap*s<=vs.size/\xs.size=len*s/\∀ (k:Nat) x,xs[k]? = some x->vs[o+k]? = some x:=by
  obtain⟨f',xs',cs',a1,a2⟩:=(hI.ok i _ _ hi hρi).live rfl
  rw [hρg] at a1;cases a1
  rcases a2 with⟨a2,_⟩ | ⟨b',o',len',cap',vs,a2,a3,a4,a5,a6,a7,a8⟩
  ·cases a2
  ·cases a2;exact⟨vs,a3,a4,a5,a6,a7,a8⟩
 have hs0:0<s:=by omega
 have hlen:len=rows.length:=Nat.eq_of_mul_eq_mul_right hs0 (hxs.symm.trans o2)
 subst hlen
 have hks:k*s+off<rows.length*s:=by
  have:(k+1)*s<=rows.length*s:=bh _ hkl
  rw [aG,cd] at this;omega
 have hkc:k*s+off<cap*s:=aK hks (bh _ hlc)
 have hbound:o+k*s+off+[v].length<=vs.size:=by simp;omega
 have hrun:=L9 (P:=P) (w:=w) (t:=t) (v:=u) (n:=1) (g:=b) (o:=o+k*s+off) (u:=e) (cur:=vs) hn (by have:=congrArg List.length hcells;simpa using this) (.of hb) (by simpa using hbound) (by rw [hcells];intro x hx;simp at hx;subst hx;exact hv1)
 rw [hcells] at hrun
 refine⟨_,ρ++[.func f (xs.set! (k*s+off) v) cs],hrun,?_⟩
 generalize hw':w.setRow b (vs.toList.take (o+k*s+off)++[v]++vs.toList.drop (o+k*s+off+[v].length)).toArray=w'
 have hoth:∀ q,q≠b->w'.heap[q]? = w.heap[q]?:=λ q hq=>by rw [←hw'];exact B8 _ _ _ _ hq
 have hsame:w'.heap[b]? = some (.cells (vs.toList.take (o+k*s+off)++[v]++vs.toList.drop (o+k*s+off+[v].length)).toArray e (0,0)):=by rw [←hw'];exact Dj _ _ _ _ _ _ hb
 have hown:=hI.own i _ _ b hi hρi rfl
 have hS:∀ q,S q->w'.heap[q]? = w.heap[q]?:=λ q hq=>hoth q λ e=>hown.1 (e ▸ hq)
 have hnew:(ρ++[Value.func f (xs.set! (k*s+off) v) cs])[R.length]? = some (.func f (xs.set! (k*s+off) v) cs):=by rw [←hL];simp
 have xget:∀ q,(xs.set! (k*s+off) v)[q]? = if q=k*s+off then some v else xs[q]?:=by
  intro q
  rw [Array.set!_eq_setIfInBounds,cR]
  by_cases hq:q=k*s+off
  ·subst hq;simp;omega
  ·rw [if_neg (λ e=>hq e.symm),if_neg hq]
 have nohole:∀ q,¬G6 s none q:=λ q ⟨p,hp,_⟩=>by cases hp
 have hole:∀ q,G6 s (some (k,off)) q↔q=k*s+off:=λ q=>⟨λ ⟨p,hp,he⟩=>by cases hp;exact he,λ h=>⟨_,rfl,h⟩⟩
 have key:∀ (j:Nat) r1' v1,(((R.set m .non).set g .non).set i (.dsl e s R.length))[j]? = some r1'->ρ[j]? = some v1->(j=i/\r1' = .dsl e s R.length)\/r1' = .non\/(j≠i/\j≠g/\j≠m/\R[j]? = some r1'):=by
  intro j r1' v1 h1 h2
  rw [ay] at h1
  split at h1
  ·rename_i he
   subst he
   split at h1
   ·cases h1;exact .inl ⟨rfl,rfl⟩
   ·cases h1
  ·rename_i he
   rw [ay] at h1
   split at h1
   ·split at h1
    ·cases h1;exact .inr (.inl rfl)
    ·cases h1
   ·rename_i he2
    rw [ay] at h1
    split at h1
    ·split at h1
     ·cases h1;exact .inr (.inl rfl)
     ·cases h1
    ·rename_i he3
     exact .inr (.inr ⟨λ e=>he e.symm,λ e=>he2 e.symm,λ e=>he3 e.symm,h1⟩)
 have hslm:Nc S w e2 sz2 r1 v:=(hI.ok m _ _ hm hρm).live hv1
 have mb:∀ q,El v q->q≠b:=λ q hq e=>hI.dis m i _ _ _ _ q (Ne.symm him) hm hi hρm hρi hq e.symm
 have gb:∀ (p:Nat) x q,xs[p]? = some x->p≠k*s+off->El x q->q≠b:=λ p x q hx hp hq e=>hI.dis g i _ _ _ _ q (Ne.symm hig) hg hi hρg hρi ⟨p,x,hx,λ h=>hp ((hole p).1 h),hq⟩ e.symm
 have mg:∀ (p:Nat) x q,xs[p]? = some x->p≠k*s+off->El x q->El v q->False:=λ p x q hx hp hq h2=>hI.dis m g _ _ _ _ q (Ne.symm hgm) hm hg hρm hρg h2 ⟨p,x,hx,λ h=>hp ((hole p).1 h),hq⟩
 refine⟨hI.regroup (λ j0 _=>if j0=g\/j0=m then R.length else j0) (by simp [hL]) (Pre.append _ _) ?_ ?_ ?_ ?_ ?_ ?_ ?_,λ _ h=>h,hS,Pre.append _ _,.tup (vs:=[]) rfl (by simp)⟩
 ·intro j r1' v1 h1 h2
  rcases Du h1 with h1 | ⟨e1,rfl⟩
  ·have hjl:j<R.length:=by have:=(aa.1 h1).1;simpa using this
   have h2:ρ[j]? = some v1:=by rw [aD (by omega)] at h2;exact h2
   rcases key j r1' v1 h1 h2 with⟨rfl,rfl⟩ | rfl | ⟨g1,g2,g3,h1⟩
   ·rw [hρi] at h2;cases h2
    refine .inr ⟨f,_,cs,hnew,.inr ⟨b,o,rows.length,cap,_,rfl,hsame,hlc,hcm,?_,?_,λ q x hx=>?_⟩⟩
    ·rw [F5 hbound];exact hfit
    ·rw [Array.set!_eq_setIfInBounds,Array.size_setIfInBounds];exact hxs
    ·rw [Hq hbound]
     rw [xget] at hx
     by_cases hq:q=k*s+off
     ·subst hq
      rw [if_pos rfl] at hx
      rw [if_neg (by omega),if_pos (by simp;omega),←hx,show o+(k*s+off)-(o+k*s+off)=0 from by omega];rfl
     ·rw [if_neg hq] at hx
      split
      ·exact hcp q x hx
      ·rw [if_neg (by simp;omega)];exact hcp q x hx
   ·exact .inr trivial
   ·exact (hI.ok j _ _ h1 h2).mono (λ _ h=>h) hS (Pre.append _ _) λ q hq=>hoth q λ e=>hI.dis j i _ _ _ _ q g1 h1 hi h2 hρi hq e.symm
  ·simp at e1
   subst e1
   rw [hnew] at h2;cases h2
   refine .inr ⟨f,_,cs,rfl,λ l hl=>?_,?_,λ i2 row2 hi2 j2 d hj2=>?_,λ k1 k2 a1 n1 c1 a2 n2 c2 h12 _ _ h4 h5=>?_⟩
   ·rcases cD hl with h | h
    ·exact o1 l h
    ·subst h;simp;omega
   ·rw [Array.set!_eq_setIfInBounds,Array.size_setIfInBounds,bn];exact o2
   ·have hi2l:i2<rows.length:=by have:=(aa.1 hi2).1;simpa using this
    have hj2l:j2<s:=by
     have:row2.length=s:=by
      rcases cD (ae hi2) with h | h
      ·exact o1 _ h
      ·subst h;simp;omega
     rw [←this];exact (aa.1 hj2).1
    have hmono:∀ {x:Value} {d:Pd},xs[i2*s+j2]? = some x->i2*s+j2≠k*s+off->Aiz S w tys j2 (G6 s (some (k,off)) (i2*s+j2)) x d->Aiz S w' tys j2 (G6 s none (i2*s+j2)) x d:=by
     intro x d hx hne hc
     cases d with
     | v y=>exact hc
     | s r=>
      refine⟨hc.1,λ _=>?_⟩
      obtain⟨e',s',h1,h2⟩:=hc.2 λ h=>hne ((hole _).1 h)
      exact⟨e',s',h1,h2.mono (λ _ h=>h) hS λ q hq=>hoth q (gb _ x q hx hne hq)⟩
    by_cases hik:i2=k
    ·subst hik
     rw [bD hi2l] at hi2
     cases hi2
     rcases bL j2 off with hj1 | hj1 | hj1
     ·rw [aD (by simp;omega),an,if_pos hj1] at hj2
      obtain⟨x,hx,hc⟩:=o3 i2 row hrow j2 d hj2
      have hne:i2*s+j2≠i2*s+off:=by omega
      exact⟨x,by rw [xget,if_neg hne];exact hx,hmono hx hne hc⟩
     ·subst hj1
      rw [aQ (by rw [aS];omega)] at hj2
      rw [show j2-(row.take j2).length=0 from by rw [aS];omega] at hj2
      simp at hj2;subst hj2
      exact⟨v,by rw [xget,if_pos rfl],hv1,λ _=>⟨e2,sz2,ht,hslm.mono (λ _ h=>h) hS λ q hq=>hoth q (mb q hq)⟩⟩
     ·rw [aQ (by simp;omega)] at hj2
      rw [show j2-(row.take off).length=(j2-off-1)+1 from by simp;omega,cv,ar,show off+1+(j2-off-1)=j2 from by omega] at hj2
      obtain⟨x,hx,hc⟩:=o3 i2 row hrow j2 d hj2
      have hne:i2*s+j2≠i2*s+off:=by omega
      exact⟨x,by rw [xget,if_neg hne];exact hx,hmono hx hne hc⟩
    ·rw [bt (Ne.symm hik)] at hi2
     obtain⟨x,hx,hc⟩:=o3 i2 row2 hi2 j2 d hj2
     have hne:i2*s+j2≠k*s+off:=by
      rcases Nat.lt_or_gt_of_ne hik with h | h
      ·have:(i2+1)*s<=k*s:=bh _ h
       rw [aG,cd] at this;omega
      ·have:(k+1)*s<=i2*s:=bh _ h
       rw [aG,cd] at this;omega
     exact⟨x,by rw [xget,if_neg hne];exact hx,hmono hx hne hc⟩
   ·rw [xget] at h4 h5
    by_cases e1:k1=k*s+off
    ·rw [if_pos e1] at h4
     have e2:k2≠k*s+off:=λ e=>h12 (e1.trans e.symm)
     rw [if_neg e2] at h5
     intro hbb
     cases h4
     exact mg k2 _ a2.block h5 e2 rfl hbb
    ·rw [if_neg e1] at h4
     by_cases e2:k2=k*s+off
     ·rw [if_pos e2] at h5
      intro hbb
      cases h5
      exact mg k1 _ a1.block h4 e1 rfl hbb.symm
     ·rw [if_neg e2] at h5
      exact o4 k1 k2 a1 n1 c1 a2 n2 c2 h12 (λ h=>e1 ((hole _).1 h)) (λ h=>e2 ((hole _).1 h)) h4 h5
 ·intro j r1' v1 q h1 h2 h3
  rcases Du h1 with h1 | ⟨e1,rfl⟩
  ·have hjl:j<R.length:=by have:=(aa.1 h1).1;simpa using this
   have h2:ρ[j]? = some v1:=by rw [aD (by omega)] at h2;exact h2
   rcases key j r1' v1 h1 h2 with⟨rfl,rfl⟩ | rfl | ⟨g1,g2,g3,h1⟩
   ·exact⟨j,_,_,by rw [if_neg (by simp [hig,him])],hi,h2,h3⟩
   ·exact h3.elim
   ·exact⟨j,_,_,by rw [if_neg (by simp [g2,g3])],h1,h2,h3⟩
  ·simp at e1
   subst e1
   rw [hnew] at h2;cases h2
   obtain⟨p,x,p1,_,p3⟩:=h3
   rw [xget] at p1
   by_cases hp:p=k*s+off
   ·rw [if_pos hp] at p1;cases p1
    exact⟨m,_,_,by rw [if_pos (.inr rfl)],hm,hρm,p3⟩
   ·rw [if_neg hp] at p1
    exact⟨g,_,_,by rw [if_pos (.inl rfl)],hg,hρg,p,x,p1,λ h=>hp ((hole p).1 h),p3⟩
 ·intro q hq
  exact hoth q λ e=>hq ⟨i,_,_,hi,hρi,e.symm⟩
 ·rw [←hw'];simp
 ·rw [←hw'];rfl
 ·rw [←hw'];exact⟨rfl,λ _=>af _⟩
 ·rw [←hw'];rfl
theorem Inv.putRun (hI:Inv C S w ρ R) {i s b o l cp lo:Nat} {e:TypeId} {rows news:List (List Pd)} {vs2:List Value} (hi:R[i]? = some (.sl e s rows)) (hρ:ρ[i]? = some (.slice (some ⟨b,o,none⟩) l cp))
  (hv:A5 (RdP S w) vs2 news.flatten) (hu:∀ l,l∈news->l.length=s) (hb:lo+news.length<=rows.length) :
  ∃ w',(storeCells ⟨b,o+lo*s,none⟩ vs2).run P w = .ok () w'/\Inv C S w' ρ (R.set i (.sl e s (rows.take lo++(news++rows.drop (lo+news.length)))))/\(∀ k,S k->w'.heap[k]? = w.heap[k]?):=by
 rcases Pk.1 ((hI.ok i _ _ hi hρ).live rfl) with⟨h3,_⟩ | ⟨b',o',cp',vs,h3,hbk,hcap,hmx,hfit,hlen,hcells⟩
 ·cases h3
 ·cases h3
  have hvl:vs2.length=news.length*s:=by rw [hv.length,Dy hu]
  have hle:(lo+news.length)*s<=rows.length*s:=bh _ hb
  have hle2:rows.length*s<=cp*s:=bh _ hcap
  rw [aG] at hle
  have hbound:o+lo*s+vs2.length<=vs.size:=by omega
  refine⟨_,Hz hbk hbound (Xg hv),?_,λ q hq=>B8 _ _ _ _ λ e=>(hI.own i _ _ b hi hρ rfl).1 (e ▸ hq)⟩
  have ob:=hI.own i _ _ b hi hρ rfl
  refine hI.put hi hρ (b:=b) rfl (λ k hk=>by simp [Res.foot] at hk;exact hk.symm) (λ k hk=>B8 _ _ _ _ hk) (by simp) rfl ⟨rfl,λ _=>by first | exact af _ | exact aJ _⟩ rfl (.inr (Pk.2 (.inr ⟨b,o,cp,_,?_,hbk.put (F5 hbound),?_,hmx,?_,?_,?_⟩)))
  ·have:(rows.take lo++(news++rows.drop (lo+news.length))).length=rows.length:=by simp;omega
   rw [this]
  ·have:(rows.take lo++(news++rows.drop (lo+news.length))).length=rows.length:=by simp;omega
   rw [this];exact hcap
  ·rw [F5 hbound];exact hfit
  ·intro r hr
   rcases am.1 hr with hr | hr
   ·exact hlen r (bk hr)
   ·rcases am.1 hr with hr | hr
    ·exact hu r hr
    ·exact hlen r (bX hr)
  ·have hrl:(rows.take lo++(news++rows.drop (lo+news.length))).length=rows.length:=by simp;omega
   rw [hrl,cE,cE]
   have hS:∀ k,S k->(w.setRow b (vs.toList.take (o+lo*s)++vs2++vs.toList.drop (o+lo*s+vs2.length)).toArray).heap[k]? = w.heap[k]?:=λ q hq=>B8 _ _ _ _ λ e=>ob.1 (e ▸ hq)
   have e1:((vs.toList.take (o+lo*s)++vs2++vs.toList.drop (o+lo*s+vs2.length)).drop o).take (rows.length*s) =
     ((vs.toList.drop o).take (rows.length*s)).take (lo*s)++(vs2++((vs.toList.drop o).take (rows.length*s)).drop ((lo+news.length)*s)):=by
    apply bC
    intro q
    have hg:=Hq hbound (o+q)
    simp only [cQ] at hg
    rw [an,ar,hg]
    have hq1:(((vs.toList.drop o).take (rows.length*s)).take (lo*s)).length=lo*s:=by
     simp only [aS,ce,cy];omega
    rcases aN q (lo*s) with hq | hq
    ·rw [aD (by rw [hq1];exact hq),an,if_pos hq,an,if_pos (by omega),if_pos (by omega),if_pos (by omega),ar];simp
    ·rw [aQ (by rw [hq1];exact hq),hq1]
     rcases aN q (lo*s+vs2.length) with hq2 | hq2
     ·rw [aD (by omega),if_pos (by omega),if_neg (by omega),if_pos (by omega)]
      congr 1;omega
     ·rw [aQ (by omega),ar,an,aG]
      rw [show lo*s+news.length*s+(q-lo*s-vs2.length)=q from by omega]
      split
      ·rw [if_neg (by omega),if_neg (by omega),ar];simp
      ·rfl
   rw [e1]
   have ft:∀ n,n<=rows.length->(rows.take n).flatten=rows.flatten.take (n*s):=by
    intro n hn
    have h1:=Dy (λ l hl=>hlen l (bk (i:=n) hl))
    rw [aS,cw hn] at h1
    have h2:rows.flatten=(rows.take n).flatten++(rows.drop n).flatten:=by rw [←cE,bT]
    rw [h2,←h1]
    exact (List.take_left).symm
   have fd:∀ n,n<=rows.length->(rows.drop n).flatten=rows.flatten.drop (n*s):=by
    intro n hn
    have h1:=Dy (λ l hl=>hlen l (bk (i:=n) hl))
    rw [aS,cw hn] at h1
    have h2:rows.flatten=(rows.take n).flatten++(rows.drop n).flatten:=by rw [←cE,bT]
    rw [h2,←h1]
    exact (List.drop_left).symm
   rw [ft lo (by omega),fd (lo+news.length) hb]
   exact ((hcells.take _).append (hv.append (hcells.drop _))).mono λ _ _ h=>h.mono (λ _ h=>h) hS
theorem Ami (hI:Inv C S w ρ R) {c:Cl} {o:Oper} {i k size off n:Nat} {ds:List D} {out:Out} (h:Tt R c o i k size off ds n=some out) (hk:∀ x,out.c=some x->x.ok P) {t:TypeId} {u:Value}
  (hv:A5 (Rd S w ρ) u.cells.toList ds) (hn:B2 P t=some n) {b p len cap:Nat} (hρ:ρ[i]? = some (.slice (some ⟨b,p,none⟩) len cap)) :
  o.dst=none/\∃ w' ρ',(storeVar t ⟨b,p+k*size+off,none⟩ u).run P w = .ok () w'/\D_ C S w ρ out.R undef out.v S w' ρ':=by
 unfold Tt at h
 split at h
 ·rename_i e s g m q1 q2 q3 row q4 rows' hi
  split at h
  ·rename_i s2 tys rows k0 off0 e2 sz2 r1 hg hm
   split at h
   ·rename_i e3 sz3 ht
    cases hb:(Nat.beq s size&&Nat.beq s s2)&&((Nat.beq off off0&&Nat.beq n 1)&&((Nat.blt off s&&o.dst.isNone)&&(Nat.beq e2 e3&&Nat.beq sz2 sz3))) with
    | false=>rw [hb] at h;simp at h
    | true=>
     rw [hb] at h
     simp only [cond_true,ah] at h
     subst h
     simp only [ab] at hb
     obtain⟨⟨b1,b2⟩,⟨b3,b4⟩,⟨b5,b6⟩,b7,b8⟩:=hb
     have h1:=aj b1
     subst h1
     have h1:=aj b2
     subst h1
     have h1:=aj b3
     subst h1
     have h1:=aj b4
     subst h1
     have h1:e2=e3:=aj b7
     subst h1
     have h1:=aj b8
     subst h1
     have hos:off<s:=by simpa [Nat.blt_eq] using b5
     have hdst:o.dst=none:=by cases hd:o.dst <;> simp [hd] at b6;rfl
     obtain⟨k1,k2,k3⟩:=hk _ rfl
     subst k1
     subst k3
     obtain⟨v,hcells,hr⟩:∃ v,u.cells.toList=[v]/\Rd S w ρ v (.os m):=by
      generalize u.cells.toList=l at hv
      match l,hv with
      | [v],hv=>exact⟨v,rfl,hv.1⟩
      | [],hv=>exact hv.elim
      | _::_::_,hv=>exact hv.2.elim
     obtain⟨f,xs,cs,hρg⟩:∃ f xs cs,ρ[g]? = some (.func f xs cs):=by
      obtain⟨f',xs',cs',a1,_⟩:=(hI.ok i _ _ hi hρ).live rfl
      exact⟨f',xs',cs',a1⟩
     exact⟨hdst,hI.putBack hcells hi hg hm hρ hρg hr.os_inv hr.one ht k2 hos hn⟩
   ·cases h
  ·cases h
 ·cases h
theorem Amx (hI:Inv C S w ρ R) {v:Value} {x:AV} {i lo n s:Nat} (hr:RdA S w ρ v x) (h:Vt R x=some (i,lo,n,s)) {e s2:Nat} {rows:List (List Pd)} (hi:R[i]? = some (.sl e s2 rows)) :
  ∃ a c,v = .slice a n c/\lo+n<=rows.length/\(n=0\/(s=s2->∃ b o l cp,ρ[i]? = some (.slice (some ⟨b,o,none⟩) l cp)/\a=some ⟨b,o+lo*s,none⟩)):=by
 unfold Vt at h
 split at h
 ·rename_i j
  split at h
  ·rename_i q s3 rows3 hj
   simp at h
   obtain⟨rfl,rfl,rfl,rfl⟩:=h
   rw [hi] at hj;cases hj
   have hρ:=hr.d_inv.os_inv
   rcases (hI.ok _ _ _ hi hρ).live hr.d_inv.one with⟨h1,h2⟩ | ⟨b,o,cap,vs,h1,_⟩
   ·exact⟨none,0,by rw [h1,h2];rfl,by omega,.inl (by rw [h2];rfl)⟩
   grind
  ·cases h
 ·rename_i j lo' n' s'
  simp at h
  obtain⟨rfl,rfl,rfl,rfl⟩:=h
  have hr':=hr.d_inv
  cases hr' with
  | @osb _ _ _ _ q a len cap hρ hl hc hq hq2=>
   rcases (hI.ok _ _ _ hi hρ).live rfl with⟨h1,h2⟩ | ⟨b,o,cap',vs,h1,_,h3,_⟩
   ·cases h1
    subst h2
    exact⟨_,_,rfl,hl,.inl (by omega)⟩
   ·cases h1
    refine⟨_,_,rfl,hl,?_⟩
    by_cases hn:n'=0
    ·exact .inl hn
    ·refine .inr λ _=>⟨b,o,_,_,hρ,?_⟩
     rw [hq2 (by omega)]
     simp [Cx]
 ·cases h
theorem Ai9 (hI : Inv C S w ρ R) {c : Cl} {ts : Array TypeId} {ty : TypeId} {vs : Array Value} {args : List AV} {out : Out} (hv : A5 (RdA S w ρ) vs.toList args) (h : P0 P R c ts.toList args = some out)
  (hk:∀ x,out.c=some x->x.ok P):∃ v w',(Builtin.clear_ ts ty vs).run P w = .ok v w'/\D_ C S w ρ out.R v out.v S w' ρ:=by
 unfold P0 at h
 split at h
 ·rename_i ts' t x hts
  split at h
  ·rename_i e ht
   split at h
   ·rename_i size zd i lo n s hs hz hd
    split at h
    ·rename_i zs e' s2 rows q1 rows' hdp hi
     cases hb:(Nat.beq s s2&&Nat.beq s (size+1))&&Nat.beq zs.length (size+1) with
     | false=>rw [hb] at h;simp at h
     | true=>
      rw [hb] at h
      simp only [cond_true,ah] at h
      subst h
      simp only [ab] at hb
      have h1:=aj hb.1.1
      subst h1
      have h1:=aj hb.1.2
      subst h1
      have hzl:=aj hb.2
      have k1:=hk _ rfl
      have k1:rows.take lo++(List.replicate n (zs.map Pd.nz)++rows.drop (lo+n))=rows':=k1
      subst k1
      obtain⟨v0,hvs,r0⟩:∃ v0,vs = #[v0]/\RdA S w ρ v0 x:=by
       obtain⟨l⟩:=vs
       match l,hv with
       | [v0],hv=>exact⟨v0,rfl,hv.1⟩
       | [],hv=>exact hv.elim
       | _::_::_,hv=>exact hv.2.elim
      have htsa:ts = #[t]:=by obtain⟨l⟩:=ts;simp at hts;rw [hts]
      subst hvs;subst htsa
      obtain⟨z,hz1,hz2⟩:=Dk hz
      obtain⟨a,cc,rfl,hle,hcase⟩:=Amx hI r0 hd hi
      have hstay:∀ (R2:List Res),R2=R->D_ C S w ρ R2 (.tuple #[]) (.tup []) S w ρ:=λ R2 h=>by subst h;exact⟨hI,λ _ h=>h,λ _ _=>rfl,Pre.refl _,.tup (vs:=[]) rfl (by simp)⟩
      by_cases hn:n=0
      ·subst hn
       refine⟨.tuple #[],w,?_,hstay _ ?_⟩
       ·cases a <;> simp [Builtin.clear_,run_underlying ht]
       ·simp
        apply bC
        intro j
        rw [ay]
        split
        ·rename_i hj;subst hj
         rw [if_pos (aa.1 hi).1,hi]
        ·rfl
      ·rcases hcase with hcase | hcase
       ·exact absurd hcase hn
       ·obtain⟨b,o,l,cp,hρ,rfl⟩:=hcase rfl
        have hzc:=Iy (S:=S) (w:=w) (ρ:=ρ) hz2
        have hzp:=dA (Tz hdp hzc)
        have hfl:A5 (RdP S w) (Builtin.zeroCells z.cells n).toList (List.replicate n (zs.map Pd.nz)).flatten:=by
         rw [show (Builtin.zeroCells z.cells n).toList=Ea n z.cells.toList from Ng _ _]
         exact P7 hzp n
        obtain⟨w',hr,hI',hS⟩:=hI.putRun (P:=P) (lo:=lo) hi hρ hfl (λ l hl=>by rw [cf hl];simpa using hzl) (by simpa using hle)
        simp only [List.length_replicate] at hI'
        refine⟨.tuple #[],w',?_,hI',λ _ h=>h,hS,Pre.refl _,.tup (vs:=[]) rfl (by simp)⟩
        obtain⟨n,rfl⟩:∃ m,n=m+1:=⟨n-1,by omega⟩
        simp [Builtin.clear_,run_underlying ht,E3 hz1,hr]
    ·cases h
   ·cases h
  ·cases h
 ·cases h
theorem Amp (hI : Inv C S w ρ R) {c : Cl} {ts : Array TypeId} {ty : TypeId} {vs : Array Value} {args : List AV} {out : Out} (hv : A5 (RdA S w ρ) vs.toList args) (h : Tv P R c ts.toList args = some out)
  (hk:∀ x,out.c=some x->x.ok P):∃ v w',(Builtin.copy_ ts ty vs).run P w = .ok v w'/\D_ C S w ρ out.R v out.v S w' ρ:=by
 unfold Tv at h
 split at h
 ·rename_i ts' t tr x y hts
  split at h
  ·rename_i e ht
   split at h
   ·rename_i size i lo n s hs hd
    split at h
    ·rename_i src e' s2 rows q1 q2 q3 m q4 rows' hsrc hi
     cases hb:Nat.beq s s2&&Nat.beq s (size+1) with
     | false=>rw [hb] at h;simp at h
     | true=>
      rw [hb] at h
      simp only [cond_true,ah] at h
      subst h
      simp only [ab] at hb
      have h1:=aj hb.1
      subst h1
      have h1:=aj hb.2
      subst h1
      obtain⟨k1,k2,k3⟩:=hk _ rfl
      subst k3
      subst k1
      obtain⟨v0,v1,hvs,r0,r1⟩:∃ v0 v1,vs = #[v0,v1]/\RdA S w ρ v0 x/\RdA S w ρ v1 y:=by
       obtain⟨l⟩:=vs
       match l,hv with
       | [v0,v1],hv=>exact⟨v0,v1,rfl,hv.1,hv.2.1⟩
       | [],hv=>exact hv.elim
       | [_],hv=>exact hv.2.elim
       | _::_::_::_,hv=>exact hv.2.2.elim
      have htsa:ts[0]? = some t:=by obtain⟨l⟩:=ts;simp at hts;simp [hts]
      subst hvs
      obtain⟨a,cc,rfl,hle,hcase⟩:=Amx hI r0 hd hi
      have hm:Nat.min src.length n<=src.length:=Nat.min_le_left _ _
      have hmn:Nat.min src.length n<=n:=Nat.min_le_right _ _
      obtain⟨b2,c2,news,hform,hfc,hall⟩:=vI (P:=P) hI r1 hsrc k2 hm
      subst hform
      have hfc:=hfc w λ _=>rfl
      have hnl:news.toList.length=Nat.min src.length n*(size+1):=by
       have h1:=hall.length
       rw [Dy (λ l hl=>k2 l (bk hl)),aS,cw hm] at h1
       exact h1
      by_cases hn:n=0
      ·subst hn
       have h0:Nat.min src.length 0=0:=Nat.min_zero _
       have hsame:R.set i (.sl e' (size+1) (rows.take lo++(src.take (Nat.min src.length 0)++rows.drop (lo+Nat.min src.length 0))))=R:=by
        rw [h0];simp
        apply bC
        intro j
        rw [ay]
        split
        ·rename_i hj;subst hj
         rw [if_pos (aa.1 hi).1,hi]
        ·rfl
       refine⟨.int .i64 (Nat.min src.length 0:Nat),w,?_,by rw [hsame];exact hI,λ _ h=>h,λ _ _=>rfl,Pre.refl _,Eb rfl⟩
       rw [h0] at hfc hnl
       have hnil:news.toList=[]:=bo (by simpa using hnl)
       cases a <;> simp [Builtin.copy_,htsa,run_underlying ht,Builtin.lenOf,Co hs,hfc,hnil,storeCells,goInt]
      ·rcases hcase with hcase | hcase
       ·exact absurd hcase hn
       ·obtain⟨b,o,l,cp,hρ,rfl⟩:=hcase rfl
        obtain⟨w',hr,hI',hS⟩:=hI.putRun (P:=P) (lo:=lo) hi hρ hall (λ l hl=>k2 l (bk hl)) (by rw [aS,cw hm];omega)
        rw [aS,cw hm] at hI'
        have hcap:n<=maxLen:=by
         rcases (hI.ok _ _ _ hi hρ).live rfl with⟨h1,h2⟩ | ⟨b',o',cap',vs',h1,_,h3,h4,_⟩
         ·cases h1
         ·cases h1;omega
        have hw0:IntKind.i64.wrap (Nat.min src.length n:Nat)=(Nat.min src.length n:Nat):=IntWalk.i64_in _ (by unfold maxLen at hcap;omega)
        refine⟨.int .i64 (Nat.min src.length n:Nat),w',?_,hI',λ _ h=>h,hS,Pre.refl _,Eb rfl⟩
        simp [Builtin.copy_,htsa,run_underlying ht,Builtin.lenOf,Co hs,hfc,hr,goInt]
    ·cases h
   ·cases h
  ·cases h
 ·cases h
theorem Afk {c:Cl} {ts:List TypeId} {i:Nat} {y:AV} {out:Out} {e s:Nat} {rows:List (List Pd)} (h:C3 P R c ts [.d (.os i),y]=some out) (hi:R[i]? = some (.sl e s rows)) :
  ∃ e' s' rows',out.R=R.set i .non++[.sl e' s' rows']:=by
 match ts,h with
 | [t,u],h=>
  simp only [C3,hi] at h
  grind
 | [],h=>simp [C3] at h
 | [_],h=>simp [C3] at h
 | _::_::_::_,h=>simp [C3] at h
theorem Tx {c:Cl} {ts:List TypeId} {i n s:Nat} {y:AV} {out:Out} (h:Lz P R c ts i n s y=some out):∃ r,out.R=R.set i .non++[.non,r]:=by
 unfold Lz at h
 split at h
 ·rename_i e s' rows hi
  cases hb:Nat.beq s' s with
  | false=>rw [hb] at h;simp at h
  | true=>
   rw [hb] at h
   simp only [cond_true] at h
   obtain⟨e2,s2,r2,hr⟩:=Afk h (e:=e) (s:=s') (rows:=rows.take n) (by grind)
   refine⟨.sl e2 s2 r2,?_⟩
   ·rw [hr,List.set_append_right _ _ (by simp)]
    simp only [bn,Nat.sub_self,List.set_cons_zero]
    rw [bB];rfl
 ·cases h
theorem Ab6 (hI : Inv C S w ρ R) {c : Cl} {ts : Array TypeId} {ty : TypeId} {vs : Array Value} {i n s : Nat} {y : AV} {out : Out} (hv : A5 (RdA S w ρ) vs.toList [.d (.osb i 0 n s), y])
  (h:Lz P R c ts.toList i n s y=some out) (hk:∀ x,out.c=some x->x.ok P):∃ v w' ρ',(Builtin.append_ ts ty vs).run P w = .ok v w'/\D_ C S w ρ out.R v out.v S w' ρ':=by
 unfold Lz at h
 split at h
 ·rename_i e s' rows hi
  cases hb:Nat.beq s' s with
  | false=>rw [hb] at h;simp at h
  | true=>
   rw [hb] at h
   simp only [cond_true] at h
   have hss:=aj hb
   subst hss
   obtain⟨vl,hvl⟩:∃ l,l=vs.toList:=⟨_,rfl⟩
   rw [←hvl] at hv
   match vl,hv with
   | [x, z], hv =>
    obtain⟨hx,hz,_⟩:=hv
    cases hx.d_inv with
    | @osb _ _ _ _ q a len cap hρ hl hc hq hq2=>
     have hq0:q=0:=by omega
     subst hq0
     have hone:(Value.slice (a.map (·.add 0)) n (cap-0)).oneCell'=true:=rfl
     have hM:Inv C S w (ρ++[.slice (a.map (·.add 0)) n (cap-0)]) (R.set i .non++[.sl e s' (rows.take n)]):=by
      refine hI.move hi hρ (λ _ _ _=>rfl) (af _) rfl ⟨rfl,λ _=>by first | exact af _ | exact aJ _⟩ rfl (λ k hk=>?_) ?_
      ·cases a with
       | none=>simp [Res.foot] at hk
       | some a0=>simp only [Res.foot,aU] at hk ⊢;exact .inl (by rw [←hk];exact (Gz a0 0).symm)
      ·rcases (hI.ok i _ _ hi hρ).live rfl with⟨h1,h2⟩ | ⟨b,o,cp,vs',h1,h2,h3,h4,h5,h6,h7⟩
       ·cases h1
        have:n=0:=by omega
        subst this
        exact .inr (.inl ⟨rfl,by rw [h2];rfl⟩)
       ·cases h1
        have hnl:(rows.take n).length=n:=by rw [aS];omega
        refine .inr (.inr ⟨b,o,cap,vs',by rw [hnl];rfl,h2,by rw [hnl];omega,h4,h5,λ r hr=>h6 r (bk hr),λ j r hj k d hk=>?_⟩)
        grind
     have hz':=hz.mono (λ _ h=>h) (λ _ _=>rfl) (Pre.append ρ [.slice (a.map (·.add 0)) n (cap-0)])
     have hnew:(ρ++[Value.slice (a.map (·.add 0)) n (cap-0)])[R.length]? = some (.slice (a.map (·.add 0)) n (cap-0)):=by rw [←hI.len];simp
     obtain⟨v,w',ρ',hr,hA⟩:=O7 (ty:=ty) (vs:=vs) hM (by rw [←hvl];exact⟨.d (.os hnew hone),hz',trivial⟩) h hk
     exact⟨v,w',ρ',hr,hA.inv,hA.sub,hA.same,(Pre.append _ _).trans hA.pre,hA.rd⟩
   | [],hv=>exact hv.elim
   | [_],hv=>exact hv.2.elim
   | _::_::_::_,hv=>exact hv.2.2.elim
 ·cases h
theorem Ab7 (hI : Inv C S w ρ R) {c : Cl} {ts : Array TypeId} {ty : TypeId} {vs : Array Value} {i n s : Nat} {y : AV} {out : Out} (hv : A5 (RdA S w ρ) vs.toList [.d (.osb i 0 n s), y])
  (h:L3 P R c ts.toList i n s y=some out) (hk:∀ x,out.c=some x->x.ok P):∃ v w',(Builtin.append_ ts ty vs).run P w = .ok v w'/\D_ C S w ρ out.R v out.v S w' ρ:=by
 unfold L3 at h
 split at h
 ·rename_i ts' t u hts
  cases hb:Nat.beq t u with
  | false=>rw [hb] at h;simp at h
  | true =>
   rw [hb] at h
   simp only [cond_true] at h
   have:=aj hb
   subst this
   split at h
   ·rename_i e ht
    split at h
    ·rename_i size src e' s' rows hs hsrc hi
     split at h
     ·rename_i q1 q2 q3 q4 m q5 rows'
      cases hb2:Nat.beq s' s&&Nat.beq s (size+1) with
      | false=>rw [hb2] at h;simp at h
      | true=>
       rw [hb2] at h
       simp only [cond_true,ah] at h
       subst h
       simp only [ab] at hb2
       have h1:=aj hb2.1
       subst h1
       have h1:=aj hb2.2
       subst h1
       obtain⟨⟨k1,k2⟩,k3,k4⟩:=hk _ rfl
       subst k4
       subst k1
       obtain⟨v0,v1,hvs,r0,r1⟩:∃ v0 v1,vs = #[v0,v1]/\RdA S w ρ v0 (.d (.osb i 0 n (size+1)))/\RdA S w ρ v1 y:=by
        obtain⟨l⟩:=vs
        match l,hv with
        | [v0,v1],hv=>exact⟨v0,v1,rfl,hv.1,hv.2.1⟩
        | [],hv=>exact hv.elim
        | [_],hv=>exact hv.2.elim
        | _::_::_::_,hv=>exact hv.2.2.elim
       have htsa:ts = #[t,t]:=by obtain⟨l⟩:=ts;simp at hts;rw [hts]
       subst hvs;subst htsa
       obtain⟨info,hinfo,hsz⟩:∃ info,P.info? e=some info/\info.size=size+1:=by
        unfold B2 at hs
        exact Dl hs
       obtain⟨b2,c2,news,hxf,hfc,hnr⟩:=Ald (P:=P) hI r1 hsrc k3
       have hfc:=hfc w λ _=>rfl
       rw [←hsz] at hfc
       subst hxf
       have r0':=r0.d_inv
       cases r0' with
       | @osb _ _ _ _ q a len cap hρ hl hc hq hq2=>
        have hq0:q=0:=by omega
        subst hq0
        have hadd:a.map (·.add 0)=a:=by cases a <;> simp [Ug]
        rw [hadd]
        rcases (hI.ok _ _ _ hi hρ).live rfl with⟨h1,h2⟩ | ⟨b,o,cap',vs',h1,hblk,h3,h4,h5,_⟩
        ·cases h1
         subst h2
         have hn0:n=0:=by omega
         subst hn0
         have hs0:src=[]:=bo (by simp only [bE] at k2;omega)
         subst hs0
         have hnn:news = #[]:=by
          have:=hnr.length
          apply Array.eq_empty_of_size_eq_zero
          simpa using this
         subst hnn
         refine⟨.slice none 0 0,w,?_,?_,λ _ h=>h,λ _ _=>rfl,Pre.refl _,?_⟩
         ·simp at hfc
          simp [Builtin.append_,run_underlying ht,sizeOf,typeInfo,hinfo,Builtin.lenOf,hfc]
         ·have hsame:R.set i (.sl e' (size+1) (List.take 0 []++([]++List.drop (0+0) [])))=R:=by
           apply bC
           intro j
           rw [ay]
           split
           ·rename_i hj;subst hj
            rw [if_pos (aa.1 hi).1,hi];rfl
           ·rfl
          have hI2:=hI
          rw [←hsame] at hI2
          exact hI2
         ·have:=Rd.osb (S:=S) (w:=w) (lo:=0) (n:=0) (size:=size+1) (q:=0) hρ (by omega) (by omega) (by omega) (by omega)
          exact .d this
        ·cases h1
         obtain⟨w',hr,hI',hS⟩:=hI.putRun (P:=P) hi hρ (lo:=n) hnr k3 k2
         refine⟨.slice (some ⟨b,o,none⟩) (n+src.length) cap,w',?_,hI',λ _ h=>h,hS,Pre.refl _,?_⟩
         ·have hroom:n+src.length<=cap:=by omega
          rw [←hsz] at hr
          simp [Builtin.append_,run_underlying ht,sizeOf,typeInfo,hinfo,Builtin.lenOf,hroom,hfc,Cx,hr]
         ·have:=Rd.osb (S:=S) (w:=w') (lo:=0) (n:=n+src.length) (size:=size+1) (q:=0) hρ (by omega) (by omega) (by omega) (by omega)
          rw [hadd] at this
          exact .d this
     ·cases h
    ·cases h
   ·cases h
 ·cases h
end
end Go.SL
namespace Go.SL
section
variable {P:Program} {C:Ctx} {S S':Nat->Prop} {w w':World} {ρ ρ':List Value} {R:List Res} {L:List Ent} {cur:C_} {a:Act}
def FR (ro:Option Nat):Fence:={Fence.wide with round:=ro}
def X6 (o:Oper):Prop:=∀ c,o.op ≠ .defer c
def A2f (P:Program) (o:Oper) (a:Act) (K:Act->World->Prop):Result Next->Prop
 | .ok (.value v) w'=>K (a.put o.dst v) w'
 | .ok .skip w'=>K (a.put o.dst undef) w'
 | .ok (.enter f args) w'=>Calls P f args w' λ e w''=>∃ v,e = .returned v/\K (a.put o.dst v) w''
 | _=>False
def wpv (P:Program) (o:Oper) (a:Act) (w:World) (K:Act->World->Prop):Prop:=A2f P o a K ((execOp a.eval o).run P w)
theorem Axg {ro:Option Nat} {o:Oper} {K:Act->World->Prop} {Q:Exit->Act->World->Prop} (hd:X6 o) (h:wpv P o a w K):o.wpIn (FR ro) 0 P a w K Q:=by
 refine⟨λ _ _=>trivial,?_⟩
 rw [Oper.semAt_eq (FR ro).round a.eval o hd]
 unfold wpv at h
 generalize (execOp a.eval o).run P w=r at h
 match r,h with
 | .ok (.value v) w',h=>exact h
 | .ok .skip w',h=>exact h
 | .ok (.enter f args) w',h=>
  refine⟨(λ h=>by cases h),?_⟩
  have h2:CallsIn Fence.wide 0 P f args w' λ e w''=>∃ v,e = .returned v/\K (a.put o.dst v) w'':=callsIn_wide.2 h
  refine CallsIn.mono (F:=FR ro) h2 λ e w'' hp=>?_
  obtain⟨v,rfl,hk⟩:=hp
  exact hk
theorem Ds {o:Oper} {K:Act->World->Prop} {v:Value} (h:(execOp a.eval o).run P w = .ok (.value v) w') (hK:K (a.put o.dst v) w'):wpv P o a w K:=by
 unfold wpv;rw [h];exact hK
theorem Yi {c:Cl} {o:Oper} {out:Out} (h:I8 P L cur R c o=some out):X6 o:=by
 intro k hk
 obtain⟨dst,op,type,pos,after,guard⟩:=o
 simp only at hk
 subst hk
 simp [I8,Cq] at h
theorem Ajq (hI:Inv C S w ρ R) {v:Value} {av:AV} (h:RdA S w ρ v av):D_ C S w ρ R v av S w ρ:=⟨hI,λ _ h=>h,λ _ _=>rfl,Pre.refl _,h⟩
theorem qI:∀ {ds:List D} {ps:List Pd},dPs ds=some ps->ds.length=ps.length
 | [],ps,h=>by simp [dPs] at h;subst h;rfl
 | d::r,ps,h=>by
  simp only [dPs] at h
  split at h
  ·rename_i x l h1 h2
   simp at h;subst h
   simp [qI h2]
  ·cases h
theorem Inv.putRow (hI:Inv C S w ρ R) {i k s off n b o l cp:Nat} {t e:TypeId} {rows:List (List Pd)} {row ps:List Pd} {v:Value} (hi:R[i]? = some (.sl e s rows)) (hρ:ρ[i]? = some (.slice (some ⟨b,o,none⟩) l cp))
  (hv:A5 (RdP S w) v.cells.toList ps) (hn:B2 P t=some n) (hl:ps.length=n) (ho:off+n<=s) (hrow:rows[k]? = some row) :
  ∃ w',(storeVar t ⟨b,o+k*s+off,none⟩ v).run P w = .ok () w'/\Inv C S w' ρ (R.set i (.sl e s (rows.set k (row.take off++(ps++row.drop (off+n))))))/\(∀ k,S k->w'.heap[k]? = w.heap[k]?):=by
 have hklt:k<rows.length:=(aa.1 hrow).1
 rcases (hI.ok i _ _ hi hρ).live rfl with⟨h3,h4⟩ | ⟨b',o',cp',vs,h3,hb,hcap,hmx,hfit,hlen,hcells⟩
 ·cases h3
 ·cases h3
  have hrl:row.length=s:=hlen row (ae hrow)
  have hsz:v.cells.size=n:=by have:=hv.length;simpa [hl] using this
  have hk1:(k+1)*s<=cp*s:=bh _ (by omega)
  rw [aG,cd] at hk1
  have hbound:o+k*s+off+n<=vs.size:=by omega
  have hone:∀ x,x∈v.cells.toList->x.oneCell'=true:=Xg hv
  refine⟨_,L9 hn hsz hb hbound hone,?_,?_⟩
  ·have ob:=hI.own i _ _ b hi hρ rfl
   refine hI.put hi hρ (b:=b) rfl (λ k hk=>by simp [Res.foot] at hk;exact hk.symm) (λ k hk=>B8 _ _ _ _ hk) (by simp) rfl ⟨rfl,λ _=>by first | exact af _ | exact aJ _⟩ rfl ?_
   have hS:∀ q,S q->(w.setRow b (vs.toList.take (o+k*s+off)++v.cells.toList++vs.toList.drop (o+k*s+off+v.cells.toList.length)).toArray).heap[q]? = w.heap[q]?:=λ q hq=>B8 _ _ _ _ (λ e=>ob.1 (e ▸ hq))
   have hvl:v.cells.toList.length=n:=by simpa using hsz
   refine .inr (.inr ⟨b,o,cp,_,by simp,hb.put (by simp only [bY,aF,aS,ce,hvl];simp only [cy];omega),by simpa using hcap,hmx,?_,λ r hr=>?_,λ i2 r hi2 j d hj=>?_⟩)
   ·simp only [bY,aF,aS,ce,hvl]
    simp only [cy]
    omega
   ·rcases cD hr with h | h
    ·exact hlen r h
    ·subst h;simp;omega
   ·have hil:i2<rows.length:=by have:=(aa.1 hi2).1;simpa using this
    have hjl:j<s:=by
     have hm:=ae hi2
     have:r.length=s:=by
      rcases cD hm with h | h
      ·exact hlen r h
      ·subst h;simp;omega
     rw [←this];exact (aa.1 hj).1
    have hget:∀ q,((vs.toList.take (o+k*s+off)++v.cells.toList++vs.toList.drop (o+k*s+off+v.cells.toList.length)).toArray)[q]? = if q<o+k*s+off then vs[q]? else if q<o+k*s+off+n then v.cells[q-(o+k*s+off)]? else vs[q]?:=by
     intro q
     simp only [cQ]
     have hA:(vs.toList.take (o+k*s+off)).length=o+k*s+off:=by simp;omega
     split
     ·rename_i hq
      rw [bB,aD (by rw [hA];exact hq),an,if_pos hq];simp
     ·rename_i hq
      rw [bB,aQ (by rw [hA];omega),hA]
      split
      ·rename_i hq2
       rw [aD (by rw [hvl];omega)];simp
      ·rename_i hq2
       rw [aQ (by rw [hvl];omega),hvl,ar]
       simp only [bZ]
       congr 1;omega
    by_cases hik:i2=k
    ·subst hik
     rw [bD hil] at hi2
     cases hi2
     rcases aN j off with hj1 | hj1
     ·rw [aD (by simp;omega),an,if_pos hj1] at hj
      obtain⟨x,g1,g2⟩:=hcells i2 row hrow j d hj
      exact⟨x,by rw [hget,if_pos (by omega)];exact g1,g2.mono (λ _ h=>h) hS⟩
     ·rw [aQ (by simp;omega)] at hj
      have htl:(row.take off).length=off:=by simp;omega
      rw [htl] at hj
      rcases aN (j-off) ps.length with hj2 | hj2
      ·rw [aD hj2] at hj
       obtain⟨x,g1,g2⟩:=hv.get hj
       refine⟨x,?_,g2.mono (λ _ h=>h) hS⟩
       rw [hget,if_neg (by omega),if_pos (by omega)]
       rw [←bZ,←g1];congr 1;omega
      ·rw [aQ hj2,ar] at hj
       obtain⟨x,g1,g2⟩:=hcells i2 row hrow j d (by rw [←hj];congr 1;omega)
       refine⟨x,?_,g2.mono (λ _ h=>h) hS⟩
       rw [hget,if_neg (by omega),if_neg (by omega)];exact g1
    ·rw [bt (Ne.symm hik)] at hi2
     obtain⟨x,g1,g2⟩:=hcells i2 r hi2 j d hj
     refine⟨x,?_,g2.mono (λ _ h=>h) hS⟩
     have hsep:o+i2*s+j<o+k*s+off\/o+k*s+off+n<=o+i2*s+j:=by
      rcases Nat.lt_or_gt_of_ne hik with h | h
      ·have:(i2+1)*s<=k*s:=bh _ h
       rw [aG,cd] at this
       left;omega
      ·have:(k+1)*s<=i2*s:=bh _ h
       rw [aG,cd] at this
       right;omega
     rw [hget]
     rcases hsep with h | h
     ·rw [if_pos h];exact g1
     ·rw [if_neg (by omega),if_neg (by omega)];exact g1
  ·intro q hq
   exact B8 _ _ _ _ (λ e=>(hI.own i _ _ b hi hρ rfl).1 (e ▸ hq))
theorem Arp (hI:Inv C S w ρ R) {c:Cl} {o:Oper} {i k size off n:Nat} {ds:List D} {out:Out} (hput:Rf R c o i k size off ds n=some out) (hk:∀ x,out.c=some x->x.ok P) {t:TypeId} {u:Value}
  (hy:A5 (Rd S w ρ) u.cells.toList ds) (e3:B2 P t=some n) {b p len cap:Nat} (hρ:ρ[i]? = some (.slice (some ⟨b,p,none⟩) len cap)) :
  o.dst=none/\∃ w',(storeVar t ⟨b,p+k*size+off,none⟩ u).run P w = .ok () w'/\D_ C S w ρ out.R undef out.v S w' ρ:=by
 unfold Rf at hput
 split at hput
 ·rename_i e s rows q1 q2 row q3 rows' ps hi hps
  cases hb:(Nat.beq s size&&(Nat.beq ds.length n&&(Nat.ble (off+n) size&&o.dst.isNone))) with
  | false=>rw [hb] at hput;simp at hput
  | true=>
   rw [hb] at hput
   simp at hput;subst hput
   simp only [ab] at hb
   obtain⟨b0,b1,b2,b3⟩:=hb
   have hss:=aj b0
   subst hss
   obtain⟨k1,k2⟩:=hk _ rfl
   obtain⟨w',hr,hI',hS⟩:=hI.putRow hi hρ (Tz hps hy) e3 (by rw [←qI hps];exact aj b1) (bq b2) k1
   rw [k2] at hI'
   have hdst:o.dst=none:=by cases hd:o.dst <;> simp [hd] at b3;rfl
   exact⟨hdst,w',hr,hI',λ _ h=>h,hS,Pre.refl _,.tup (vs:=[]) rfl (by simp)⟩
 ·cases hput
theorem Amh (hI:Inv C S w ρ R) {c:Cl} {o:Oper} {i k size off n:Nat} {ds:List D} {out:Out} (h:Ts R c o i k size off ds n=some out) (hk:∀ x,out.c=some x->x.ok P) {t:TypeId} {u:Value}
  (hy:A5 (Rd S w ρ) u.cells.toList ds) (e3:B2 P t=some n) {b p len cap:Nat} (hρ:ρ[i]? = some (.slice (some ⟨b,p,none⟩) len cap)) :
  o.dst=none/\∃ w' S',(storeVar t ⟨b,p+k*size+off,none⟩ u).run P w = .ok () w'/\D_ C S w ρ out.R undef out.v S' w' ρ:=by
 unfold Ts at h
 split at h
 ·rename_i m
  split at h
  ·rename_i e2 s2 rows2 hm
   cases hb:Nat.beq m i with
   | true=>rw [hb] at h;simp at h
   | false=>
    rw [hb] at h
    simp only [cond_false] at h
    obtain⟨v,hcells,hr⟩:∃ v,u.cells.toList=[v]/\Rd S w ρ v (.os m):=by
     generalize u.cells.toList=l at hy
     match l,hy with
     | [v],hv=>exact⟨v,rfl,hv.1⟩
     | [],hv=>exact hv.elim
     | _::_::_,hv=>exact hv.2.elim
    have hρm:=hr.os_inv
    have hf:=hI.freeze hm hρm
    have hfz:=Res.ok0.frozen ((hI.ok m _ _ hm hρm).live hr.one)
    have hy':A5 (Rd (λ b=>S b\/(Res.sl e2 s2 rows2).foot v b) w ρ) u.cells.toList [.p (.s rows2)]:=by
     rw [hcells]
     exact⟨.p hfz,trivial⟩
    obtain⟨hd,w',hr',hA⟩:=Arp hf h hk hy' e3 hρ
    obtain⟨a1,a2,a3,a4,a5⟩:=hA
    exact⟨hd,w',_,hr',a1,λ b hb=>a2 b (.inl hb),λ b hb=>a3 b (.inl hb),a4,a5⟩
  ·cases h
 ·cases h
theorem Agi (hI : Inv C S w ρ R) (hL : Ci S w ρ a L) (hp : pt a cur) {c : Cl} {o : Oper} {out : Out} (h : I8 P L cur R c o = some out)
  (hk:∀ x,out.c=some x->x.ok P) {K:Act->World->Prop}
  (hK:∀ v w' S' ρ',D_ C S w ρ out.R v out.v S' w' ρ'->K (a.put o.dst v) w'):wpv P o a w K:=by
 unfold I8 at h
 split at h
 ·rename_i v k hv
  simp at h;subst h
  obtain⟨x,hx,hr⟩:=Amj hI hL hp hv hk
  exact Ds hx (hK x w S ρ (Ajq hI hr))
 ·obtain⟨dst,op,type,pos,after,guard⟩:=o
  simp only at h hK
  cases op with
  | box t x=>
   simp only at h
   split at h
   ·rename_i cells n e1 e2
    cases hb:Nat.beq cells.length n with
    | false=>rw [hb] at h;simp at h
    | true=>
     rw [hb] at h
     simp at h;subst h
     obtain⟨av,h1,h2⟩:=Dk e1
     have hcells:=M2 (Bw hL hp h1) h2
     have hA:=hI.newBox (t:=t) hcells
     refine Ds ?_ (hK _ _ _ _ hA)
     simp [execOp,Instr.box,newVar,newRow]
   ·cases h
  | alloc t=>
   simp only at h
   split at h
   ·rename_i cells e1
    simp at h;subst h
    obtain⟨z,hz,hd⟩:=Dk e1
    have hA:=hI.newBox (t:=t) (Iy (S:=S) (w:=w) (ρ:=ρ) hd)
    refine Ds ?_ (hK _ _ _ _ hA)
    simp [execOp,Instr.alloc,newVar,newRow,E3 hz]
   ·cases h
  | store t x y=>
   simp only at h
   cases hc:cur.isEmpty with
   | false=>rw [hc] at h;simp at h
   | true=>
    rw [hc] at h
    simp only [cond_true] at h
    split at h
    ·rename_i i off ds n e1 e2 e3
     split at h
     ·rename_i u cells hi
      cases hb:(Nat.beq ds.length n&&Nat.ble (off+n) cells.length&&dst.isNone) with
      | false=>rw [hb] at h;simp at h
      | true=>
       rw [hb] at h
       simp at h;subst h
       simp only [ab] at hb
       obtain⟨⟨b1,b2⟩,b3⟩:=hb
       obtain⟨b,hx,hρ⟩:=(Bw hL hp e1).d_inv.o_inv
       obtain⟨av,h1,h2⟩:=Dk e2
       have hy:=M2 (Bw hL hp h1) h2
       obtain⟨w',hr,hI',hS⟩:=hI.store hi hρ hy e3 (aj b1) (bq b2)
       have hdst:dst=none:=by cases dst <;> simp at b3;rfl
       subst hdst
       unfold wpv
       have:(execOp a.eval ⟨none,.store t x y,type,pos,after,guard⟩).run P w = .ok .skip w':=by
        simp only [execOp,Sem.run_bind,hx,Instr.storeAt,Instr.sureAddr,Sem.run_pure,Result.andThen_ok,hr]
       rw [this]
       exact hK undef w' S ρ ⟨hI',λ _ h=>h,hS,Pre.refl _,.tup (vs:=[]) rfl (by simp)⟩
     ·cases h
    ·rename_i i k size off ds n e1 e2 e3
     obtain⟨b,o,l,cp,hx,hρ⟩:=(Bw hL hp e1).d_inv.oe_inv
     obtain⟨av,h1,h2⟩:=Dk e2
     have hy:=M2 (Bw hL hp h1) h2
     have fin:∀ w' ρ',dst=none->(storeVar t ⟨b,o+k*size+off,none⟩ (a.eval y)).run P w = .ok () w'->D_ C S w ρ out.R undef out.v S w' ρ'->wpv P ⟨dst,.store t x y,type,pos,after,guard⟩ a w K:=by
      intro w' ρ' hdst hr hA
      subst hdst
      unfold wpv
      have:(execOp a.eval ⟨none,.store t x y,type,pos,after,guard⟩).run P w = .ok .skip w':=by
       simp only [execOp,Sem.run_bind,hx,Instr.storeAt,Instr.sureAddr,Sem.run_pure,Result.andThen_ok,hr]
      rw [this]
      exact hK undef w' S ρ' hA
     split at h
     ·rename_i out' hput
      simp at h;subst h
      unfold Rf at hput
      split at hput
      ·rename_i e s rows q1 q2 row q3 rows' ps hi hps q4
       cases hb:(Nat.beq s size&&(Nat.beq ds.length n&&(Nat.ble (off+n) size&&dst.isNone))) with
       | false=>rw [hb] at hput;simp at hput
       | true=>
        rw [hb] at hput
        simp at hput;subst hput
        simp only [ab] at hb
        obtain⟨b0,b1,b2,b3⟩:=hb
        have hss:=aj b0
        subst hss
        obtain⟨k1,k2⟩:=hk _ rfl
        obtain⟨w',hr,hI',hS⟩:=hI.putRow hi hρ (Tz hps hy) e3 (by rw [←qI hps];exact aj b1) (bq b2) k1
        rw [k2] at hI'
        have hdst:dst=none:=by cases dst <;> simp at b3;rfl
        exact fin w' ρ hdst hr ⟨hI',λ _ h=>h,hS,Pre.refl _,.tup (vs:=[]) rfl (by simp)⟩
      ·cases hput
     ·split at h
      ·rename_i out' hput
       simp at h;subst h
       obtain⟨hdst,w',ρ',hr,hA⟩:=Ami hI hput hk hy e3 hρ
       exact fin w' ρ' hdst hr hA
      ·obtain⟨hdst,w',S',hr,hA⟩:=Amh hI h hk hy e3 hρ
       have hdst':dst=none:=hdst
       subst hdst'
       unfold wpv
       have:(execOp a.eval ⟨none,.store t x y,type,pos,after,guard⟩).run P w = .ok .skip w':=by
        simp only [execOp,Sem.run_bind,hx,Instr.storeAt,Instr.sureAddr,Sem.run_pure,Result.andThen_ok,hr]
       rw [this]
       exact hK undef w' S' ρ hA
    ·cases h
  | buildSlice t len parts=>
   simp only at h
   split at h
   ·rename_i ps e1
    obtain⟨_,v,w',S',ρ',hr,hA⟩:=Yl hI (Kl hL hp e1) h
    refine Ds ?_ (hK _ _ _ _ hA)
    have e:(parts.map λ (x:Nat×Operand)=>(x.1,a.eval x.2))=(parts.toList.map λ x=>(x.1,a.eval x.2)).toArray:=by apply Array.ext';simp
    simp only [execOp,Sem.run_bind]
    have e':(parts.map fun | (i,x)=>(i,a.eval x))=(parts.toList.map λ x=>(x.1,a.eval x.2)).toArray:=e
    rw [e',hr]
    rfl
   ·cases h
  | convert s d x=>
   simp only at h
   unfold Pz at h
   split at h
   ·rename_i o1 h0
    cases h
    obtain⟨hR,v,v',w',S',hx,hr,hA⟩:=Amq (ρ:=ρ) hI h0 hk
    have:=Bq hL hp hx
    refine Ds ?_ (hK v' w' S' ρ (by rw [hR];exact hA))
    simp only [execOp,this,Sem.run_bind,hr]
    rfl
   ·split at h
    ·rename_i o1 h0
     cases h
     obtain⟨v,v',w',ρ',hx,hr,hA⟩:=Ai7 (ρ:=ρ) hI h0 hk
     have:=Bq hL hp hx
     refine Ds ?_ (hK v' w' S ρ' hA)
     simp only [execOp,this,Sem.run_bind,hr]
     rfl
    ·obtain⟨v',w',hr,hA⟩:=Ai8 (ρ:=ρ) (v:=a.eval x) hI h λ y hy=>Bw hL hp hy
     refine Ds ?_ (hK v' w' S ρ hA)
     simp only [execOp,Sem.run_bind,hr]
     rfl
  | makeSlice t l k=>
   simp only at h
   cases hc:K1 l k with
   | false=>rw [hc] at h;simp at h
   | true=>
    rw [hc] at h
    simp only [cond_true] at h
    have hlk:l=k:=by
     have:=hc
     unfold K1 at this
     split at this
     ·rw [aj this]
     ·rw [eq_of_beq this]
     ·cases this
    subst hlk
    obtain⟨v,w',ρ',x,hx,hr,hA⟩:=Aml hI h hk
    have:=Bq hL hp hx
    refine Ds ?_ (hK _ _ _ _ hA)
    simp only [execOp,this,Sem.run_bind,hr]
    rfl
  | call kk=>
   obtain⟨callee,cargs,argTypes⟩:=kk
   have hl:(cargs.map a.eval).toList=cargs.toList.map a.eval:=by simp
   cases callee with
   | invoke r m=>simp at h
   | builtin b=>
    cases b with
    | append=>
     simp only at h
     split at h
     ·rename_i i g q size off y e1
      have hargs:=Fc hL hp e1
      rw [←hl] at hargs
      obtain⟨v,w',ρ',hr,hA⟩:=Ab8 (ty:=type) hI hargs h hk
      refine Ds ?_ (hK _ _ _ _ hA)
      simp only [execOp,resolve,Sem.run_bind,Sem.run_pure,Result.andThen_ok,invoke,builtin,hr]
     ·rename_i i n s y e1
      have hargs:=Fc hL hp e1
      rw [←hl] at hargs
      unfold Om at h
      split at h
      ·obtain⟨v,w',hr,hA⟩:=Ab7 (ty:=type) hI hargs h hk
       refine Ds ?_ (hK _ _ _ _ hA)
       simp only [execOp,resolve,Sem.run_bind,Sem.run_pure,Result.andThen_ok,invoke,builtin,hr]
      ·obtain⟨v,w',ρ',hr,hA⟩:=Ab6 (ty:=type) hI hargs h hk
       refine Ds ?_ (hK _ _ _ _ hA)
       simp only [execOp,resolve,Sem.run_bind,Sem.run_pure,Result.andThen_ok,invoke,builtin,hr]
     ·rename_i args _ _ e1
      have hargs:=Fc hL hp e1
      rw [←hl] at hargs
      obtain⟨v,w',ρ',hr,hA⟩:=O7 (ty:=type) hI hargs h hk
      refine Ds ?_ (hK _ _ _ _ hA)
      simp only [execOp,resolve,Sem.run_bind,Sem.run_pure,Result.andThen_ok,invoke,builtin,hr]
     ·cases h
    | clear=>
     simp only at h
     split at h
     ·rename_i args e1
      have hargs:=Fc hL hp e1
      rw [←hl] at hargs
      obtain⟨v,w',hr,hA⟩:=Ai9 (ty:=type) hI hargs h hk
      refine Ds ?_ (hK _ _ _ _ hA)
      simp only [execOp,resolve,Sem.run_bind,Sem.run_pure,Result.andThen_ok,invoke,builtin,hr]
     ·cases h
    | copy=>
     simp only at h
     split at h
     ·rename_i args e1
      have hargs:=Fc hL hp e1
      rw [←hl] at hargs
      obtain⟨v,w',hr,hA⟩:=Amp (ty:=type) hI hargs h hk
      refine Ds ?_ (hK _ _ _ _ hA)
      simp only [execOp,resolve,Sem.run_bind,Sem.run_pure,Result.andThen_ok,invoke,builtin,hr]
     ·cases h
    | _=>simp at h
   | value f=>
    simp only at h
    split at h
    ·rename_i g first caps args e1 e2
     obtain⟨xs,cs,hf,hxs,hcs⟩:=(Bw hL hp e1).d_inv.fn_inv
     have hargs:=Fc hL hp e2
     have hall:A5 (RdA S w ρ) (xs++cargs.toList.map a.eval++cs) (first.map AV.d++args++caps.map AV.d):=
      ((hxs.map_right λ _ _ h=>.d h).append hargs).append (hcs.map_right λ _ _ h=>.d h)
     obtain⟨hent,hcall⟩:=Amr hI hall h hk
     unfold wpv
     have:(execOp a.eval ⟨dst,.call ⟨.value f,cargs,argTypes⟩,type,pos,after,guard⟩).run P w = .ok (.enter g (xs++cargs.toList.map a.eval++cs).toArray) w:=by
      simp only [execOp,resolve,hf,Deferred.ofValue,Sem.run_bind,Sem.run_pure,Result.andThen_ok,invoke]
      rw [hent]
      congr 2
      apply Array.ext'
      simp
     rw [this]
     refine Calls.mono hcall λ e w' hpost=>?_
     obtain⟨v,S',ρ',rfl,hA⟩:=hpost
     exact⟨v,rfl,hK v w' S' ρ' hA⟩
    ·cases h
  | _=>simp at h
def Fg (R R':List Res):Prop:=∃ R1 l,R'=R1++l/\R1.length=R.length/\∀ (i:Nat) r,R1[i]? = some r->r = .non\/R[i]? = some r
theorem Fg.refl (R:List Res):Fg R R:=⟨R,[],by simp,rfl,λ _ _ h=>.inr h⟩
theorem Fg.app (R l:List Res):Fg R (R++l):=⟨R,l,rfl,rfl,λ _ _ h=>.inr h⟩
theorem Qp:undef.oneCell'=false:=rfl
theorem Inv.skip {R':List Res} (h:Inv C S w ρ R) (hg:Fg R R'):∃ ρ',Inv C S w ρ' R'/\Pre ρ ρ':=by
 obtain⟨R1,l,rfl,hl,hr⟩:=hg
 have key:∀ (i:Nat) r v,(R1++l)[i]? = some r->(ρ++List.replicate l.length undef)[i]? = some v->v.oneCell'=false\/r = .non\/(R[i]? = some r/\ρ[i]? = some v):=by
  intro i r v h1 h2
  rcases aN i R1.length with hi | hi
  ·rw [aD hi] at h1
   rw [aD (by rw [h.len,←hl];exact hi)] at h2
   grind
  ·rw [aQ (by rw [h.len,←hl];exact hi)] at h2
   have:=ae h2
   rw [cf this]
   exact .inl Qp
 refine⟨ρ++List.replicate l.length undef,⟨by simp [h.len,hl],λ i r v h1 h2=>?_,λ i j r r' v v' b hij h1 h2 h3 h4 h5 h6=>?_,λ i r v b h1 h2 h3=>?_,h.sub,h.sup,h.frm,h.size,h.os,h.tape,h.output,h.pre.trans (Pre.append _ _),h.gl⟩,Pre.append _ _⟩
 ·rcases key i r v h1 h2 with hd | rfl | ⟨g1,g2⟩
  ·exact .inl hd
  ·exact .inr trivial
  ·exact (h.ok i r v g1 g2).mono (λ _ h=>h) (λ _ _=>rfl) (Pre.append _ _) (λ _ _=>rfl)
 ·rcases key i r v h1 h3 with hd | rfl | ⟨g1,g2⟩
  ·exact absurd h5 (d6 hd _)
  ·simp [Res.foot] at h5
  ·rcases key j r' v' h2 h4 with hd | rfl | ⟨m1,m2⟩
   ·exact absurd h6 (d6 hd _)
   ·simp [Res.foot] at h6
   ·exact h.dis i j r r' v v' b hij g1 m1 g2 m2 h5 h6
 ·rcases key i r v h1 h2 with hd | rfl | ⟨g1,g2⟩
  ·exact absurd h3 (d6 hd _)
  ·simp [Res.foot] at h3
  ·exact h.own i r v b g1 g2 h3
theorem Inv.dummies (h:Inv C S w ρ R) (l:List Res):∃ ρ',Inv C S w ρ' (R++l)/\Pre ρ ρ'/\∀ i,R.length<=i->i<R.length+l.length->∃ x,ρ'[i]? = some x/\x.oneCell'=false:=by
 have key:∀ (i:Nat) r v,(R++l)[i]? = some r->(ρ++List.replicate l.length undef)[i]? = some v->v.oneCell'=false\/(R[i]? = some r/\ρ[i]? = some v):=by
  intro i r v h1 h2
  rcases aN i R.length with hi | hi
  ·rw [aD hi] at h1
   rw [aD (by rw [h.len];exact hi)] at h2
   exact .inr ⟨h1,h2⟩
  ·rw [aQ (by rw [h.len];exact hi)] at h2
   have:=ae h2
   rw [cf this]
   exact .inl Qp
 refine⟨ρ++List.replicate l.length undef,⟨by simp [h.len],λ i r v h1 h2=>?_,λ i j r r' v v' b hij h1 h2 h3 h4 h5 h6=>?_,λ i r v b h1 h2 h3=>?_,h.sub,h.sup,h.frm,h.size,h.os,h.tape,h.output,h.pre.trans (Pre.append _ _),h.gl⟩,Pre.append _ _,λ i h1 h2=>⟨undef,?_,Qp⟩⟩
 ·rcases key i r v h1 h2 with hd | ⟨g1,g2⟩
  ·exact .inl hd
  ·exact (h.ok i r v g1 g2).mono (λ _ h=>h) (λ _ _=>rfl) (Pre.append _ _) (λ _ _=>rfl)
 ·rcases key i r v h1 h3 with hd | ⟨g1,g2⟩
  ·exact absurd h5 (d6 hd _)
  ·rcases key j r' v' h2 h4 with hd | ⟨m1,m2⟩
   ·exact absurd h6 (d6 hd _)
   ·exact h.dis i j r r' v v' b hij g1 m1 g2 m2 h5 h6
 ·rcases key i r v h1 h2 with hd | ⟨g1,g2⟩
  ·exact absurd h3 (d6 hd _)
  ·exact h.own i r v b g1 g2 h3
 ·rw [aQ (by rw [h.len];exact h1),List.getElem?_replicate,if_pos (by rw [h.len];omega)]
mutual
theorem D.ren_back {f g:Nat->Option Nat} (hfg:∀ i j k,f i=some j->g j=some k->k=i):∀ (d d' d'':D),D.ren f d=some d'->D.ren g d'=some d''->d''=d
 | .p x,d',d'',h,k=>by simp [D.ren] at h;subst h;simp [D.ren] at k;exact k.symm
 | .o i off,d',d'',h,k=>by
  simp only [D.ren] at h
  split at h
  ·rename_i j hj
   simp at h;subst h
   simp only [D.ren] at k
   split at k
   ·rename_i m hm
    simp at k;subst k
    rw [hfg _ _ _ hj hm]
   ·cases k
  ·cases h
 | .os i,d',d'',h,k=>by
  simp only [D.ren] at h
  split at h
  ·rename_i j hj
   simp at h;subst h
   simp only [D.ren] at k
   split at k
   ·rename_i m hm
    simp at k;subst k
    rw [hfg _ _ _ hj hm]
   ·cases k
  ·cases h
 | .oe i a b c,d',d'',h,k=>by
  simp only [D.ren] at h
  split at h
  ·rename_i j hj
   simp at h;subst h
   simp only [D.ren] at k
   split at k
   ·rename_i m hm
    simp at k;subst k
    rw [hfg _ _ _ hj hm]
   ·cases k
  ·cases h
 | .osb i a b c,d',d'',h,k=>by
  simp only [D.ren] at h
  split at h
  ·rename_i j hj
   simp at h;subst h
   simp only [D.ren] at k
   split at k
   ·rename_i m hm
    simp at k;subst k
    rw [hfg _ _ _ hj hm]
   ·cases k
  ·cases h
 | .oi i q a b c,d',d'',h,k=>by
  simp only [D.ren] at h
  split at h
  ·rename_i j j2 hj hj2
   simp at h;subst h
   simp only [D.ren] at k
   split at k
   ·rename_i m m2 hm hm2
    simp at k;subst k
    rw [hfg _ _ _ hj hm,hfg _ _ _ hj2 hm2]
   ·cases k
  ·cases h
 | .any,d',d'',h,k=>by simp [D.ren] at h;subst h;simp [D.ren] at k;exact k.symm
 | .nq _,d',d'',h,k=>by simp [D.ren] at h;subst h;simp [D.ren] at k;exact k.symm
 | .ip c,d',d'',h,k=>by simp [D.ren] at h;subst h;simp [D.ren] at k;exact k.symm
 | .fn q a b,d',d'',h,k=>by
  simp only [D.ren] at h
  split at h
  ·rename_i a' b' h1 h2
   simp at h;subst h
   simp only [D.ren] at k
   split at k
   ·rename_i a2 b2 k1 k2
    simp at k;subst k
    rw [di hfg a a' a2 h1 k1,di hfg b b' b2 h2 k2]
   ·cases k
  ·cases h
theorem di {f g:Nat->Option Nat} (hfg:∀ i j k,f i=some j->g j=some k->k=i):∀ (d d' d'':List D),D.renL f d=some d'->D.renL g d'=some d''->d''=d
 | [],d',d'',h,k=>by simp [D.renL] at h;subst h;simp [D.renL] at k;exact k
 | x::r,d',d'',h,k=>by
  simp only [D.renL] at h
  split at h
  ·rename_i x' r' h1 h2
   simp at h;subst h
   simp only [D.renL] at k
   split at k
   ·rename_i x2 r2 k1 k2
    simp at k;subst k
    rw [D.ren_back hfg x x' x2 h1 k1,di hfg r r' r2 h2 k2]
   ·cases k
  ·cases h
end
theorem Res.ren_back {f g:Nat->Option Nat} (hfg:∀ i j k,f i=some j->g j=some k->k=i) {r r' r'':Res} (h:r.ren f=some r') (k:r'.ren g=some r''):r''=r:=by
 cases r with
 | box t cells=>
  simp only [Res.ren] at h
  split at h
  ·rename_i cs hc
   simp at h;subst h
   simp only [Res.ren] at k
   split at k
   ·rename_i cs2 hc2
    simp at k;subst k
    rw [di hfg _ _ _ hc hc2]
   ·cases k
  ·cases h
 | sl e s rows=>simp [Res.ren] at h;subst h;simp [Res.ren] at k;exact k.symm
 | zsl e s rows=>simp [Res.ren] at h;subst h;simp [Res.ren] at k;exact k.symm
 | dsl e s g=>
  simp only [Res.ren] at h
  split at h
  ·rename_i j hj
   simp at h;subst h
   simp only [Res.ren] at k
   grind
  ·cases h
 | gh s tys rows hole=>simp [Res.ren] at h;subst h;simp [Res.ren] at k;exact k.symm
 | non=>simp [Res.ren] at h;subst h;simp [Res.ren] at k;exact k.symm
 | vec t cells=>
  simp only [Res.ren] at h
  split at h
  ·rename_i cs hc
   simp at h;subst h
   simp only [Res.ren] at k
   split at k
   ·rename_i cs2 hc2
    simp at k;subst k
    rw [di hfg _ _ _ hc hc2]
   ·cases k
  ·cases h
theorem V_:∀ {pi:List Nat} {R l:List Res},(∀ (j i:Nat) r,pi[j]? = some i->l[j]? = some r->R[i]? = some r)->Fh R pi l=R
 | [],R,l,_=>by cases l <;> rfl
 | i::pi,R,[],_=>rfl
 | i::pi,R,r::l,h=>by
  have h0:R[i]? = some r:=h 0 i r rfl rfl
  have e:R.set i r=R:=by
   apply bC
   grind
  simp only [Fh]
  rw [e]
  exact V_ λ j k r hj hr=>h (j+1) k r (by simpa using hj) (by simpa using hr)
theorem Afj {args : List AV} {f : FuncId} {c : Cl} {out : Out} (h : Gw R args f c = some out) (hk : Aqu c = true \/ (∀ x, out.c = some x -> x.keeps)) : Fg R out.R := by
 unfold Gw at h
 split at h
 ·rename_i f' q1 res q2 q3 rw
  cases hb:(Nat.beq f f'&&res.flat) with
  | false=>rw [hb] at h;simp at h
  | true=>
   rw [hb] at h
   simp only [cond_true] at h
   split at h
   ·split at h
    ·simp at h;subst h;exact Fg.refl _
    ·cases h
   ·split at h
    ·simp at h;subst h;exact Fg.refl _
    ·cases h
   ·cases h
 ·rename_i f' q1 q2 res R2 pi
  cases hb:(Nat.beq f f'&&Fo pi&&Nat.ble pi.length R2.length) with
  | false=>rw [hb] at h;simp at h
  | true=>
   rw [hb] at h
   simp only [cond_true] at h
   simp only [ab] at hb
   obtain⟨⟨hb1,hb2⟩,hb3⟩:=hb
   split at h
   ·rename_i args' Rp e1 e2
    split at h
    ·rename_i Rp' res' R2' e3 e4 e5
     simp at h;subst h
     have same:Fh R pi R2'=R:=by
      rcases hk with hk | hk
      ·simp only [Aqu,cI] at hk
       subst hk
       cases R2' <;> rfl
      ·have hkeep:R2.take pi.length=Rp':=hk _ rfl
       obtain⟨p1,p2⟩:=Oi e2
       obtain⟨q1',q2'⟩:=H7 e3
       obtain⟨m1,m2⟩:=H7 e5
       refine V_ λ j i r hj hr=>?_
       obtain⟨r0,g1,g2⟩:=m2 j r hr
       obtain⟨r1,g3,g4⟩:=p2 j i hj
       have hjl:j<pi.length:=(aa.1 hj).1
       have g5:Rp'[j]? = some r0:=by
        rw [←hkeep,an,if_pos hjl];exact g1
       obtain⟨r2,g6,g7⟩:=q2' j r0 g5
       rw [g3] at g6;cases g6
       have:=Res.ren_back (λ a b k hab hbk=>by
        have:=Te hab
        unfold Fx at hbk
        rw [this] at hbk
        simpa using hbk.symm) g7 g2
       rw [this];exact g4
     rw [same]
     exact Fg.app _ _
    ·cases h
   ·cases h
 ·cases h
theorem yC {c:Cl} {s d:TypeId} {x:Option AV} {out:Out} (h:Pz P R c s d x=some out):out.R=R\/∃ r,out.R=R++[r]:=by
 unfold Pz at h
 split at h
 ·rename_i o1 h0
  cases h
  unfold Tw at h0
  grind
 ·split at h
  ·rename_i o1 h0
   cases h
   unfold M7 at h0
   grind
  ·unfold M8 at h
   grind
theorem yB {r : Bool} {c : Cl} {o : Oper} {out : Out} (h : I8 P L cur R c o = some out) (hs : Nf r c o = true) (hk : r = true -> ∀ x, out.c = some x -> x.keeps) : Fg R out.R := by
  unfold I8 at h
  split at h
  · simp at h;subst h;exact Fg.refl _
  · obtain ⟨dst, op, type, pos, after, guard⟩ := o
    simp only at h
    cases op with
    | box t x=>
      simp only at h
      split at h
      · generalize (Nat.beq _ _)=bb at h
        cases bb with
        | false=>simp at h
        | true=>simp at h;subst h;exact Fg.app _ _
      · cases h
    | alloc t=>
      simp only at h
      split at h
      · simp at h;subst h;exact Fg.app _ _
      · cases h
    | store t x y=>simp [Nf] at hs
    | buildSlice t len parts=>
      simp only at h
      split at h
      · unfold G8 at h
        split at h
        · split at h
          · generalize (Nat.beq _ _&&Nat.ble _ _)=bb at h
            cases bb with
            | false=>simp at h
            | true=>
              simp only [cond_true] at h
              split at h
              · cases ho:Li c with
                | true=>rw [ho] at h;simp at h;subst h;exact Fg.app _ _
                | false=>rw [ho] at h;simp at h;subst h;exact Fg.refl _
              · generalize (Li c&&Nat.beq _ _)=bb at h
                cases bb with
                | false=>simp at h
                | true=>obtain⟨ds,_,rfl⟩:=Dl h;exact Fg.app _ _
          · cases h
        · cases h
      · cases h
    | convert s d x=>
      simp only at h
      rcases yC h with e | ⟨r,e⟩
      · rw [e];exact Fg.refl _
      · rw [e];exact Fg.app _ _
    | makeSlice t x y=>
      simp only at h
      generalize (K1 x y)=bb at h
      cases bb with
      | false=>simp at h
      | true=>
        simp only [cond_true] at h
        unfold Lx at h
        split at h
        · split at h
          · split at h
            · generalize (Nat.beq _ _)=bb at h
              cases bb with
              | false=>simp at h
              | true=>simp at h;subst h;exact Fg.app _ _
            · cases h
          · cases h
        · split at h
          · split at h
            · generalize (Nat.beq _ _&&_)=bb at h
              cases bb with
              | false=>simp at h
              | true=>simp at h;subst h;exact Fg.app _ _
            · cases h
          · cases h
        · cases h
    | call kk=>
      obtain⟨callee,cargs,argTypes⟩:=kk
      cases callee with
      | invoke r m=>simp at h
      | builtin b=>
        cases b <;> first
          | (simp at h;done)
          | (simp [Nf] at hs;done)
          | (simp only at h
             split at h
             · rename_i i g q size off y e1
               exfalso
               unfold J4 at h
               split at h
               · simp [Nf,isW] at hs
               · cases h
             · rename_i i n s y e1
               unfold Om at h
               split at h
               · exfalso
                 simp [Nf,isW] at hs
               · obtain⟨r0,hr0⟩:=Tx h
                 rw [hr0]
                 refine⟨R.set i .non,_,rfl,by simp,λ j r hj=>?_⟩
                 rw [ay] at hj
                 split at hj
                 · split at hj
                   · cases hj;exact .inl rfl
                   · cases hj
                 · exact .inr hj
             · rename_i args _ _ e1
               unfold C3 at h
               split at h
               · generalize (Nat.beq _ _) = bb at h
                 cases bb with
                 | false=>simp at h
                 | true=>
                   simp only [cond_true] at h
                   split at h
                   · split at h
                     · split at h
                       · generalize (Nat.beq _ _)=bb at h
                         cases bb with
                         | false=>simp at h
                         | true=>
                           simp only [cond_true] at h
                           split at h
                           · simp at h;subst h;exact Fg.app _ _
                           · rename_i j
                             split at h
                             · generalize (Nat.beq _ _&&Nat.beq _ _)=bb at h
                               cases bb with
                               | false=>simp at h
                               | true=>
                                 simp at h;subst h
                                 refine⟨R.set _ .non,_,rfl,by simp,λ i r hi=>?_⟩
                                 rw [ay] at hi
                                 split at hi
                                 · split at hi
                                   · cases hi;exact .inl rfl
                                   · cases hi
                                 · exact .inr hi
                             · cases h
                           · cases h
                       · cases h
                     · cases h
                   · cases h
               · cases h
             · cases h)
      | value f=>
        simp only at h
        split at h
        · refine Afj h ?_
          simp only [Nf,aA] at hs
          rcases hs with hs | hs
          · exact .inr (hk hs)
          · exact .inl hs
        · cases h
    | _=>simp at h
end
end Go.SL
namespace Go.SL
section
variable {P:Program} {C:Ctx} {S S':Nat->Prop} {w w':World} {ρ ρ':List Value} {R:List Res} {L:List Ent} {cur:C_} {a:Act}
theorem B6:pt a []:=λ g hg=>by cases hg
theorem Rk (hL:Ci S w ρ a L) {t:Nat} {e:Ent} {c:Bool} (he:D7 L t=some e) (hb:Ln e.v=some c) :
  (pt a e.p->a.tmps[t]? = some (.bool c))/\(¬pt a e.p->a.tmps[t]? = some undef):=by
 obtain⟨hm,ht⟩:=C5 he
 obtain⟨h1,h2⟩:=hL e hm
 rw [ht] at h1 h2
 refine⟨λ hp=>?_,h2⟩
 obtain⟨v,hv,hr⟩:=h1 hp
 unfold Ln at hb
 split at hb
 ·rename_i b heq
  simp at hb;subst hb
  rw [heq] at hr
  rw [hv,hr.exact_inv]
 ·cases hb
theorem Abj (hL:Ci S w ρ a L) {ops:Array Oper} {o:Oper} (h:Lv ops L o=some cur):(Region.wanted o (yielded ops a.tmps)=true↔pt a cur)/\(cur.isEmpty=true->Region.wanted o (yielded ops a.tmps)=true):=by
 unfold Lv at h
 split at h
 ·rename_i hg
  simp at h;subst h
  simp [Region.wanted,hg,B6]
 ·rename_i j want hg
  split at h
  ·cases h
  ·rename_i t ht
   split at h
   ·rename_i e he
    split at h
    ·rename_i c hb
     simp at h;subst h
     obtain⟨h1,h2⟩:=Rk hL he hb
     refine⟨?_,by simp⟩
     have hy:yielded ops a.tmps j=match a.tmps[t]? with | some (.bool b)=>some b | _=>none:=by
      unfold yielded;rw [ht];rfl
     unfold Region.wanted
     rw [hg]
     simp only [dG]
     constructor
     ·intro hw
      rw [hy] at hw
      by_cases hp:pt a e.p
      ·rw [h1 hp] at hw
       simp at hw;subst hw
       intro g hg'
       rcases am.1 hg' with h | h
       ·exact hp g h
       ·simp at h;subst h;exact h1 hp
      ·rw [h2 hp] at hw
       simp [undef] at hw
     ·intro hp
      have:=hp (t,want) (by simp)
      rw [hy,this]
    ·cases h
   ·cases h
theorem W_ (hL:Ci S w ρ a L):∀ {p:C_} {cs:List (Bool×Bool)},Gj L p=some cs->pt a p->Dc cs
 | [],cs,h,_=>by simp [Gj] at h;subst h;trivial
 | (t, want) :: p, cs, h, hp => by
  simp only [Gj] at h
  split at h
  ·rename_i e he
   split at h
   ·rename_i c l hb hl
    simp at h;subst h
    obtain⟨h1,h2⟩:=Rk hL he hb
    have ht:=hp (t,want) ak
    simp only at ht
    refine⟨?_,W_ hL hl λ g hg=>hp g (al _ hg)⟩
    by_cases hpe:pt a e.p
    ·rw [h1 hpe] at ht
     simp at ht;exact ht
    ·rw [h2 hpe] at ht
     simp [undef] at ht
   ·cases h
  ·cases h
theorem Gm {d t:Nat} {v:Value} (h:d≠t):(a.put (some d) v).tmps[t]? = a.tmps[t]?:=by
 simp [Act.put,Array.getElem?_setIfInBounds_ne h]
theorem H8 {d:Nat} {v:Value} (h:d<a.tmps.size):(a.put (some d) v).tmps[d]? = some v:=by
 simp [Act.put,h]
theorem Lt {p:C_} {d:Nat} {v:Value} (h:p.all (λ g=>!(Nat.beq g.1 d))=true):pt (a.put (some d) v) p↔pt a p:=by
 have hne:∀ g,g∈p->d≠g.1:=by
  intro g hg e
  have:=(aH.1 h) g hg
  subst e
  simp at this
 constructor
 ·intro hp g hg
  rw [←hp g hg,Gm (hne g hg)]
 ·intro hp g hg
  rw [Gm (hne g hg)];exact hp g hg
theorem vK (hL:Ci S w ρ a L) (hS:∀ b,S b->S' b) (hw:∀ b,S b->w'.heap[b]? = w.heap[b]?) (hρ:Pre ρ ρ') {d:Nat} {p:C_} {v:Value} {av:AV} (hd:d<a.tmps.size)
  (hp:p.all (λ g=>!(Nat.beq g.1 d))=true) (h1:pt a p->RdA S' w' ρ' v av) (h2:¬pt a p->v=undef):Ci S' w' ρ' (a.put (some d) v) (Sz L d p av):=by
 intro e he
 unfold Sz at he
 rcases ag.1 he with rfl | he
 ·refine⟨λ hpt=>⟨v,H8 hd,h1 ((Lt hp).1 hpt)⟩,λ hpt=>?_⟩
  have:=h2 (λ h=>hpt ((Lt hp).2 h))
  subst this
  exact H8 hd
 ·rw [ax] at he
  obtain⟨hm,hf⟩:=he
  simp only [ab] at hf
  obtain⟨f1,f2⟩:=hf
  have hne:d≠e.t:=by
   intro e';subst e';simp at f1
  obtain⟨g1,g2⟩:=hL e hm
  refine⟨λ hpt=>?_,λ hpt=>?_⟩
  ·obtain⟨x,hx,hr⟩:=g1 ((Lt f2).1 hpt)
   exact⟨x,by rw [Gm hne];exact hx,hr.mono hS hw hρ⟩
  ·rw [Gm hne];exact g2 λ h=>hpt ((Lt f2).2 h)
def Gr (P:Program) (ops:Array Oper) (i:Nat) (K:Act->World->Prop) (a:Act) (w:World):Prop:=
 match ops[i]? with
 | none=>K a w
 | some o=>if Region.wanted o (yielded ops a.tmps) then X6 o/\wpv P o a w K else K (a.put o.dst undef) w
def Dd (P:Program) (ops:Array Oper) (K:Act->World->Prop):List Nat->Act->World->Prop
 | [],a,w=>K a w
 | i::rest,a,w=>Gr P ops i (Dd P ops K rest) a w
theorem Aan {o:Oper} {K K':Act->World->Prop} (hk:∀ a w,K a w->K' a w) (h:wpv P o a w K):wpv P o a w K':=by
 unfold wpv at *
 generalize (execOp a.eval o).run P w=r at *
 match r,h with
 | .ok (.value v) w',h=>exact hk _ _ h
 | .ok .skip w',h=>exact hk _ _ h
 | .ok (.enter f args) w',h=>exact Calls.mono h λ e w'' hp=>by obtain⟨v,e,hp⟩:=hp;exact⟨v,e,hk _ _ hp⟩
theorem Wm {ro:Option Nat} {ops:Array Oper} {i:Nat} {K K':Act->World->Prop} {Q:Exit->Act->World->Prop} (hk:∀ a w,K a w->K' a w) (h:Gr P ops i K a w):wpOpIn (FR ro) 0 P ops Q i K' a w:=by
 unfold Gr at h
 unfold wpOpIn
 split at h
 ·rename_i ho
  rw [ho];exact hk _ _ h
 ·rename_i o ho
  rw [ho]
  simp only
  split at h
  ·rename_i hw
   rw [if_pos hw]
   exact Axg h.1 (Aan hk h.2)
  ·rename_i hw
   rw [if_neg hw]
   exact⟨λ _ _=>trivial,hk _ _ h⟩
theorem Se {ro:Option Nat} {ops:Array Oper} {Q:Exit->Act->World->Prop}:∀ {is:List Nat} {a:Act} {w:World},Dd P ops (λ a w=>Q .normal a w) is a w->wpOpsIn (FR ro) 0 P ops Q is a w
 | [],a,w,h=>h
 | i::is,a,w,h=>by
  rw [wpOpsIn_cons]
  exact Wm (λ _ _ h=>Se h) h
theorem Ats (hL:Ci S w ρ a L):∀ {p acc:C_} {cs:List (Bool×Bool)},Sf L acc p=true->Gj L p=some cs->pt a acc->Dc cs->pt a p
 | [],_,_,_,_,_,_=>B6
 | (t, want) :: p, acc, cs, hwf, hc, hacc, hall => by
  simp only [Sf] at hwf
  simp only [Gj] at hc
  split at hwf
  ·rename_i e he
   rw [he] at hc
   simp only [ab] at hwf
   simp only at hc
   split at hc
   ·rename_i c l hb hl
    simp at hc;subst hc
    obtain⟨h1,h2⟩:=Rk hL he hb
    have ht:=h1 (Q1 hwf.1 hacc)
    have hcw:c=want:=hall.1
    subst hcw
    have hacc':pt a (acc++[(t,c)]):=by
     intro g hg
     rcases am.1 hg with hg | hg
     ·exact hacc g hg
     ·simp at hg;subst hg;exact ht
    have:=Ats hL hwf.2 hl hacc' hall.2
    intro g hg
    rcases ag.1 hg with rfl | hg
    ·exact ht
    ·exact this g hg
   ·cases hc
  ·cases hwf
theorem Vg {r:Bool} {cs:List (Bool×Bool)} {x:Cl} (hL:Ci S w ρ a L) (hcs:Gj L cur=some cs) (h:(J9 cur r cs x).ok P):(pt a cur->x.ok P):=by
 intro hp
 unfold J9 at h
 cases hc:cur.isEmpty with
 | true=>rw [hc] at h;exact h
 | false=>
  rw [hc] at h
  cases r with
  | true=>exact h.1 (W_ hL hcs hp)
  | false=>exact h (W_ hL hcs hp)
theorem vE {r:Bool} {cs:List (Bool×Bool)} {x:Cl} (hL:Ci S w ρ a L) (hcs:Gj L cur=some cs) (hr:r=true) (hc:cur.isEmpty=false) (hwf:Sf L [] cur=true) (h:(J9 cur r cs x).ok P) (hn:¬pt a cur):x.keeps:=by
 unfold J9 at h
 subst hr
 rw [hc] at h
 exact h.2 λ hall=>hn (Ats hL hwf hcs B6 hall)
theorem yA {n:Nat} {ops:Array Oper} {c:Cl} {i:Nat} {o:Oper} {L':List Ent} {R':List Res} {k:Option Cl} (ho:ops[i]? = some o) (h:Abz P n ops L R c o=some (L',R',k))
  (hk:∀ x,k=some x->x.ok P) (hs:Sat n C L R a w) {K:Act->World->Prop} (hK:∀ a' w',Sat n C L' R' a' w'->K a' w'):Gr P ops i K a w:=by
 obtain⟨hdef,hsize,S,ρ,hI,hL⟩:=hs
 unfold Abz at h
 split at h
 ·cases h
 ·rename_i cur hcur
  obtain⟨hw1,hw2⟩:=Abj hL hcur
  simp only at h
  split at h
  ·rename_i out cs e1 e2
   cases hg:Nv L cur (isR c) (Gi c) o with
   | false=>rw [hg] at h;simp at h
   | true=>
    rw [hg] at h
    simp only [cond_true] at h
    have hall:k=out.c.map (J9 cur (isR c) cs)/\R'=out.R/\(∀ d,o.dst=some d->d<n/\cur.all (λ g=>!(Nat.beq g.1 d))=true/\L'=Sz L d cur out.v)/\(o.dst=none->cur.isEmpty=true/\L'=L):=by
     split at h
     ·rename_i d hd
      cases hb:(Nat.blt d n&&cur.all (λ g=>!(Nat.beq g.1 d))) with
      | false=>rw [hb] at h;simp at h
      | true=>
       rw [hb] at h
       simp only [cond_true,ah,aq] at h
       obtain⟨h1,h2,h3⟩:=h
       simp only [ab] at hb
       refine⟨h3.symm,h2.symm,λ d' hd'=>?_,λ hn=>by rw [hd] at hn;cases hn⟩
       rw [hd] at hd';cases hd'
       exact⟨by have:=hb.1;simpa [Nat.blt_eq] using this,hb.2,h1.symm⟩
     ·rename_i hd
      cases hc:cur.isEmpty with
      | false=>rw [hc] at h;simp at h
      | true=>
       rw [hc] at h
       simp only [cond_true,ah,aq] at h
       obtain⟨h1,h2,h3⟩:=h
       exact⟨h3.symm,h2.symm,λ d hd'=>by rw [hd] at hd';(cases hd'),λ _=>⟨rfl,h1.symm⟩⟩
    obtain⟨hk',rfl,hd1,hd2⟩:=hall
    have hk2:∀ x,out.c=some x->(J9 cur (isR c) cs x).ok P:=λ x hx=>hk _ (by rw [hk',hx];rfl)
    unfold Gr
    simp only [ho]
    by_cases hpt:pt a cur
    ·rw [if_pos (hw1.2 hpt)]
     refine⟨Yi e1,Agi hI hL hpt e1 (λ x hx=>Vg hL e2 (hk2 x hx) hpt) λ v w' S' ρ' hA=>?_⟩
     cases hd:o.dst with
     | some d=>
      obtain⟨g1,g2,rfl⟩:=hd1 d hd
      exact hK _ _ ⟨hdef,by simp [Act.put,hsize],S',ρ',hA.inv,vK hL hA.sub hA.same hA.pre (by rw [hsize];exact g1) g2 (λ _=>hA.rd) (λ h=>absurd hpt h)⟩
     | none=>
      obtain⟨g1,rfl⟩:=hd2 hd
      refine hK _ _ ⟨hdef,hsize,S',ρ',hA.inv,λ e he=>?_⟩
      obtain⟨g1,g2⟩:=hL e he
      refine⟨λ hp=>?_,g2⟩
      obtain⟨x,hx,hr⟩:=g1 hp
      exact⟨x,hx,hr.mono hA.sub hA.same hA.pre⟩
    ·have hne:cur.isEmpty=false:=by
      cases hc:cur.isEmpty with
      | false=>rfl
      | true=>simp at hc;subst hc;exact absurd B6 hpt
     have hnw:¬(Region.wanted o (yielded ops a.tmps)=true):=λ h=>hpt (hw1.1 h)
     rw [if_neg hnw]
     unfold Nv at hg
     rw [hne] at hg
     simp only [aV,ab,aA,aX] at hg
     obtain⟨ρ',hI',hpre⟩:=hI.skip (yB e1 hg.1 λ hr x hx=>vE hL e2 hr hne (hg.2.resolve_left (by rw [hr];simp)) (hk2 x hx) hpt)
     cases hd:o.dst with
     | some d=>
      obtain⟨g1,g2,rfl⟩:=hd1 d hd
      exact hK _ _ ⟨hdef,by simp [Act.put,hsize],S,ρ',hI',vK hL (λ _ h=>h) (λ _ _=>rfl) hpre (by rw [hsize];exact g1) g2 (λ h=>absurd h hpt) (λ _=>rfl)⟩
     | none=>
      have:=(hd2 hd).1
      rw [hne] at this;cases this
  ·cases h
theorem Rh {n:Nat} {ops:Array Oper} {K:Act->World->Prop}:∀ {is:List Nat} {L:List Ent} {R:List Res} {cls:List Cl} {L':List Ent} {R':List Res} {cs:List Cl} {a:Act} {w:World},
  Ri P n ops is L R cls=some (L',R',cs)->C1 P cs->Sat n C L R a w->(∀ a' w',Sat n C L' R' a' w'->K a' w')->Dd P ops K is a w
 | [],L,R,cls,L',R',cs,a,w,h,_,hs,hK=>by
  simp [Ri] at h
  obtain⟨rfl,rfl,rfl⟩:=h
  exact hK a w hs
 | i :: is, L, R, cls, L', R', cs, a, w, h, hok, hs, hK => by
  simp only [Ri] at h
  split at h
  ·cases h
  ·rename_i o ho
   show Gr P ops i (Dd P ops K is) a w
   split at h
   ·cases h
   ·rename_i L1 R1 c1 e1
    split at h
    ·rename_i L2 R2 cs2 e2
     simp at h
     obtain⟨rfl,rfl,rfl⟩:=h
     exact yA ho e1 (λ x hx=>by cases hx;exact hok.1) hs λ a' w' hs'=>Rh e2 hok.2 hs' hK
    ·cases h
   ·rename_i L1 R1 e1
    exact yA ho e1 (λ x hx=>by cases hx) hs λ a' w' hs'=>Rh h hok hs' hK
end
end Go.SL
namespace Go.SL
structure Rec where
 i:Nat
 o:Oper
 need:List Ent
 cur:C_
 cs:List (Bool×Bool)
 c:Cl
 Rin:List Res
 out:Out
 eff:Bool
 r:Bool
 fl:Option Nat
def Vj (ops:Array Oper) (o:Oper):List Nat:=
  (o.op.operands.toList.filterMap fun | .tmp t=>some t | _=>none) ++
  (match o.guard with
   | none=>[]
   | some (j,_)=>match (ops[j]?).bind (·.dst) with
     | some t=>[t]
     | none=>[])
def Kk (L:List Ent):List Nat->List Ent
 | []=>[]
 | t::r=>match D7 L t with
  | some e=>e::(e.p.filterMap λ g=>D7 L g.1)++Kk L r
  | none=>Kk L r
def yH:Cl->Bool
 | .call _ _ _ res _ _=>(res.ren λ _=>none).isSome
 | _=>false
def Aiu:Cl->Bool
 | .callB ..=>true
 | _=>false
def F3 (c:Cl) (o:Oper):Bool:=
 match o.op with
 | .box .. | .alloc _ | .store .. | .makeSlice ..=>false
 | .buildSlice ..=>!Li c
 | .convert ..=>!isZ c
 | .call k=>match k.callee with
  | .builtin .append | .builtin .clear | .builtin .copy=>false
  | .builtin _=>true
  | _=>Aiu c || (Ail c&&yH c)
 | _=>true
def Ajc (n:Nat) (o:Oper) (cur:C_):Bool:=
 match o.dst with
 | some d=>Nat.blt d n&&cur.all (λ g=>!(Nat.beq g.1 d))
 | none=>cur.isEmpty
def Yk (P : Program) (L : List Ent) (cur : C_) (R : List Res) (c : Cl) (i : Nat) (o : Oper) : Option Out :=
 match o.op with
 | .makeSlice t l k=>match c,R[i]? with
  | .fltm _ c0 _ _,some r'=>match K1 l k,Lx P [] c0 t ((look L cur l).bind C9) with
   | true,some out=>match out.R,out.c with
    | [r1],some c1=>some ⟨.d (.os i),R,some (.fltm i c1 r1 r')⟩
    | _,_=>none
   | _,_=>none
  | _,_=>none
 | .alloc t=>match (Et P t).bind λ z=>Ft z.cells.toList,R[i]? with
  | some cells,some r'=>some ⟨.d (.o i 0),R,some (.flt i (.box t cells) r')⟩
  | _,_=>none
 | _=>none
def Re (o:Oper) (c:Cl):Option Nat:=
 match o.op with
 | .alloc _=>match c with
  | .flt i _ _=>some i
  | _=>none
 | .makeSlice ..=>match c with
  | .fltm i _ _ _=>some i
  | _=>none
 | _=>none
def Aja (P:Program) (L:List Ent) (cur:C_) (R:List Res) (c:Cl) (o:Oper):Option Out:=
 match Re o c with
 | some i=>Yk P L cur R c i o
 | none=>I8 P L cur R c o
def Qy (P : Program) (n : Nat) (ops : Array Oper) : List Nat -> List Ent -> List Res -> List Cl -> Option (List Rec × List Ent × List Res × List Cl)
 | [],L,R,_=>some ([],L,R,[])
 | i :: is, L, R, cls => match ops[i]? with
  | none=>none
  | some o=>
   let need:=Kk L (Vj ops o)
   match Lv ops need o with
   | none=>none
   | some cur=>
    let c:=cls.headD .nop
    match Aja P need cur R (Gi c) o,Gj need cur with
    | some out,some cs=>
     let L':=match o.dst with | some d=>Sz L d cur out.v | none=>L
     bif Ajc n o cur&&Nv need cur (isR c) (Gi c) o then
      match out.c with
      | some x=>match Qy P n ops is L' out.R cls.tail with
       | some (rs,L2,R2,ks)=>some (⟨i,o,need,cur,cs,Gi c,R,out,(Re o (Gi c)).isNone && !F3 (Gi c) o,isR c,Re o (Gi c)⟩::rs,L2,R2,J9 cur (isR c) cs x::ks)
       | none=>none
      | none=>match Qy P n ops is L' out.R cls with
       | some (rs,L2,R2,ks)=>some (⟨i,o,need,cur,cs,Gi c,R,out,(Re o (Gi c)).isNone && !F3 (Gi c) o,isR c,Re o (Gi c)⟩::rs,L2,R2,ks)
       | none=>none
     else none
    | _,_=>none
def Mc:List Nat->Nat->Bool
 | [],_=>false
 | a::r,t=>Nat.beq a t || Mc r t
def orE (l:List Nat):List Edge->Nat->Nat
 | [],m=>m
 | e::r,m=>orE l r (bif Region.binds .any e&&Nat.blt e.on l.length then Nat.lor m (Nat.lor (Nat.shiftLeft 1 e.on) ((l[e.on]?).getD 0)) else m)
def Mg (ops:Array Oper):Nat->List Nat
 | 0=>[]
 | j+1=>
  let l:=Mg ops j
  l++[match ops[j]? with
   | some o=>orE l o.after.toList 0
   | none=>0]
def Ww (m i:Nat):Bool:=Nat.beq (Nat.land (Nat.shiftRight m i) 1) 1
def Cy:List Ent->List Nat
 | []=>[]
 | e::r=>match e.v with
  | .d (.o i _)=>i::Cy r
  | .d (.os i)=>i::Cy r
  | .d (.oe i _ _ _)=>i::Cy r
  | .d (.osb i _ _ _)=>i::Cy r
  | .d (.oi i g _ _ _)=>i::g::Cy r
  | _=>Cy r
def Px (R:List Res):List Nat->List Nat
 | []=>[]
 | i::r=>match R[i]? with
  | some (.dsl _ _ g)=>g::Px R r
  | _=>Px R r
def deepen (R:List Res) (l:List Nat):List Nat:=l++Px R l
def Kz (o:Op) (L:List Ent):List Nat:=
 match o with
 | .move _ | .assign _ | .nilCheck _ | .fieldAddr .. | .extract .. | .pick .. | .build .. | .unOp ..=>[]
 | _=>Cy L
def Z8:List D->List Nat
 | []=>[]
 | .os j::r=>j::Z8 r
 | _::r=>Z8 r
mutual
def D.touchV (R:List Res):D->List Nat
 | .os i=>[i]
 | .osb i _ _ _=>[i]
 | .oi _ g _ _ _=>[g]
 | .o i _=>i::(match R[i]? with
  | some (.box _ cells)=>Z8 cells
  | _=>[])
 | .fn _ a b=>cZ R a++cZ R b
 | _=>[]
def cZ (R:List Res):List D->List Nat
 | []=>[]
 | d::r=>D.touchV R d++cZ R r
end
def AV.touchV (R:List Res):AV->List Nat
 | .d x=>x.touchV R
 | .agg ds=>cZ R ds
 | .tup _=>[]
def touchV (R:List Res):List Ent->List Nat
 | []=>[]
 | e::r=>e.v.touchV R++touchV R r
def Aq1 (c:Cl) (R:List Res) (L:List Ent):List Nat:=bif Aiu c then touchV R L else []
def Na (r:Rec):List Nat:=
 match r.fl with
 | some i=>[i]
 | none=>deepen r.Rin (Kz r.o.op r.need)++Aq1 r.c r.Rin r.need
def Ac8 (L:List Ent) (cur:C_):List Operand->List Nat
 | x::_=>match look L cur x with
  | some (.d (.os j))=>[j]
  | some (.d (.osb j _ _ _))=>[j]
  | _=>Cy L
 | []=>Cy L
def D3 (r:Rec):List Nat:=
 match r.o.op with
 | .store _ a _=>match look r.need r.cur a with
  | some (.d (.o i _))=>[i]
  | some (.d (.oe i _ _ _))=>i::(deepen r.Rin (Cy r.need)++touchV r.Rin r.need)
  | _=>[]
 | .call k=>match k.callee with
  | .value _=>match r.c with
   | .call _ _ _ _ _ pi=>pi
   | _=>[]
  | .builtin .append=>Ac8 r.need r.cur k.args.toList
  | .builtin .clear | .builtin .copy=>Cy r.need
  | _=>[]
 | _=>[]
def clear (need:List Ent) (d:Nat):Bool:=need.all λ e=>!(Nat.beq e.t d)&&e.p.all λ g=>!(Nat.beq g.1 d)
def Pq (r q:Rec):Bool:=
 (!r.eff || !q.eff) &&
 (match r.o.dst with | some d=>clear q.need d && !(q.cur.any λ g=>Nat.beq g.1 d)&&(match q.o.dst with | some d'=>!(Nat.beq d d') | none=>true) | none=>true) &&
 (match q.o.dst with | some d=>clear r.need d | none=>true) &&
 (!r.eff || (Na q).all λ i=>!(Mc (D3 r) i)&&Nat.blt i r.Rin.length) &&
 (!q.eff || (Na r).all λ i=>!(Mc (D3 q) i)&&Nat.blt i q.Rin.length)
def Jh:List Rec->List Nat
 | []=>[]
 | r::rs=>match r.fl with
  | some i=>i::Jh rs
  | none=>Jh rs
def Nx (lo hi:Nat) (rs:List Rec):Bool:=Fo (Jh rs)&&(Jh rs).all λ i=>Nat.ble lo i&&Nat.blt i hi
def M3 (ops:Array Oper) (L0:List Ent) (rs:List Rec):Bool:=
 let cl:=Mg ops ops.size
 L0.all (λ e=>e.p.isEmpty) &&
 (rs.all λ r=>r.o.after.all λ e=>!(Region.binds .any e) || Nat.blt e.on r.i) &&
 rs.all λ r=>rs.all λ q=>Nat.ble q.i r.i || (Ww ((cl[q.i]?).getD 0) r.i || Pq r q)
end Go.SL
namespace Go.SL
section
variable {P:Program} {C:Ctx} {S S':Nat->Prop} {w w':World} {ρ ρ':List Value} {R R':List Res} {L:List Ent} {cur:C_} {a:Act}
theorem vG:∀ {L:List Ent} {e:Ent} {i off:Nat},e∈L->e.v = .d (.o i off)->i∈Cy L
 | x::r,e,i,off,h,hv=>by
  rcases ag.1 h with rfl | h
  ·simp [Cy,hv]
  ·have:=vG h hv
   unfold Cy;split <;> simp [this]
 | [],_,_,_,h,_=>by cases h
theorem V6:∀ {L:List Ent} {e:Ent} {i:Nat},e∈L->e.v = .d (.os i)->i∈Cy L
 | x::r,e,i,h,hv=>by
  rcases ag.1 h with rfl | h
  ·simp [Cy,hv]
  ·have:=V6 h hv
   unfold Cy;split <;> simp [this]
 | [],_,_,h,_=>by cases h
theorem V7:∀ {L:List Ent} {e:Ent} {i a b c:Nat},e∈L->e.v = .d (.oe i a b c)->i∈Cy L
 | x::r,e,i,a,b,c,h,hv=>by
  rcases ag.1 h with rfl | h
  ·simp [Cy,hv]
  ·have:=V7 h hv
   unfold Cy;split <;> simp [this]
 | [],_,_,_,_,_,h,_=>by cases h
theorem V8:∀ {L:List Ent} {e:Ent} {i a b c:Nat},e∈L->e.v = .d (.osb i a b c)->i∈Cy L
 | x::r,e,i,a,b,c,h,hv=>by
  rcases ag.1 h with rfl | h
  ·simp [Cy,hv]
  ·have:=V8 h hv
   unfold Cy;split <;> simp [this]
 | [],_,_,_,_,_,h,_=>by cases h
theorem Sk:∀ {L:List Ent} {e:Ent} {i g a b c:Nat},e∈L->e.v = .d (.oi i g a b c)->i∈Cy L/\g∈Cy L
 | x::r,e,i,g,a,b,c,h,hv=>by
  rcases ag.1 h with rfl | h
  ·simp [Cy,hv]
  ·have:=Sk h hv
   unfold Cy;split <;> simp [this]
 | [],_,_,_,_,_,_,h,_=>by cases h
theorem Yb {i g e s:Nat}:∀ {l:List Nat},i∈l->R[i]? = some (.dsl e s g)->g∈Px R l
 | [],h,_=>by cases h
 | j::l,h,hi=>by
  rcases ag.1 h with rfl | h
  ·simp [Px,hi]
  ·have:=Yb h hi
   unfold Px;split <;> simp [this]
theorem Ajd {i:Nat} {l:List Nat} (h:i∈l):i∈deepen R l:=bf _ h
theorem Acc {i g e s:Nat} {l:List Nat} (h:i∈l) (hi:R[i]? = some (.dsl e s g)):g∈deepen R l:=bi _ (Yb h hi)
theorem P6 {v:Value} {i off a b c:Nat}:N4 v≠some (.d (.o i off))/\N4 v≠some (.d (.os i))/\N4 v≠some (.d (.oe i a b c))/\N4 v≠some (.d (.osb i a b c))/\∀ g,N4 v≠some (.d (.oi i g a b c)):=by
 unfold N4
 split
 ·refine⟨?_,?_,?_,?_,λ _=>?_⟩ <;> (cases Ft (_:Array Value).toList <;> simp)
 ·simp
 grind [dOf]
theorem Aip {x:Operand} {i off:Nat} (h:look L cur x=some (.d (.o i off))):i∈Cy L:=by
 unfold look at h
 split at h
 ·exact absurd h (P6 (a:=0) (b:=0) (c:=0)).1
 ·split at h
  ·rename_i e he
   cases hb:F4 e.p cur with
   | false=>rw [hb] at h;simp at h
   | true=>rw [hb] at h;simp at h;exact vG (C5 he).1 h
  ·cases h
 ·simp at h
 ·cases h
theorem Ed {x:Operand} {i:Nat} (h:look L cur x=some (.d (.os i))):i∈Cy L:=by
 unfold look at h
 split at h
 ·exact absurd h (P6 (off:=0) (a:=0) (b:=0) (c:=0)).2.1
 ·split at h
  ·rename_i e he
   cases hb:F4 e.p cur with
   | false=>rw [hb] at h;simp at h
   | true=>rw [hb] at h;simp at h;exact V6 (C5 he).1 h
  ·cases h
 ·simp at h
 ·cases h
theorem Nq {x:Operand} {i k s off:Nat} (h:look L cur x=some (.d (.oe i k s off))):i∈Cy L:=by
 unfold look at h
 split at h
 ·exact absurd h (P6 (off:=0)).2.2.1
 ·split at h
  ·rename_i e he
   cases hb:F4 e.p cur with
   | false=>rw [hb] at h;simp at h
   | true=>rw [hb] at h;simp at h;exact V7 (C5 he).1 h
  ·cases h
 ·simp at h
 ·cases h
theorem S_ {x:Operand} {i k s off:Nat} (h:look L cur x=some (.d (.osb i k s off))):i∈Cy L:=by
 unfold look at h
 split at h
 ·exact absurd h (P6 (off:=0)).2.2.2.1
 ·split at h
  ·rename_i e he
   cases hb:F4 e.p cur with
   | false=>rw [hb] at h;simp at h
   | true=>rw [hb] at h;simp at h;exact V8 (C5 he).1 h
  ·cases h
 ·simp at h
 ·cases h
theorem zP {x:Operand} {i g k s off:Nat} (h:look L cur x=some (.d (.oi i g k s off))):i∈Cy L/\g∈Cy L:=by
 unfold look at h
 split at h
 ·exact absurd h ((P6 (off:=0)).2.2.2.2 g)
 ·split at h
  ·rename_i e he
   cases hb:F4 e.p cur with
   | false=>rw [hb] at h;simp at h
   | true=>rw [hb] at h;simp at h;exact Sk (C5 he).1 h
  ·cases h
 ·simp at h
 ·cases h
theorem Fe:∀ {l:List Operand} {avs:List AV} {av:AV},Dw L cur l=some avs->av∈avs->∃ x,look L cur x=some av
 | [],avs,av,h,hm=>by simp [Dw] at h;subst h;cases hm
 | x::r,avs,av,h,hm=>by
  simp only [Dw] at h
  split at h
  ·rename_i v l h1 h2
   simp at h;subst h
   rcases ag.1 hm with rfl | hm
   ·exact⟨x,h1⟩
   ·exact Fe h2 hm
  ·cases h
theorem Ab3 {args:List AV} (h:∀ i,AV.d (.os i)∈args->R[i]? = R'[i]?) (hg:∀ i e s g,AV.d (.os i)∈args->R[i]? = some (.dsl e s g)->R[g]? = R'[g]?):Ly R args=Ly R' args:=by
 unfold Ly
 split
 ·rfl
 ·rfl
 ·rename_i i
  rw [←h i (by simp)]
  split
  ·rfl
  ·rename_i e s g hd
   rw [hg i e s g (by simp) hd]
  ·rfl
  ·rfl
 ·rfl
 ·rfl
theorem Ab0 {c:Cl} {op:Op} (h0:∀ i,i∈deepen R (Kz op L)->R[i]? = R'[i]?):Cq P L cur R c op=Cq P L cur R' c op:=by
 have h:∀ i,i∈Kz op L->R[i]? = R'[i]?:=λ i hi=>h0 i (Ajd hi)
 have hgh:∀ i e s g,i∈Kz op L->R[i]? = some (.dsl e s g)->R[g]? = R'[g]?:=λ i e s g hi hd=>h0 g (Acc hi hd)
 cases op with
 | load t x=>
  by_cases hg:∃ g,x = .global g
  ·obtain⟨g,rfl⟩:=hg
   rfl
  have e:∀ R,Cq P L cur R c (.load t x)=Tu P L cur R c t x:=λ R=>by
   cases x with
   | global g=>exact absurd ⟨g,rfl⟩ hg
   | _=>rfl
  rw [e,e]
  unfold Tu
  split
  ·rename_i i off n e1 e2
   rw [h i (Aip e1)]
  ·rfl
  ·rename_i i k size off n e1 e2
   rw [←h i (Nq e1)]
   split
   ·rfl
   ·rename_i e s g _ _ _ hd
    rw [hgh i _ _ _ (Nq e1) hd]
   ·rfl
   ·rfl
  ·rfl
 | binOp b t x y z=>
  simp only [Cq]
  unfold Ai6
  split
  ·rfl
  ·split
   ·rfl
   ·rename_i i e1 e2
    rw [h i (Ed e1)]
   ·rfl
   ·rfl
 | convert s d x=>
  simp only [Cq]
  unfold Yh
  split
  ·rfl
  ·split
   ·split
    ·rename_i i e1 e2
     rw [h i (Ed e2)]
    ·rfl
    ·rfl
   ·rfl
 | indexAddr t x i=>
  simp only [Cq]
  unfold Ai5
  split
  ·rfl
  ·rename_i e j ik n e1 e2 e3
   rw [←h j (Ed e2)]
   split
   ·rfl
   ·rename_i e s g _ _ _ hd
    rw [hgh j _ _ _ (Ed e2) hd]
   ·rfl
   ·rfl
  ·rfl
  ·rfl
  ·rfl
  ·rfl
 | call k=>
  simp only [Cq]
  split
  ·split
   ·rename_i args e1
    split
    ·split
     ·rw [Ab3 (R':=R') (λ i hi=>by
       obtain⟨x,hx⟩:=Fe e1 hi
       exact h i (Ed hx)) (λ i e s g hi hd=>by
       obtain⟨x,hx⟩:=Fe e1 hi
       exact hgh i e s g (Ed hx) hd)]
     ·rfl
     ·rfl
    ·rfl
   ·rfl
  ·rfl
 | slice t x lo hi mx=>
  cases mx with
  | none=>
   simp only [Cq]
   split
   ·rfl
   ·rename_i e i e1 e2
    rw [h i (Ed e2)]
   ·rename_i e i o0 n0 s0 e1 e2
    rw [h i (S_ e2)]
   ·rfl
   ·rfl
  | some mx=>
   cases lo with
   | none=>rfl
   | some lo=>
    cases hi with
    | none=>rfl
    | some hi=>
     simp only [Cq]
     split
     ·rename_i e i e1 e2
      rw [h i (Ed e2)]
     ·rfl
 | _=>rfl
mutual
theorem yF (f:Nat->Option Nat):∀ (d d':D),D.ren (λ _=>none) d=some d'->D.ren f d=some d'
 | .p x,d',h=>h
 | .o i off,d',h=>by simp [D.ren] at h
 | .os i,d',h=>by simp [D.ren] at h
 | .oe i k s off,d',h=>by simp [D.ren] at h
 | .ip c,d',h=>h
 | .any,d',h=>h
 | .nq _,d',h=>h
 | .osb _ _ _ _,d',h=>by simp [D.ren] at h
 | .oi _ _ _ _ _,d',h=>by simp [D.ren] at h
 | .fn g a b,d',h=>by
  simp only [D.ren] at h ⊢
  split at h
  ·rename_i a' b' h1 h2
   rw [Mx f a a' h1,Mx f b b' h2]
   exact h
  ·cases h
theorem Mx (f:Nat->Option Nat):∀ (l l':List D),D.renL (λ _=>none) l=some l'->D.renL f l=some l'
 | [],l',h=>h
 | d::r,l',h=>by
  simp only [D.renL] at h ⊢
  split at h
  ·rename_i d' r' h1 h2
   rw [yF f d d' h1,Mx f r r' h2]
   exact h
  ·cases h
end
mutual
theorem Yw (f:Nat->Option Nat):∀ (d d':AV),AV.ren (λ _=>none) d=some d'->AV.ren f d=some d'
 | .d x,d',h=>by
  simp only [AV.ren] at h ⊢
  split at h
  ·rename_i y hy
   rw [yF f x y hy];exact h
  ·cases h
 | .agg ds,d',h=>by
  simp only [AV.ren] at h ⊢
  split at h
  ·rename_i y hy
   rw [Mx f ds y hy];exact h
  ·cases h
 | .tup l,d',h=>by
  simp only [AV.ren] at h ⊢
  split at h
  ·rename_i y hy
   rw [Wj f l y hy];exact h
  ·cases h
theorem Wj (f:Nat->Option Nat):∀ (l l':List AV),AV.renL (λ _=>none) l=some l'->AV.renL f l=some l'
 | [],l',h=>h
 | d::r,l',h=>by
  simp only [AV.renL] at h ⊢
  split at h
  ·rename_i d' r' h1 h2
   rw [Yw f d d' h1,Wj f r r' h2]
   exact h
  ·cases h
end
theorem Ab5 {args:List AV} {f:FuncId} {c:Cl} {out:Out} (hn:Ail c=true) (hc:yH c=true)
  (h:Gw R args f c=some out):out.R=R/\Gw R' args f c=some {out with R:=R'}:=by
 unfold Ail at hn
 split at hn
 ·rename_i g q1 q2 res R2 pi
  simp only [ab,cI] at hn
  obtain⟨rfl,rfl⟩:=hn
  obtain⟨res',hres⟩:=Option.isSome_iff_exists.1 hc
  unfold Gw at h ⊢
  simp only at h ⊢
  generalize hbb:(Nat.beq f g&&Fo []&&Nat.ble ([]:List Nat).length ([]:List Res).length)=bb at h ⊢
  cases bb with
  | false=>simp at h
  | true=>
   simp only [cond_true] at h ⊢
   split at h
   ·rename_i a' Rp e1 e2
    rw [e1]
    simp only [Kj] at e2 ⊢
    simp only [ah] at e2
    subst e2
    simp only [H0,Yw _ res res' hres] at h ⊢
    simp at h;subst h
    simp [Fh]
   ·cases h
 ·cases hn
theorem Sa:∀ {l:List D},(∀ i,i∈Z8 l->R[i]? = R'[i]?)->Hr R l=Hr R' l
 | [],_=>rfl
 | d::r,h=>by
  have ih:Hr R r=Hr R' r:=Sa λ i hi=>h i (by cases d <;> simp [Z8,hi])
  have hd:Kb R d=Kb R' d:=by
   cases d with
   | os i=>simp only [Kb];rw [h i (by simp [Z8])]
   | _=>rfl
  simp only [Hr,ih,hd]
mutual
theorem Wl {rw:List Pd}:∀ {d:D},(∀ i,i∈d.touchV R->R[i]? = R'[i]?)->d.view R rw=d.view R' rw
 | .p _,_=>rfl
 | .ip _,_=>rfl
 | .any,_=>rfl
 | .nq _,_=>rfl
 | .oe _ _ _ _,_=>rfl
 | .osb i _ _ _,h=>by simp only [D.view];rw [h i (by simp [D.touchV])]
 | .oi _ g _ _ _,h=>by simp only [D.view];rw [h g (by simp [D.touchV])]
 | .os i,h=>by simp only [D.view];rw [h i (by simp [D.touchV])]
 | .o i off,h=>by
  have h0:=h i (by simp [D.touchV])
  simp only [D.view]
  rw [←h0]
  cases hi:R[i]? with
  | none=>rfl
  | some r=>cases r with
   | box t cells=>
    simp only
    rw [Sa (R':=R') λ k hk=>h k (by simp only [D.touchV,hi];exact al _ hk)]
   | _=>rfl
 | .fn g a b,h=>by
  have h1:=Ky (rw:=rw) (l:=a) λ i hi=>h i (by simp only [D.touchV];exact bf _ hi)
  have h2:=Ky (rw:=rw) (l:=b) λ i hi=>h i (by simp only [D.touchV];exact bi _ hi)
  simp only [D.view,h1,h2]
theorem Ky {rw:List Pd}:∀ {l:List D},(∀ i,i∈cZ R l->R[i]? = R'[i]?)->D.viewL R rw l=D.viewL R' rw l
 | [],_=>rfl
 | d::r,h=>by
  have h1:=Wl (rw:=rw) (d:=d) λ i hi=>h i (by simp only [cZ];exact bf _ hi)
  have h2:=Ky (rw:=rw) (l:=r) λ i hi=>h i (by simp only [cZ];exact bi _ hi)
  simp only [D.viewL,h1,h2]
end
theorem Aez {rw:List Pd} {x:AV} (h:∀ i,i∈x.touchV R->R[i]? = R'[i]?):x.view R rw=x.view R' rw:=by
 cases x with
 | d x=>simp only [AV.view];rw [Wl (R':=R') h]
 | agg l=>simp only [AV.view];rw [Ky (R':=R') h]
 | tup l=>rfl
theorem Sc {rw:List Pd}:∀ {l:List AV},(∀ x,x∈l->∀ i,i∈x.touchV R->R[i]? = R'[i]?)->AV.viewL R rw l=AV.viewL R' rw l
 | [],_=>rfl
 | x::r,h=>by
  have h1:=Aez (rw:=rw) (x:=x) (h x ak)
  have h2:=Sc (rw:=rw) (l:=r) λ y hy=>h y (al _ hy)
  simp only [AV.viewL,h1,h2]
theorem Xx {e:Ent} {i:Nat}:∀ {L:List Ent},e∈L->i∈e.v.touchV R->i∈touchV R L
 | [],h,_=>by cases h
 | x::r,h,hi=>by
  simp only [touchV]
  rcases ag.1 h with rfl | h
  ·exact bf _ hi
  ·exact bi _ (Xx h hi)
theorem Agj {i:Nat}:∀ {l:List Value} {ds:List D},Ft l=some ds->i∉cZ R ds
 | [],ds,h=>by grind [Ft,cZ]
 | v::l,ds,h=>by
  simp only [Ft] at h
  split at h
  ·rename_i d r h1 h2
   simp at h;subst h
   unfold dOf at h1
   cases hb:v.oneCell' with
   | false=>rw [hb] at h1;simp at h1
   | true=>rw [hb] at h1;simp at h1;subst h1;simpa [cZ,D.touchV] using Agj h2
  ·cases h
theorem Ajp {v:Value} {x:AV} {i:Nat} (h:N4 v=some x):i∉x.touchV R:=by
 unfold N4 at h
 split at h
 ·cases hd:Ft (_:Array Value).toList with
  | none=>rw [hd] at h;cases h
  | some ds=>grind [AV.touchV,Agj]
 ·cases h
 ·cases hd:dOf v with
  | none=>rw [hd] at h;cases h
  | some d=>
   rw [hd] at h;simp at h;subst h
   unfold dOf at hd
   cases hb:v.oneCell' with
   | false=>rw [hb] at hd;simp at hd
   | true=>rw [hb] at hd;simp at hd;subst hd;simp [AV.touchV,D.touchV]
theorem Jc {x:Operand} {v:AV} {i:Nat} (h:look L cur x=some v) (hi:i∈v.touchV R):i∈touchV R L:=by
 unfold look at h
 split at h
 ·exact absurd hi (Ajp h)
 ·split at h
  ·rename_i e he
   cases hb:F4 e.p cur with
   | false=>rw [hb] at h;simp at h
   | true=>rw [hb] at h;simp at h;subst h;exact Xx (C5 he).1 hi
  ·cases h
 ·simp at h;subst h;simp [AV.touchV,D.touchV,cZ] at hi
 ·cases h
theorem Ty {d:D}:d.norm.touchV R=d.touchV R:=by
 unfold D.norm;split <;> rfl
theorem Sb:∀ {l:List D},cZ R (l.map D.norm)=cZ R l
 | []=>rfl
 | d::r=>by simp only [bw,cZ,Ty,Sb]
theorem Ae8 {x:AV}:x.norm.touchV R=x.touchV R:=by
 cases x with
 | d x=>exact Ty
 | agg l=>exact Sb
 | tup l=>rfl
theorem Ms {g k:Nat}:∀ {d:D},(g,k)∈d.ois->g∈d.touchV R
 | .oi _ _ _ _ _,h=>by simp [D.ois] at h;simp [D.touchV,h.1]
 | .fn f a b,h=>by
  have key:∀ {l:List D},(∀ d,d∈l->(g,k)∈d.ois->g∈d.touchV R)->(g,k)∈da l->g∈cZ R l:=by
   intro l
   induction l with
   | nil=>intro _ h;simp [da] at h
   | cons d l ih=>
    intro hh h
    simp only [da,am] at h
    simp only [cZ,am]
    grind
  simp only [D.ois,am] at h
  simp only [D.touchV,am]
  rcases h with h | h
  ·exact .inl (key (λ d _ h=>Ms h) h)
  ·exact .inr (key (λ d _ h=>Ms h) h)
 | .p _,h=>by simp [D.ois] at h
 | .o _ _,h=>by simp [D.ois] at h
 | .os _,h=>by simp [D.ois] at h
 | .oe _ _ _ _,h=>by simp [D.ois] at h
 | .osb _ _ _ _,h=>by simp [D.ois] at h
 | .ip _,h=>by simp [D.ois] at h
 | .any,h=>by simp [D.ois] at h
 | .nq _,h=>by simp [D.ois] at h
theorem S6 {g k:Nat}:∀ {l:List D},(g,k)∈da l->g∈cZ R l
 | [],h=>by simp [da] at h
 | d::l,h=>by
  simp only [da,am] at h
  simp only [cZ,am]
  exact h.imp Ms S6
theorem Wd {g k:Nat}:∀ {l:List AV},(g,k)∈oisL l->∃ x,x∈l/\g∈x.touchV R
 | [],h=>by simp [oisL] at h
 | x::l,h=>by
  simp only [oisL,am] at h
  rcases h with h | h
  ·refine⟨x,ak,?_⟩
   cases x with
   | d x=>exact Ms h
   | agg l=>exact S6 h
   | tup l=>simp [AV.ois] at h
  ·obtain⟨y,h1,h2⟩:=Wd h
   grind
theorem zT {args:List AV} {f g:FuncId} {q:List AV} {res:AV} {rows:List (List Pd)} {k:Nat} {rw:List Pd} {out:Out} (ht:∀ x,x∈args->∀ i,i∈x.touchV R->R[i]? = R'[i]?)
  (h:Gw R args f (.callB g q res rows k rw)=some out):out.R=R/\Gw R' args f (.callB g q res rows k rw)=some {out with R:=R'}:=by
 simp only [Gw] at h ⊢
 generalize (Nat.beq f g&&res.flat)=bb at h ⊢
 have hview:∀ rw,AV.viewL R rw (args.map AV.norm)=AV.viewL R' rw (args.map AV.norm):=λ rw=>Sc (R:=R) (R':=R') (l:=args.map AV.norm) λ x hx i hi=>by
  obtain⟨y,hy,rfl⟩:=ao.1 hx
  rw [Ae8] at hi
  exact ht y hy i hi
 cases bb with
 | false=>simp at h
 | true=>
  simp only [cond_true] at h ⊢
  split at h
  ·rw [←hview]
   split at h
   ·grind
   ·cases h
  ·rename_i g0 k0 ho
   obtain⟨x,h1,h2⟩:=Wd (R:=R) (l:=args) (g:=g0) (k:=k0) (by rw [ho];simp)
   rw [←hview,←ht x h1 g0 h2]
   split at h
   ·grind
   ·cases h
  ·cases h
theorem Abp {g:Fn} {first caps:List D} {args:List AV} {x:AV} {i:Nat} {f:Operand} {l:List Operand} (e1:look L cur f=some (.d (.fn g first caps))) (e2:Dw L cur l=some args)
  (hx:x∈first.map AV.d++args++caps.map AV.d) (hi:i∈x.touchV R):i∈touchV R L:=by
 have hd:∀ {ds:List D} {d:D},d∈ds->i∈d.touchV R->i∈cZ R ds:=by
  intro ds
  induction ds with
  | nil=>intro d h;cases h
  | cons a r ih=>
   intro d h hi
   simp only [cZ]
   grind
 rcases am.1 hx with hx | hx
 ·rcases am.1 hx with hx | hx
  ·obtain⟨d,hm,rfl⟩:=ao.1 hx
   exact Jc e1 (by simp only [AV.touchV,D.touchV];exact bf _ (hd hm hi))
  ·obtain⟨z,hz⟩:=Fe e2 hx
   exact Jc hz hi
 ·obtain⟨d,hm,rfl⟩:=ao.1 hx
  exact Jc e1 (by simp only [AV.touchV,D.touchV];exact bi _ (hd hm hi))
theorem Wb {c : Cl} {o : Oper} {out : Out} (hq : F3 c o = true) (ht0 : ∀ i, i ∈ deepen R (Kz o.op L) ++ Aq1 c R L -> R[i]? = R'[i]?) (h : I8 P L cur R c o = some out) :
    out.R=R/\I8 P L cur R' c o=some {out with R:=R'}:=by
  have ht:∀ i,i∈deepen R (Kz o.op L)->R[i]? = R'[i]?:=λ i hi=>ht0 i (bf _ hi)
  unfold I8 at h ⊢
  rw [←Ab0 ht]
  split at h
  · rename_i v k hv
    simp at h;subst h
    exact⟨rfl,rfl⟩
  · rename_i hv
    obtain⟨dst,op,type,pos,after,guard⟩:=o
    simp only at h ⊢
    cases op with
    | box t x=>simp [F3] at hq
    | alloc t=>simp [F3] at hq
    | store t x y=>simp [F3] at hq
    | makeSlice t x y=>simp [F3] at hq
    | convert s d x=>
      simp only [F3,aX] at hq
      simp only at h ⊢
      have hO:∀ R' x,M7 P R' c s d x=none:=λ R' x=>by
        unfold M7
        split
        · simp [isZ] at hq
        · rfl
      have hB:∀ R' x,M8 P R' c s d x=none:=λ R' x=>by
        unfold M8
        split
        · simp [isZ] at hq
        · rfl
      unfold Pz at h ⊢
      rw [hO,hB] at h ⊢
      split at h
      · rename_i o1 h0
        cases h
        unfold Tw at h0 ⊢
        split at h0
        · split at h0
          · rename_i he
            simp at h0;subst h0
            exact⟨rfl,rfl⟩
          · cases h0
        · cases h0
      · cases h
    | buildSlice t len parts=>
      simp only [F3,aX] at hq
      simp only at h ⊢
      split at h
      · rename_i ps e1
        unfold G8 at h ⊢
        rw [hq] at h ⊢
        split at h
        · rename_i e hu
          split at h
          · rename_i size zs e2 e3
            cases hb:(Nat.beq zs.length (size+1)&&Nat.ble (len*(size+1)) 16777216) with
            | false=>rw [hb] at h;simp at h
            | true=>
              rw [hb] at h
              simp only [cond_true,cond_false] at h ⊢
              split at h
              · rename_i pd hpd
                simp at h;subst h
                exact⟨rfl,rfl⟩
              · simp at h
          · cases h
        · cases h
      · cases h
    | call kk=>
      obtain⟨callee,cargs,argTypes⟩:=kk
      cases callee with
      | invoke r m=>simp at h
      | builtin b=>cases b <;> first | (simp [F3] at hq;done) | (simp at h;done)
      | value f=>
        simp only [F3,aA,ab] at hq
        simp only at h ⊢
        split at h
        · rename_i g first caps args e1 e2
          cases c with
          | callB g' q res rows k rw=>
            exact zT (λ x hx i hi=>ht0 i (bi _ (Abp e1 e2 hx hi))) h
          | _=>first
            | (rcases hq with hq | hq
               · simp [Aiu] at hq
               · exact Ab5 hq.1 hq.2 h)
        · cases h
    | _=>simp at h
theorem Q2:∀ {l:List Nat} {t:Nat},Mc l t=true↔t∈l
 | [],t=>by simp [Mc]
 | a::r,t=>by
  simp only [Mc,aA,ag,Q2]
  constructor
  ·rintro (h | h)
   ·exact .inl (aj h).symm
   ·exact .inr h
  ·rintro (h | h)
   ·subst h;exact .inl (by simp)
   ·exact .inr h
theorem zU {c:Cl} {ts:List TypeId} {j:Nat} {y:AV} {out:Out} {i:Nat} (h:C3 P R c ts [.d (.os j),y]=some out) (hi:i<R.length) (hj:i≠j):out.R[i]? = R[i]?:=by
 match ts,h with
 | [t,u],h=>
  simp only [C3] at h
  cases hts2:Nat.beq t u with
  | false=>rw [hts2] at h;simp at h
  | true=>
   rw [hts2] at h
   simp only [cond_true] at h
   split at h
   ·grind
   ·cases h
 | [],h=>simp [C3] at h
 | [_],h=>simp [C3] at h
 | _::_::_::_,h=>simp [C3] at h
theorem qF {c:Cl} {ts:List TypeId} {i' g k size off:Nat} {y:AV} {out:Out} {i:Nat} (h:J4 P R c ts i' g k size off y=some out) (hi:i<R.length) (h1:i≠i') (h2:i≠g):out.R[i]? = R[i]?:=by
 unfold J4 at h
 split at h
 ·split at h
  ·generalize ((_&&_:Bool))=bb at h
   cases bb with
   | false=>simp at h
   | true=>
    simp only [cond_true] at h
    split at h
    ·rename_i v' R' a b z m r' hap
     simp at h;subst h
     have:=zU (i:=i) hap (by simp;omega) (by omega)
     grind
    ·cases h
  ·cases h
 ·cases h
theorem qE {c:Cl} {ts:List TypeId} {i' n s:Nat} {y:AV} {out:Out} {i:Nat} (h:L3 P R c ts i' n s y=some out) (h1:i≠i'):out.R[i]? = R[i]?:=by
 unfold L3 at h
 split at h
 ·grind
 ·cases h
theorem Wf {x:AV} {i lo n s:Nat} {a:Operand} (h:Vt R x=some (i,lo,n,s)) (hl:look L cur a=some x):i∈Cy L:=by
 unfold Vt at h
 split at h
 ·split at h
  ·simp at h;obtain⟨rfl,_⟩:=h;exact Ed hl
  ·cases h
 ·simp at h;obtain⟨rfl,_⟩:=h;exact S_ hl
 ·cases h
theorem Ab4 {c:Cl} {ts:List TypeId} {l:List Operand} {args:List AV} {out:Out} {i:Nat} (h:P0 P R c ts args=some out) (hl:Dw L cur l=some args) (h1:i∉Cy L):out.R[i]? = R[i]?:=by
 unfold P0 at h
 split at h
 ·rename_i x
  split at h
  ·split at h
   ·rename_i hd
    split at h
    ·generalize ((_&&_:Bool))=bb at h
     cases bb with
     | false=>simp at h
     | true=>
      simp only [cond_true,ah] at h;subst h
      obtain⟨z,hz⟩:=Fe hl (av:=x) (by simp)
      have:=Wf hd hz
      grind
    ·cases h
   ·cases h
  ·cases h
 ·cases h
theorem Afi {c:Cl} {ts:List TypeId} {l:List Operand} {args:List AV} {out:Out} {i:Nat} (h:Tv P R c ts args=some out) (hl:Dw L cur l=some args) (h1:i∉Cy L):out.R[i]? = R[i]?:=by
 unfold Tv at h
 split at h
 ·rename_i x y
  split at h
  ·split at h
   ·rename_i hd
    split at h
    ·generalize ((_&&_:Bool))=bb at h
     cases bb with
     | false=>simp at h
     | true=>
      simp only [cond_true,ah] at h;subst h
      obtain⟨z,hz⟩:=Fe hl (av:=x) (by simp)
      have:=Wf hd hz
      grind
    ·cases h
   ·cases h
  ·cases h
 ·cases h
theorem Afh {c:Cl} {o:Oper} {i' k size off n:Nat} {ds:List D} {out:Out} {i:Nat} (h:Tt R c o i' k size off ds n=some out) (hi:i<R.length) (h1:i≠i') (h2:∀ e s g,R[i']? = some (.dsl e s g)->i≠g) (h3:∀ m,ds=[.os m]->i≠m):out.R[i]? = R[i]?:=by
 unfold Tt at h
 split at h
 next e s g m q1 q2 q3 row q4 rows' hj=>
  grind
 next=>cases h
theorem Afg {c:Cl} {o:Oper} {i' k size off n:Nat} {ds:List D} {out:Out} {i:Nat} (h:Ts R c o i' k size off ds n=some out) (h1:i≠i') (h3:∀ m,ds=[.os m]->i≠m):out.R[i]? = R[i]?:=by
 unfold Ts at h
 split at h
 ·rename_i m
  have hm:=h3 m rfl
  split at h
  ·cases hb:Nat.beq m i' with
   | true=>rw [hb] at h;simp at h
   | false=>
    rw [hb] at h
    simp only [cond_false] at h
    unfold Rf at h
    grind
  ·cases h
 ·cases h
theorem Nr {l:List Operand} {v:AV} {vs:List AV} (h:Dw L cur l=some (v::vs)):∃ x xs,l=x::xs/\look L cur x=some v:=by
 match l,h with
 | [],h=>cases h
 | x::xs,h=>
  refine⟨x,xs,rfl,?_⟩
  simp only [Dw] at h
  grind
theorem Amu {c : Cl} {o : Oper} {out : Out} {i : Nat} {cs : List (Bool × Bool)} (h : I8 P L cur R c o = some out) (hi : i < R.length) (hw : i ∉ D3 ⟨0, o, L, cur, cs, c, R, out, true, false, none⟩) : out.R[i]? = R[i]? := by
  unfold I8 at h
  split at h
  · simp at h;subst h;rfl
  · obtain ⟨dst, op, type, pos, after, guard⟩ := o
    simp only at h
    cases op with
    | box t x=>
      simp only at h
      split at h
      · generalize (Nat.beq _ _)=bb at h
        cases bb with
        | false=>simp at h
        | true=>simp at h;subst h;simp [List.getElem?_append_left hi]
      · cases h
    | alloc t=>
      simp only at h
      split at h
      · simp at h;subst h;simp [List.getElem?_append_left hi]
      · cases h
    | store t x y =>
      simp only at h
      cases hc:cur.isEmpty with
      | false=>rw [hc] at h;simp at h
      | true=>
        rw [hc] at h
        simp only [cond_true] at h
        split at h
        · rename_i j off ds n e1 e2 e3
          split at h
          · generalize (Nat.beq _ _&&Nat.ble _ _&&Option.isNone _)=bb at h
            cases bb with
            | false=>simp at h
            | true=>
              simp at h;subst h
              simp only [D3,e1,aC] at hw
              simp only
              rw [bt (Ne.symm hw)]
          · cases h
        · rename_i j k size off ds n e1 e2 e3
          simp only [D3,e1,ag,not_or] at hw
          obtain⟨hw1,hw2⟩:=hw
          split at h
          · rename_i out' hput
            simp at h;subst h
            unfold Rf at hput
            split at hput
            · generalize (Nat.beq _ _&&(Nat.beq _ _&&(Nat.ble _ _&&Option.isNone _)))=bb at hput
              cases bb with
              | false=>simp at hput
              | true=>
                simp at hput;subst hput
                simp only
                rw [bt (Ne.symm hw1)]
            · cases hput
          · have hms:∀ m,ds=[.os m]->i≠m:=by
              intro m hds
              rintro rfl
              subst hds
              refine hw2 (bi _ ?_)
              obtain⟨av,h1,h2⟩:=Dk e2
              cases av with
              | d x=>simp [Hv] at h2;subst h2;exact Jc h1 (by simp [AV.touchV,D.touchV])
              | agg l=>simp [Hv] at h2;subst h2;exact Jc h1 (by simp [AV.touchV,D.touchV,cZ])
              | tup l=>simp [Hv] at h2
            split at h
            · rename_i out' hput
              simp at h;subst h
              refine Afh hput hi hw1 (λ e s g hj=>?_) hms
              rintro rfl
              exact hw2 (bf _ (Acc (Nq e1) hj))
            · exact Afg h hw1 hms
        · cases h
    | buildSlice t len parts=>
      simp only at h
      split at h
      · unfold G8 at h
        split at h
        · split at h
          · generalize (Nat.beq _ _&&Nat.ble _ _)=bb at h
            cases bb with
            | false=>simp at h
            | true=>
              simp only [cond_true] at h
              split at h
              · cases ho:Li c with
                | true=>rw [ho] at h;simp at h;subst h;simp [List.getElem?_append_left hi]
                | false=>rw [ho] at h;simp at h;subst h;rfl
              · generalize (Li c&&Nat.beq _ _)=bb at h
                cases bb with
                | false=>simp at h
                | true=>obtain⟨ds,_,rfl⟩:=Dl h;simp [List.getElem?_append_left hi]
          · cases h
        · cases h
      · cases h
    | convert s d x=>
      simp only at h
      rcases yC h with e | ⟨r,e⟩
      · rw [e]
      · rw [e,aD hi]
    | makeSlice t x y=>
      simp only at h
      generalize (K1 x y)=bb at h
      cases bb with
      | false=>simp at h
      | true=>
        simp only [cond_true] at h
        unfold Lx at h
        split at h
        · split at h
          · split at h
            · generalize (Nat.beq _ _)=bb at h
              cases bb with
              | false=>simp at h
              | true=>simp at h;subst h;simp [List.getElem?_append_left hi]
            · cases h
          · cases h
        · split at h
          · split at h
            · generalize (Nat.beq _ _&&_)=bb at h
              cases bb with
              | false=>simp at h
              | true=>simp at h;subst h;simp [List.getElem?_append_left hi]
            · cases h
          · cases h
        · cases h
    | call kk =>
      obtain⟨callee,cargs,argTypes⟩:=kk
      cases callee with
      | invoke r m=>simp at h
      | builtin b=>
        cases b <;> first
          | (simp at h;done)
          | (simp only at h
             split at h
             · rename_i args e1
               first
                 | exact Ab4 h e1 (by simpa [D3] using hw)
                 | exact Afi h e1 (by simpa [D3] using hw)
             · cases h
             done)
          | (simp only at h
             split at h
             · rename_i i' g q size off y e1
               have hall:=e1
               obtain⟨z,hz⟩:=Fe e1 (av:=.d (.oi i' g q size off)) (by simp)
               obtain⟨hi1,hg1⟩:=zP hz
               obtain⟨x0,xs0,hx0,hv0⟩:=Nr e1
               have hii:i≠i':=by rintro rfl;exact hw (by simpa [D3,hx0,Ac8,hv0] using hi1)
               have hig:i≠g:=by rintro rfl;exact hw (by simpa [D3,hx0,Ac8,hv0] using hg1)
               exact qF h hi hii hig
             · rename_i i' n s y e1
               obtain⟨z,hz⟩:=Fe e1 (av:=.d (.osb i' 0 n s)) (by simp)
               obtain⟨x0,xs0,hx0,hv0⟩:=Nr e1
               have hii:i≠i':=by rintro rfl;exact hw (by simp [D3,hx0,Ac8,hv0])
               unfold Om at h
               split at h
               · exact qE h hii
               · obtain⟨r0,hr0⟩:=Tx h
                 rw [hr0,aD (by simpa using hi),bt (Ne.symm hii)]
             · rename_i args _ _ e1
               unfold C3 at h
               split at h
               · rename_i t u x y hts
                 generalize (Nat.beq _ _)=bb at h
                 cases bb with
                 | false=>simp at h
                 | true=>
                   simp only [cond_true] at h
                   split at h
                   · split at h
                     · split at h
                       · generalize (Nat.beq _ _)=bb at h
                         cases bb with
                         | false=>simp at h
                         | true=>
                           simp only [cond_true] at h
                           split at h
                           · simp at h;subst h;simp [List.getElem?_append_left hi]
                           · rename_i j
                             split at h
                             · generalize (Nat.beq _ _&&Nat.beq _ _)=bb at h
                               cases bb with
                               | false=>simp at h
                               | true=>
                                 simp at h;subst h
                                 obtain⟨z,hz⟩:=Fe e1 (av:=.d (.os _)) ak
                                 have hj:=Ed hz
                                 simp only
                                 rw [aD (by simpa using hi),bt]
                                 rintro rfl
                                 refine hw ?_
                                 obtain⟨x0,xs0,hx0,hv0⟩:=Nr e1
                                 simp [D3,hx0,Ac8,hv0]
                             · cases h
                           · cases h
                       · cases h
                     · cases h
                   · cases h
               · cases h
             · cases h)
      | value f =>
        simp only at h
        split at h
        · rename_i g first caps args e1 e2
          cases c with
          | call f' q1 q2 res R2 pi =>
            simp only [Gw] at h
            generalize (Nat.beq g f'&&Fo pi&&Nat.ble pi.length R2.length)=bb at h
            cases bb with
            | false=>simp at h
            | true=>
              simp only [cond_true] at h
              split at h
              · split at h
                · rename_i Rp2 res2 RR e3 e4 e5
                  simp at h;subst h
                  simp only [D3] at hw
                  simp only
                  rw [aD (by rw [Fs];exact hi)]
                  cases hg:R[i]? with
                  | none=>rw [List.getElem?_eq_none_iff] at hg;omega
                  | some r=>
                    have hlt:i<(Fh R pi RR).length:=by rw [Fs];exact hi
                    rcases Qv pi R _ i _ (ai hlt) with⟨j,h1,_⟩ | ⟨h1,_⟩
                    · exact absurd (ae h1) hw
                    · rw [ai hlt,←h1,hg]
                · cases h
              · cases h
          | callB f' q1 res rows0 k0 rw0=>
            simp only [Gw] at h
            generalize (Nat.beq g f'&&res.flat)=bb at h
            cases bb with
            | false=>simp at h
            | true=>
              simp only [cond_true] at h
              split at h
              · split at h
                · simp at h;subst h;rfl
                · cases h
              · split at h
                · simp at h;subst h;rfl
                · cases h
              · cases h
          | _=>simp [Gw] at h
        · cases h
    | _=>simp at h
end
end Go.SL
namespace Go.SL
section
variable {P:Program} {C:Ctx} {S S':Nat->Prop} {w w':World} {ρ ρ':List Value} {R R':List Res} {L L':List Ent} {a:Act}
structure Aaf (P:Program) (n:Nat) (ops:Array Oper) (r:Rec):Prop where
 op:ops[r.i]? = some r.o
 guard:Lv ops r.need r.o=some r.cur
 cs:Gj r.need r.cur=some r.cs
 ev:r.fl=none->I8 P r.need r.cur r.Rin r.c r.o=some r.out
 flo:∀ i,r.fl=some i->Yk P r.need r.cur r.Rin r.c i r.o=some r.out
 dst:∀ d,r.o.dst=some d->d<n/\r.cur.all (λ g=>!(Nat.beq g.1 d))=true
 nodst:r.o.dst=none->r.cur.isEmpty=true
 ok:∀ x,r.out.c=some x->(J9 r.cur r.r r.cs x).ok P
 gb:Nv r.need r.cur r.r r.c r.o=true
 eff:r.eff=(r.fl.isNone && !F3 r.c r.o)
def Ain (L:List Ent) (r:Rec):List Ent:=match r.o.dst with | some d=>Sz L d r.cur r.out.v | none=>L
def I5 (P:Program) (n:Nat) (ops:Array Oper):List Ent->List Res->List Rec->List Ent->List Res->Prop
 | L,R,[],L',R'=>L=L'/\R=R'
 | L,R,r::rs,L',R'=>Aaf P n ops r/\r.Rin=R/\(∀ e,e∈r.need->e∈L)/\I5 P n ops (Ain L r) r.out.R rs L' R'
theorem Mt:∀ {ts:List Nat} {e:Ent},e∈Kk L ts->e∈L
 | [],e,h=>by simp [Kk] at h
 | t :: ts, e, h => by
  simp only [Kk] at h
  split at h
  ·rename_i x hx
   rcases ag.1 h with rfl | h
   ·exact (C5 hx).1
   ·rcases am.1 h with h | h
    ·rw [List.mem_filterMap] at h
     obtain⟨g,_,hg⟩:=h
     exact (C5 hg).1
    ·exact Mt h
  ·exact Mt h
theorem Mq {n : Nat} {ops : Array Oper} : ∀ {is : List Nat} {L : List Ent} {R : List Res} {cls : List Cl} {rs : List Rec} {L' : List Ent} {R' : List Res} {ks : List Cl},
  Qy P n ops is L R cls=some (rs,L',R',ks)->C1 P ks->I5 P n ops L R rs L' R'/\rs.map (·.i)=is
 | [],L,R,cls,rs,L',R',ks,h,_=>by
  simp [Qy] at h
  obtain⟨rfl,rfl,rfl,rfl⟩:=h
  exact⟨⟨rfl,rfl⟩,rfl⟩
 | i :: is, L, R, cls, rs, L', R', ks, h, hok => by
  simp only [Qy] at h
  split at h
  ·cases h
  ·rename_i o ho
   split at h
   ·cases h
   ·rename_i cur hcur
    split at h
    ·rename_i out cs e1 e2
     cases hb:(Ajc n o cur&&Nv (Kk L (Vj ops o)) cur (isR (cls.headD .nop)) (Gi (cls.headD .nop)) o) with
     | false=>rw [hb] at h;simp at h
     | true=>
      rw [hb] at h
      simp only [ab] at hb
      obtain⟨hb,hgb⟩:=hb
      unfold Ajc at hb
      simp only [cond_true] at h
      have hev1:Re o (Gi (cls.headD .nop))=none->I8 P (Kk L (Vj ops o)) cur R (Gi (cls.headD .nop)) o=some out:=by
       intro hf
       unfold Aja at e1
       rw [hf] at e1
       exact e1
      have hev2:∀ j,Re o (Gi (cls.headD .nop))=some j->Yk P (Kk L (Vj ops o)) cur R (Gi (cls.headD .nop)) j o=some out:=by
       intro j hf
       unfold Aja at e1
       rw [hf] at e1
       exact e1
      have hdst:∀ d,o.dst=some d->d<n/\cur.all (λ g=>!(Nat.beq g.1 d))=true:=by
       intro d hd
       rw [hd] at hb
       simp only [ab] at hb
       exact⟨by have:=hb.1;simpa [Nat.blt_eq] using this,hb.2⟩
      have hnod:o.dst=none->cur.isEmpty=true:=by
       intro hd
       rw [hd] at hb
       exact hb
      split at h
      ·rename_i x hx
       split at h
       ·rename_i rs2 L2 R2 ks2 e3
        simp only [ah,aq] at h
        obtain⟨rfl,rfl,rfl,rfl⟩:=h
        obtain⟨g1,g2⟩:=Mq e3 hok.2
        exact⟨⟨⟨ho,hcur,e2,hev1,hev2,hdst,hnod,λ y hy=>(by rw [hx] at hy;cases hy;exact hok.1),hgb,rfl⟩,rfl,λ e he=>Mt he,g1⟩,by simp [g2]⟩
       ·cases h
      ·rename_i hx
       split at h
       ·rename_i rs2 L2 R2 ks2 e3
        simp only [ah,aq] at h
        obtain⟨rfl,rfl,rfl,rfl⟩:=h
        obtain⟨g1,g2⟩:=Mq e3 hok
        exact⟨⟨⟨ho,hcur,e2,hev1,hev2,hdst,hnod,λ y hy=>(by rw [hx] at hy;cases hy),hgb,rfl⟩,rfl,λ e he=>Mt he,g1⟩,by simp [g2]⟩
       ·cases h
    ·cases h
theorem Rj {L:List Ent} {cur:C_} {c:Cl} {i:Nat} {o:Oper} {out:Out} (h:Yk P L cur R c i o=some out) :
  (∃ t z cells r',o.op = .alloc t/\Et P t=some z/\Ft z.cells.toList=some cells/\R[i]? = some r'/\out=⟨.d (.o i 0),R,some (.flt i (.box t cells) r')⟩) \/
  (∃ t l c0 o1 r1 r' c1,o.op = .makeSlice t l l/\R[i]? = some r'/\Lx P [] c0 t ((look L cur l).bind C9)=some o1/\o1.R=[r1]/\o1.c=some c1/\out=⟨.d (.os i),R,some (.fltm i c1 r1 r')⟩):=by
 unfold Yk at h
 split at h
 ·rename_i t l k ht
  split at h
  ·rename_i i0 c0 q1 q2 r' e1
   split at h
   ·rename_i o1 hs e2
    have hlk:l=k:=by
     unfold K1 at hs
     split at hs
     ·rw [aj hs]
     ·rw [eq_of_beq hs]
     ·cases hs
    subst hlk
    split at h
    ·rename_i r1 c1 e3 e4
     simp only [ah] at h
     exact .inr ⟨t,l,c0,o1,r1,r',c1,ht,e1,e2,e3,e4,h.symm⟩
    ·cases h
   ·cases h
  ·cases h
 ·rename_i t ht
  split at h
  ·rename_i cells r' e1 e2
   simp at h
   cases hz:Et P t with
   | none=>rw [hz] at e1;simp at e1
   | some z=>rw [hz] at e1;exact .inl ⟨t,z,cells,r',ht,hz,e1,e2,h.symm⟩
  ·cases h
 ·cases h
def Eg (X:Nat->Bool):List Res->List Rec->List Res
 | R,[]=>R
 | R,r::rs=>bif r.eff&&X r.i then Eg X r.out.R rs else Eg X R rs
theorem Hu {n:Nat} {ops:Array Oper} {r:Rec} (h:Aaf P n ops r) (he:r.eff=false):r.out.R=r.Rin:=by
 have:=h.eff
 rw [he] at this
 cases hf:r.fl with
 | none=>
  rw [hf] at this
  exact (Wb (R':=r.Rin) (by simpa using this.symm) (λ _ _=>rfl) (h.ev hf)).1
 | some i=>
  rcases Rj (h.flo i hf) with⟨t,z,cells,r',_,_,_,_,e⟩ | ⟨t,l,c0,o1,r1,r',c1,_,_,_,_,_,e⟩ <;>
  rw [e]
def PC (X:Nat->Bool) (rs:List Rec):Prop:=∀ r q,r∈rs->q∈rs->r.eff=true->q.eff=true->r.i<q.i->X q.i=true->X r.i=true
def Hb (rs:List Rec):Prop:=rs.Pairwise λ r q=>r.i<q.i
theorem PC.tail {X:Nat->Bool} {r:Rec} {rs:List Rec} (h:PC X (r::rs)):PC X rs:=
 λ a b ha hb=>h a b (al _ ha) (al _ hb)
theorem Fl {X:Nat->Bool}:∀ {rs:List Rec} {R:List Res},(∀ r,r∈rs->r.eff=true->X r.i=false)->Eg X R rs=R
 | [],R,_=>rfl
 | r::rs,R,h=>by
  have ih:=Fl (R:=R) (λ q hq=>h q (al _ hq))
  simp only [Eg]
  cases he:r.eff with
  | false=>simpa using ih
  | true=>rw [h r ak he];simpa using ih
theorem Kn {X:Nat->Bool} {r:Rec} {rs:List Rec} (hp:PC X (r::rs)) (hs:Hb (r::rs)) (he:r.eff=true) (hx:X r.i=false):∀ q,q∈rs->q.eff=true->X q.i=false:=by
 intro q hq hqe
 cases hxq:X q.i with
 | false=>rfl
 | true=>
  have:=hp r q ak (al _ hq) he hqe ((aP.1 hs).1 q hq) hxq
  rw [hx] at this;cases this
theorem Ak3 {r r':Rec} (h1:r.o=r'.o) (h2:r.need=r'.need) (h3:r.cur=r'.cur) (h4:r.c=r'.c) (h5:r.Rin=r'.Rin):D3 r=D3 r':=by
 unfold D3;rw [h1,h2,h3,h4,h5]
theorem Sy {n:Nat} {ops:Array Oper} {r:Rec} (h:Aaf P n ops r) {i:Nat} (hw:i∉D3 r) (hl:i<r.Rin.length):r.out.R[i]? = r.Rin[i]?:=by
 cases hf:r.fl with
 | none=>
  exact Amu (cs:=r.cs) (h.ev hf) hl (λ hm=>hw (by
   have e:D3 ⟨0,r.o,r.need,r.cur,r.cs,r.c,r.Rin,r.out,true,false,none⟩=D3 r:=Ak3 rfl rfl rfl rfl rfl
   rw [←e];exact hm))
 | some j=>
  rcases Rj (h.flo j hf) with⟨t,z,cells,r',_,_,_,_,e⟩ | ⟨t,l,c0,o1,r1,r',c1,_,_,_,_,_,e⟩ <;>
  rw [e]
theorem Oq {n:Nat} {ops:Array Oper} {X:Nat->Bool} {i:Nat}:∀ {rs:List Rec} {L:List Ent} {R:List Res},I5 P n ops L R rs L' R'->Hb rs->PC X rs ->
  (∀ r,r∈rs->r.eff=true->X r.i=true->i∉D3 r/\i<r.Rin.length)->(Eg X R rs)[i]? = R[i]?
 | [],L,R,_,_,_,_=>rfl
 | r::rs,L,R,hc,hs,hp,h=>by
  obtain⟨hr,hR,_,hc'⟩:=hc
  simp only [Eg]
  cases he:r.eff with
  | false=>
   have hq:=Hu hr he
   rw [hq,hR] at hc'
   simpa using Oq hc' (aP.1 hs).2 hp.tail (λ q hq=>h q (al _ hq))
  | true=>
   cases hx:X r.i with
   | false=>
    simp only [Bool.and_false,cond_false]
    rw [Fl (Kn hp hs he hx)]
   | true=>
    simp only [cq,cond_true]
    rw [Oq hc' (aP.1 hs).2 hp.tail (λ q hq=>h q (al _ hq))]
    obtain⟨g1,g2⟩:=h r ak he hx
    rw [Sy hr g1 g2,hR]
theorem W9 {n:Nat} {ops:Array Oper} {X Y:Nat->Bool} {i:Nat}:∀ {rs:List Rec} {L:List Ent} {R:List Res},I5 P n ops L R rs L' R'->Hb rs->PC X rs->PC Y rs ->
  (∀ r,r∈rs->r.eff=true->X r.i≠Y r.i->i∉D3 r/\i<r.Rin.length)->(Eg X R rs)[i]? = (Eg Y R rs)[i]?
 | [],L,R,_,_,_,_,_=>rfl
 | r :: rs, L, R, hc, hs, hp, hq, h => by
  obtain⟨hr,hR,_,hc'⟩:=hc
  have hs':=(aP.1 hs).2
  simp only [Eg]
  cases he:r.eff with
  | false=>
   have hq':=Hu hr he
   rw [hq',hR] at hc'
   simpa using W9 hc' hs' hp.tail hq.tail (λ q hq=>h q (al _ hq))
  | true=>
   cases hx:X r.i with
   | false=>
    cases hy:Y r.i with
    | false=>
     simp only [Bool.and_false,cond_false]
     rw [Fl (Kn hp hs he hx),Fl (Kn hq hs he hy)]
    | true=>
     simp only [Bool.and_false,cond_false,cq,cond_true]
     have hl:=Kn hp hs he hx
     rw [Fl hl,Oq hc' hs' hq.tail λ q hq2 hqe hqy=>h q (al _ hq2) hqe (by rw [hl q hq2 hqe,hqy];simp)]
     obtain⟨g1,g2⟩:=h r ak he (by rw [hx,hy];simp)
     rw [Sy hr g1 g2,hR]
   | true=>
    cases hy:Y r.i with
    | true=>
     simp only [cq,cond_true]
     exact W9 hc' hs' hp.tail hq.tail (λ q hq=>h q (al _ hq))
    | false=>
     simp only [Bool.and_false,cond_false,cq,cond_true]
     have hl:=Kn hq hs he hy
     rw [Fl hl,Oq hc' hs' hp.tail λ q hq2 hqe hqx=>h q (al _ hq2) hqe (by rw [hl q hq2 hqe,hqx];simp)]
     obtain⟨g1,g2⟩:=h r ak he (by rw [hx,hy];simp)
     rw [Sy hr g1 g2,hR]
theorem Ks {X Y:Nat->Bool}:∀ {rs:List Rec} {R:List Res},(∀ r,r∈rs->r.eff=true->X r.i=Y r.i)->Eg X R rs=Eg Y R rs
 | [],_,_=>rfl
 | r::rs,R,h=>by
  simp only [Eg]
  cases he:r.eff with
  | false=>simpa using Ks (λ q hq=>h q (al _ hq))
  | true=>
   rw [h r ak he]
   cases Y r.i <;> simpa using Ks (λ q hq=>h q (al _ hq))
theorem Vu {n:Nat} {ops:Array Oper} {q:Rec}:∀ {rs:List Rec} {L:List Ent} {R:List Res},I5 P n ops L R rs L' R'->Hb rs->q∈rs->Eg (λ i=>Nat.blt i q.i) R rs=q.Rin
 | [],L,R,_,_,h=>by cases h
 | r::rs,L,R,hc,hs,hq=>by
  obtain⟨hr,hR,_,hc'⟩:=hc
  have hs':=(aP.1 hs).2
  have hlt:=(aP.1 hs).1
  rcases ag.1 hq with rfl | hq
  ·rw [hR]
   refine Fl λ x hx _=>?_
   rcases ag.1 hx with rfl | hx
   ·cases hb:Nat.blt x.i x.i with
    | false=>rfl
    | true=>rw [bp] at hb;omega
   ·have:=hlt x hx
    cases hb:Nat.blt x.i q.i with
    | false=>rfl
    | true=>rw [bp] at hb;omega
  ·have h1:Nat.blt r.i q.i=true:=by rw [bp];exact hlt q hq
   simp only [Eg,h1,bG]
   cases he:r.eff with
   | false=>
    have hq':=Hu hr he
    rw [hq',hR] at hc'
    exact Vu hc' hs' hq
   | true=>exact Vu hc' hs' hq
theorem O_ {n:Nat} {ops:Array Oper} {q:Rec}:∀ {rs:List Rec} {L:List Ent} {R:List Res},I5 P n ops L R rs L' R'->Hb rs->q∈rs->Eg (λ i=>Nat.ble i q.i) R rs=q.out.R
 | [],L,R,_,_,h=>by cases h
 | r::rs,L,R,hc,hs,hq=>by
  obtain⟨hr,hR,_,hc'⟩:=hc
  have hs':=(aP.1 hs).2
  have hlt:=(aP.1 hs).1
  rcases ag.1 hq with rfl | hq
  ·have h1:Nat.ble q.i q.i=true:=by simp
   have hno:∀ x,x∈rs->x.eff=true->Nat.ble x.i q.i=false:=by
    intro x hx _
    have:=hlt x hx
    cases hb:Nat.ble x.i q.i with
    | false=>rfl
    | true=>have:=bq hb;omega
   simp only [Eg,h1,bG]
   cases he:q.eff with
   | false=>simp only [cond_false];rw [Fl hno,Hu hr he,hR]
   | true=>simp only [cond_true];rw [Fl hno]
  ·have h1:Nat.ble r.i q.i=true:=by have:=hlt q hq;exact Nat.ble_eq_true_of_le (by omega)
   simp only [Eg,h1,bG]
   cases he:r.eff with
   | false=>
    have hq':=Hu hr he
    rw [hq',hR] at hc'
    exact O_ hc' hs' hq
   | true=>exact O_ hc' hs' hq
theorem Rl {n:Nat} {ops:Array Oper} {X:Nat->Bool}:∀ {rs:List Rec} {L:List Ent} {R:List Res},I5 P n ops L R rs L' R'->(∀ r,r∈rs->X r.i=true)->Eg X R rs=R'
 | [],L,R,hc,_=>hc.2
 | r::rs,L,R,hc,h=>by
  obtain⟨hr,hR,_,hc'⟩:=hc
  simp only [Eg,h r ak,bG]
  cases he:r.eff with
  | false=>
   have hq':=Hu hr he
   rw [hq',hR] at hc'
   exact Rl hc' (λ q hq=>h q (al _ hq))
  | true=>exact Rl hc' (λ q hq=>h q (al _ hq))
theorem J5 {n:Nat} {ops:Array Oper} {q:Rec}:∀ {rs:List Rec} {L:List Ent} {R:List Res},I5 P n ops L R rs L' R'->q∈rs->Aaf P n ops q
 | [],L,R,_,h=>by cases h
 | r::rs,L,R,hc,hq=>by
  rcases ag.1 hq with rfl | hq
  ·exact hc.1
  ·exact J5 hc.2.2.2 hq
def J8 (q:Rec) (e:Ent):Prop:=∀ d,q.o.dst=some d->d≠e.t/\∀ g,g∈e.p->g.1≠d
def Akz (rs:List Rec) (L0:List Ent) (X:Nat->Bool) (e:Ent):Prop:=
 (e∈L0/\∀ q,q∈rs->X q.i=true->J8 q e) \/
 (∃ r,r∈rs/\X r.i=true/\r.o.dst=some e.t/\e.p=r.cur/\e.v=r.out.v/\∀ q,q∈rs->r.i<q.i->X q.i=true->J8 q e)
theorem Ro {n:Nat} {ops:Array Oper}:∀ {rs:List Rec} {L:List Ent} {R:List Res},I5 P n ops L R rs L' R'->Hb rs->∀ e,e∈L' ->
  (e∈L/\∀ q,q∈rs->J8 q e)\/(∃ r,r∈rs/\r.o.dst=some e.t/\e.p=r.cur/\e.v=r.out.v/\∀ q,q∈rs->r.i<q.i->J8 q e)
 | [],L,R,hc,_,e,he=>by
  have:=hc.1;subst this
  exact .inl ⟨he,λ q hq=>by cases hq⟩
 | r :: rs, L, R, hc, hs, e, he => by
  obtain⟨hr,hR,_,hc'⟩:=hc
  have hs':=(aP.1 hs).2
  have hlt:=(aP.1 hs).1
  rcases Ro hc' hs' e he with⟨h1,h2⟩ | ⟨x,h1,h2,h3,h4,h5⟩
  ·unfold Ain at h1
   cases hd:r.o.dst with
   | none=>
    rw [hd] at h1
    refine .inl ⟨h1,λ q hq=>?_⟩
    rcases ag.1 hq with rfl | hq
    ·intro d hd';rw [hd] at hd';cases hd'
    ·exact h2 q hq
   | some d=>
    rw [hd] at h1
    unfold Sz at h1
    rcases ag.1 h1 with rfl | h1
    ·refine .inr ⟨r,ak,hd,rfl,rfl,λ q hq hlt'=>?_⟩
     rcases ag.1 hq with rfl | hq
     ·omega
     ·exact h2 q hq
    ·rw [ax] at h1
     obtain⟨h1,hf⟩:=h1
     simp only [ab] at hf
     refine .inl ⟨h1,λ q hq=>?_⟩
     rcases ag.1 hq with rfl | hq
     ·intro d' hd'
      rw [hd] at hd';cases hd'
      refine⟨λ e'=>?_,λ g hg e'=>?_⟩
      ·subst e';simp at hf
      ·have:=(aH.1 hf.2) g hg
       subst e';simp at this
     ·exact h2 q hq
  ·refine .inr ⟨x,al _ h1,h2,h3,h4,λ q hq hlt'=>?_⟩
   rcases ag.1 hq with rfl | hq
   ·have:=hlt x h1;omega
   ·exact h5 q hq hlt'
theorem Yt {n : Nat} {ops : Array Oper} {q : Rec} : ∀ {rs : List Rec} {L : List Ent} {R : List Res}, I5 P n ops L R rs L' R' -> Hb rs -> q ∈ rs -> ∀ e, e ∈ q.need ->
  (e∈L/\∀ x,x∈rs->x.i<q.i->J8 x e)\/(∃ r,r∈rs/\r.i<q.i/\r.o.dst=some e.t/\e.p=r.cur/\e.v=r.out.v/\∀ x,x∈rs->r.i<x.i->x.i<q.i->J8 x e)
 | [],L,R,_,_,h,_,_=>by cases h
 | r :: rs, L, R, hc, hs, hq, e, he => by
  obtain⟨hr,hR,hn,hc'⟩:=hc
  have hs':=(aP.1 hs).2
  have hlt:=(aP.1 hs).1
  rcases ag.1 hq with rfl | hq
  ·refine .inl ⟨hn e he,λ x hx hlt'=>?_⟩
   rcases ag.1 hx with rfl | hx
   ·omega
   ·have:=hlt x hx;omega
  ·rcases Yt hc' hs' hq e he with⟨h1,h2⟩ | ⟨x,h1,h1',h2,h3,h4,h5⟩
   ·unfold Ain at h1
    cases hd:r.o.dst with
    | none=>
     rw [hd] at h1
     refine .inl ⟨h1,λ q' hq' hl=>?_⟩
     rcases ag.1 hq' with rfl | hq'
     ·intro d hd';rw [hd] at hd';cases hd'
     ·exact h2 q' hq' hl
    | some d=>
     rw [hd] at h1
     unfold Sz at h1
     rcases ag.1 h1 with rfl | h1
     ·refine .inr ⟨r,ak,hlt q hq,hd,rfl,rfl,λ q' hq' hlt' hl=>?_⟩
      rcases ag.1 hq' with rfl | hq'
      ·omega
      ·exact h2 q' hq' hl
     ·rw [ax] at h1
      obtain⟨h1,hf⟩:=h1
      simp only [ab] at hf
      refine .inl ⟨h1,λ q' hq' hl=>?_⟩
      rcases ag.1 hq' with rfl | hq'
      ·intro d' hd'
       rw [hd] at hd';cases hd'
       refine⟨λ e'=>?_,λ g hg e'=>?_⟩
       ·subst e';simp at hf
       ·have:=(aH.1 hf.2) g hg
        subst e';simp at this
      ·exact h2 q' hq' hl
   ·refine .inr ⟨x,al _ h1,h1',h2,h3,h4,λ q' hq' hlt' hl=>?_⟩
    rcases ag.1 hq' with rfl | hq'
    ·have:=hlt x h1;omega
    ·exact h5 q' hq' hlt' hl
end
end Go.SL
