import Derived.Test.YtaplakgdkkmpfaaGreatDoorSlLD
import Derived.OrdersIn
import Derived.ControlIn
import Derived.LoopNIn
namespace Go.SL
section
variable {P:Program} {C:Ctx} {S S':Nat->Prop} {w w':World} {ρ ρ':List Value} {R:List Res} {L:List Ent} {cur:A6} {a:Act}
def FR (ro:Option Nat):Fence:={Fence.wide with round:=ro}
def T_ (o:Oper):Prop:=∀ c,o.op ≠ .defer c
def vD (P:Program) (o:Oper) (a:Act) (K:Act->World->Prop):Result Next->Prop
 | .ok (.value v) w'=>K (a.put o.dst v) w'
 | .ok .skip w'=>K (a.put o.dst undef) w'
 | .ok (.enter f args) w'=>Calls P f args w' λ e w''=>∃ v,e = .returned v/\K (a.put o.dst v) w''
 | _=>False
def wpv (P:Program) (o:Oper) (a:Act) (w:World) (K:Act->World->Prop):Prop:=vD P o a K ((execOp a.eval o).run P w)
theorem qJ {ro:Option Nat} {o:Oper} {K:Act->World->Prop} {Q:Exit->Act->World->Prop} (hd:T_ o) (h:wpv P o a w K):o.wpIn (FR ro) 0 P a w K Q:=by
 refine⟨λ _ _=>trivial,?_⟩
 rw [Oper.semAt_eq (FR ro).round a.eval o hd]
 unfold wpv at h
 generalize (execOp a.eval o).run P w=r at h
 match r,h with
 | .ok (.value v) w',h=>exact h
 | .ok .skip w',h=>exact h
 | .ok (.enter f args) w',h=>
  refine⟨(λ h=>by cases h),?_⟩
  have h2:CallsIn Fence.wide 0 P f args w' λ e w''=>∃ v,e = .returned v/\K (a.put o.dst v) w'':=callsIn_wide.2 h
  refine CallsIn.mono (F:=FR ro) h2 λ e w'' hp=>?_
  obtain⟨v,rfl,hk⟩:=hp
  exact hk
theorem Bq {o:Oper} {K:Act->World->Prop} {v:Value} (h:(execOp a.eval o).run P w = .ok (.value v) w') (hK:K (a.put o.dst v) w'):wpv P o a w K:=by
 unfold wpv;rw [h];exact hK
theorem Na {c:Cl} {o:Oper} {out:Out} (h:Dw P L cur R c o=some out):T_ o:=by
 intro k hk
 obtain⟨dst,op,type,pos,after,guard⟩:=o
 simp only at hk
 subst hk
 simp [Dw,Ap] at h
theorem U4 (hI:Inv C S w ρ R) {v:Value} {av:AV} (h:RdA S w ρ v av):Bw C S w ρ R v av S w ρ:=⟨hI,λ _ h=>h,λ _ _=>rfl,Pre.refl _,h⟩
theorem Oe:∀ {ds:List D} {ps:List Pd},dPs ds=some ps->ds.length=ps.length
 | [],ps,h=>by simp [dPs] at h;subst h;rfl
 | d::r,ps,h=>by
  simp only [dPs] at h
  split at h
  ·rename_i x l h1 h2
   simp at h;subst h
   simp [Oe h2]
  ·cases h
theorem Inv.putRow (hI:Inv C S w ρ R) {i k s off n b o l cp:Nat} {t e:TypeId} {rows:List (List Pd)} {row ps:List Pd} {v:Value} (hi:R[i]? = some (.sl e s rows)) (hρ:ρ[i]? = some (.slice (some ⟨b,o,none⟩) l cp))
  (hv:Ae (RdP S w) v.cells.toList ps) (hn:Aj P t=some n) (hl:ps.length=n) (ho:off+n<=s) (hrow:rows[k]? = some row) :
  ∃ w',(storeVar t ⟨b,o+k*s+off,none⟩ v).run P w = .ok () w'/\Inv C S w' ρ (R.set i (.sl e s (rows.set k (row.take off++(ps++row.drop (off+n))))))/\(∀ k,S k->w'.heap[k]? = w.heap[k]?):=by
 have hklt:k<rows.length:=(aa.1 hrow).1
 rcases (hI.ok i _ _ hi hρ).live rfl with⟨h3,h4⟩ | ⟨b',o',cp',vs,h3,hb,hcap,hmx,hfit,hlen,hcells⟩
 ·cases h3
 ·cases h3
  have hrl:row.length=s:=hlen row (aq hrow)
  have hsz:v.cells.size=n:=by have:=hv.length;simpa [hl] using this
  have hk1:(k+1)*s<=cp*s:=aN _ (by omega)
  rw [ar,bC] at hk1
  have hbound:o+k*s+off+n<=vs.size:=by omega
  have hone:∀ x,x∈v.cells.toList->x.oneCell'=true:=Mj hv
  refine⟨_,Fu hn hsz hb hbound hone,?_,?_⟩
  ·have ob:=hI.own i _ _ b hi hρ rfl
   refine hI.put hi hρ (b:=b) rfl (λ k hk=>by simp [Res.foot] at hk;exact hk.symm) (λ k hk=>Au _ _ _ _ hk) (by simp) rfl rfl rfl ?_
   have hS:∀ q,S q->(w.setRow b (vs.toList.take (o+k*s+off)++v.cells.toList++vs.toList.drop (o+k*s+off+v.cells.toList.length)).toArray).heap[q]? = w.heap[q]?:=λ q hq=>Au _ _ _ _ (λ e=>ob.1 (e ▸ hq))
   have hvl:v.cells.toList.length=n:=by simpa using hsz
   refine .inr (.inr ⟨b,o,cp,_,by simp,hb.put (by simp only [bh,ay,aB,bi,hvl];simp only [bo];omega),by simpa using hcap,hmx,?_,λ r hr=>?_,λ i2 r hi2 j d hj=>?_⟩)
   ·simp only [bh,ay,aB,bi,hvl]
    simp only [bo]
    omega
   ·rcases bU hr with h | h
    ·exact hlen r h
    ·subst h;simp;omega
   ·have hil:i2<rows.length:=by have:=(aa.1 hi2).1;simpa using this
    have hjl:j<s:=by
     have hm:=aq hi2
     have:r.length=s:=by
      rcases bU hm with h | h
      ·exact hlen r h
      ·subst h;simp;omega
     rw [←this];exact (aa.1 hj).1
    have hget:∀ q,((vs.toList.take (o+k*s+off)++v.cells.toList++vs.toList.drop (o+k*s+off+v.cells.toList.length)).toArray)[q]? = if q<o+k*s+off then vs[q]? else if q<o+k*s+off+n then v.cells[q-(o+k*s+off)]? else vs[q]?:=by
     intro q
     simp only [b9]
     have hA:(vs.toList.take (o+k*s+off)).length=o+k*s+off:=by simp;omega
     split
     ·rename_i hq
      rw [aY,an (by rw [hA];exact hq),au,if_pos hq];simp
     ·rename_i hq
      rw [aY,aC (by rw [hA];omega),hA]
      split
      ·rename_i hq2
       rw [an (by rw [hvl];omega)];simp
      ·rename_i hq2
       rw [aC (by rw [hvl];omega),hvl,aA]
       simp only [bD]
       congr 1;omega
    by_cases hik:i2=k
    ·subst hik
     rw [List.getElem?_set_self hil] at hi2
     cases hi2
     rcases aO j off with hj1 | hj1
     ·rw [an (by simp;omega),au,if_pos hj1] at hj
      obtain⟨x,g1,g2⟩:=hcells i2 row hrow j d hj
      exact⟨x,by rw [hget,if_pos (by omega)];exact g1,g2.mono (λ _ h=>h) hS⟩
     ·rw [aC (by simp;omega)] at hj
      have htl:(row.take off).length=off:=by simp;omega
      rw [htl] at hj
      rcases aO (j-off) ps.length with hj2 | hj2
      ·rw [an hj2] at hj
       obtain⟨x,g1,g2⟩:=hv.get hj
       refine⟨x,?_,g2.mono (λ _ h=>h) hS⟩
       rw [hget,if_neg (by omega),if_pos (by omega)]
       rw [←bD,←g1];congr 1;omega
      ·rw [aC hj2,aA] at hj
       obtain⟨x,g1,g2⟩:=hcells i2 row hrow j d (by rw [←hj];congr 1;omega)
       refine⟨x,?_,g2.mono (λ _ h=>h) hS⟩
       rw [hget,if_neg (by omega),if_neg (by omega)];exact g1
    ·rw [aD (aE hik)] at hi2
     obtain⟨x,g1,g2⟩:=hcells i2 r hi2 j d hj
     refine⟨x,?_,g2.mono (λ _ h=>h) hS⟩
     have hsep:o+i2*s+j<o+k*s+off\/o+k*s+off+n<=o+i2*s+j:=by
      rcases Nat.lt_or_gt_of_ne hik with h | h
      ·have:(i2+1)*s<=k*s:=aN _ h
       rw [ar,bC] at this
       left;omega
      ·have:(k+1)*s<=i2*s:=aN _ h
       rw [ar,bC] at this
       right;omega
     rw [hget]
     rcases hsep with h | h
     ·rw [if_pos h];exact g1
     ·rw [if_neg (by omega),if_neg (by omega)];exact g1
  ·intro q hq
   exact Au _ _ _ _ (λ e=>(hI.own i _ _ b hi hρ rfl).1 (e ▸ hq))
theorem Y0 (hI:Inv C S w ρ R) {c:Cl} {o:Oper} {i k size off n:Nat} {ds:List D} {out:Out} (hput:I5 R c o i k size off ds n=some out) (hk:∀ x,out.c=some x->x.ok P) {t:TypeId} {u:Value}
  (hy:Ae (Rd S w ρ) u.cells.toList ds) (e3:Aj P t=some n) {b p len cap:Nat} (hρ:ρ[i]? = some (.slice (some ⟨b,p,none⟩) len cap)) :
  o.dst=none/\∃ w',(storeVar t ⟨b,p+k*size+off,none⟩ u).run P w = .ok () w'/\Bw C S w ρ out.R undef out.v S w' ρ:=by
 unfold I5 at hput
 split at hput
 ·rename_i e s rows q1 q2 row q3 rows' ps hi hps
  cases hb:(Nat.beq s size&&(Nat.beq ds.length n&&(Nat.ble (off+n) size&&o.dst.isNone))) with
  | false=>rw [hb] at hput;simp at hput
  | true=>
   rw [hb] at hput
   simp at hput;subst hput
   simp only [af] at hb
   obtain⟨b0,b1,b2,b3⟩:=hb
   have hss:=ac b0
   subst hss
   obtain⟨k1,k2⟩:=hk _ rfl
   obtain⟨w',hr,hI',hS⟩:=hI.putRow hi hρ (Kf hps hy) e3 (by rw [←Oe hps];exact ac b1) (aT b2) k1
   rw [k2] at hI'
   have hdst:o.dst=none:=by cases hd:o.dst <;> simp [hd] at b3;rfl
   exact⟨hdst,w',hr,hI',λ _ h=>h,hS,Pre.refl _,.tup (vs:=[]) rfl (by simp)⟩
 ·cases hput
theorem Wv (hI:Inv C S w ρ R) {c:Cl} {o:Oper} {i k size off n:Nat} {ds:List D} {out:Out} (h:J8 R c o i k size off ds n=some out) (hk:∀ x,out.c=some x->x.ok P) {t:TypeId} {u:Value}
  (hy:Ae (Rd S w ρ) u.cells.toList ds) (e3:Aj P t=some n) {b p len cap:Nat} (hρ:ρ[i]? = some (.slice (some ⟨b,p,none⟩) len cap)) :
  o.dst=none/\∃ w' S',(storeVar t ⟨b,p+k*size+off,none⟩ u).run P w = .ok () w'/\Bw C S w ρ out.R undef out.v S' w' ρ:=by
 unfold J8 at h
 split at h
 ·rename_i m
  split at h
  ·rename_i e2 s2 rows2 hm
   cases hb:Nat.beq m i with
   | true=>rw [hb] at h;simp at h
   | false=>
    rw [hb] at h
    simp only [cond_false] at h
    obtain⟨v,hcells,hr⟩:∃ v,u.cells.toList=[v]/\Rd S w ρ v (.os m):=by
     generalize u.cells.toList=l at hy
     match l,hy with
     | [v],hv=>exact⟨v,rfl,hv.1⟩
     | [],hv=>exact hv.elim
     | _::_::_,hv=>exact hv.2.elim
    have hρm:=hr.os_inv
    have hf:=hI.freeze hm hρm
    have hfz:=Res.ok0.frozen ((hI.ok m _ _ hm hρm).live hr.one)
    have hy':Ae (Rd (λ b=>S b\/(Res.sl e2 s2 rows2).foot v b) w ρ) u.cells.toList [.p (.s rows2)]:=by
     rw [hcells]
     exact⟨.p hfz,trivial⟩
    obtain⟨hd,w',hr',hA⟩:=Y0 hf h hk hy' e3 hρ
    obtain⟨a1,a2,a3,a4,a5⟩:=hA
    exact⟨hd,w',_,hr',a1,λ b hb=>a2 b (.inl hb),λ b hb=>a3 b (.inl hb),a4,a5⟩
  ·cases h
 ·cases h
theorem Ts (hI : Inv C S w ρ R) (hL : Az S w ρ a L) (hp : pt a cur) {c : Cl} {o : Oper} {out : Out} (h : Dw P L cur R c o = some out)
  (hk:∀ x,out.c=some x->x.ok P) {K:Act->World->Prop}
  (hK:∀ v w' S' ρ',Bw C S w ρ out.R v out.v S' w' ρ'->K (a.put o.dst v) w'):wpv P o a w K:=by
 unfold Dw at h
 split at h
 ·rename_i v k hv
  simp at h;subst h
  obtain⟨x,hx,hr⟩:=Wx hI hL hp hv hk
  exact Bq hx (hK x w S ρ (U4 hI hr))
 ·obtain⟨dst,op,type,pos,after,guard⟩:=o
  simp only at h hK
  cases op with
  | box t x=>
   simp only at h
   split at h
   ·rename_i cells n e1 e2
    cases hb:Nat.beq cells.length n with
    | false=>rw [hb] at h;simp at h
    | true=>
     rw [hb] at h
     simp at h;subst h
     obtain⟨av,h1,h2⟩:=Ah e1
     have hcells:=Ga (Ak hL hp h1) h2
     have hA:=hI.newBox (t:=t) hcells
     refine Bq ?_ (hK _ _ _ _ hA)
     simp [execOp,Instr.box,newVar,newRow]
   ·cases h
  | alloc t=>
   simp only at h
   split at h
   ·rename_i cells e1
    simp at h;subst h
    obtain⟨z,hz,hd⟩:=Ah e1
    have hA:=hI.newBox (t:=t) (Du (S:=S) (w:=w) (ρ:=ρ) hd)
    refine Bq ?_ (hK _ _ _ _ hA)
    simp [execOp,Instr.alloc,newVar,newRow,Cj hz]
   ·cases h
  | store t x y=>
   simp only at h
   cases hc:cur.isEmpty with
   | false=>rw [hc] at h;simp at h
   | true=>
    rw [hc] at h
    simp only [cond_true] at h
    split at h
    ·rename_i i off ds n e1 e2 e3
     split at h
     ·rename_i u cells hi
      cases hb:(Nat.beq ds.length n&&Nat.ble (off+n) cells.length&&dst.isNone) with
      | false=>rw [hb] at h;simp at h
      | true=>
       rw [hb] at h
       simp at h;subst h
       simp only [af] at hb
       obtain⟨⟨b1,b2⟩,b3⟩:=hb
       obtain⟨b,hx,hρ⟩:=(Ak hL hp e1).d_inv.o_inv
       obtain⟨av,h1,h2⟩:=Ah e2
       have hy:=Ga (Ak hL hp h1) h2
       obtain⟨w',hr,hI',hS⟩:=hI.store hi hρ hy e3 (ac b1) (aT b2)
       have hdst:dst=none:=by cases dst <;> simp at b3;rfl
       subst hdst
       unfold wpv
       have:(execOp a.eval ⟨none,.store t x y,type,pos,after,guard⟩).run P w = .ok .skip w':=by
        simp only [execOp,Sem.run_bind,hx,Instr.storeAt,Instr.sureAddr,Sem.run_pure,Result.andThen_ok,hr]
       rw [this]
       exact hK undef w' S ρ ⟨hI',λ _ h=>h,hS,Pre.refl _,.tup (vs:=[]) rfl (by simp)⟩
     ·cases h
    ·rename_i i k size off ds n e1 e2 e3
     obtain⟨b,o,l,cp,hx,hρ⟩:=(Ak hL hp e1).d_inv.oe_inv
     obtain⟨av,h1,h2⟩:=Ah e2
     have hy:=Ga (Ak hL hp h1) h2
     have fin:∀ w' ρ',dst=none->(storeVar t ⟨b,o+k*size+off,none⟩ (a.eval y)).run P w = .ok () w'->Bw C S w ρ out.R undef out.v S w' ρ'->wpv P ⟨dst,.store t x y,type,pos,after,guard⟩ a w K:=by
      intro w' ρ' hdst hr hA
      subst hdst
      unfold wpv
      have:(execOp a.eval ⟨none,.store t x y,type,pos,after,guard⟩).run P w = .ok .skip w':=by
       simp only [execOp,Sem.run_bind,hx,Instr.storeAt,Instr.sureAddr,Sem.run_pure,Result.andThen_ok,hr]
      rw [this]
      exact hK undef w' S ρ' hA
     split at h
     ·rename_i out' hput
      simp at h;subst h
      unfold I5 at hput
      split at hput
      ·rename_i e s rows q1 q2 row q3 rows' ps hi hps q4
       cases hb:(Nat.beq s size&&(Nat.beq ds.length n&&(Nat.ble (off+n) size&&dst.isNone))) with
       | false=>rw [hb] at hput;simp at hput
       | true=>
        rw [hb] at hput
        simp at hput;subst hput
        simp only [af] at hb
        obtain⟨b0,b1,b2,b3⟩:=hb
        have hss:=ac b0
        subst hss
        obtain⟨k1,k2⟩:=hk _ rfl
        obtain⟨w',hr,hI',hS⟩:=hI.putRow hi hρ (Kf hps hy) e3 (by rw [←Oe hps];exact ac b1) (aT b2) k1
        rw [k2] at hI'
        have hdst:dst=none:=by cases dst <;> simp at b3;rfl
        exact fin w' ρ hdst hr ⟨hI',λ _ h=>h,hS,Pre.refl _,.tup (vs:=[]) rfl (by simp)⟩
      ·cases hput
     ·split at h
      ·rename_i out' hput
       simp at h;subst h
       obtain⟨hdst,w',ρ',hr,hA⟩:=Ww hI hput hk hy e3 hρ
       exact fin w' ρ' hdst hr hA
      ·obtain⟨hdst,w',S',hr,hA⟩:=Wv hI h hk hy e3 hρ
       have hdst':dst=none:=hdst
       subst hdst'
       unfold wpv
       have:(execOp a.eval ⟨none,.store t x y,type,pos,after,guard⟩).run P w = .ok .skip w':=by
        simp only [execOp,Sem.run_bind,hx,Instr.storeAt,Instr.sureAddr,Sem.run_pure,Result.andThen_ok,hr]
       rw [this]
       exact hK undef w' S' ρ hA
    ·cases h
  | buildSlice t len parts=>
   simp only at h
   split at h
   ·rename_i ps e1
    obtain⟨_,v,w',S',ρ',hr,hA⟩:=Nf hI (Et hL hp e1) h
    refine Bq ?_ (hK _ _ _ _ hA)
    have e:(parts.map λ (x:Nat×Operand)=>(x.1,a.eval x.2))=(parts.toList.map λ x=>(x.1,a.eval x.2)).toArray:=by apply Array.ext';simp
    simp only [execOp,Sem.run_bind]
    have e':(parts.map fun | (i,x)=>(i,a.eval x))=(parts.toList.map λ x=>(x.1,a.eval x.2)).toArray:=e
    rw [e',hr]
    rfl
   ·cases h
  | convert s d x=>
   simp only at h
   unfold H5 at h
   split at h
   ·rename_i o1 h0
    cases h
    obtain⟨hR,v,v',w',S',hx,hr,hA⟩:=W7 (ρ:=ρ) hI h0 hk
    have:=Ag hL hp hx
    refine Bq ?_ (hK v' w' S' ρ (by rw [hR];exact hA))
    simp only [execOp,this,Sem.run_bind,hr]
    rfl
   ·split at h
    ·rename_i o1 h0
     cases h
     obtain⟨v,v',w',ρ',hx,hr,hA⟩:=Uo (ρ:=ρ) hI h0 hk
     have:=Ag hL hp hx
     refine Bq ?_ (hK v' w' S ρ' hA)
     simp only [execOp,this,Sem.run_bind,hr]
     rfl
    ·obtain⟨v',w',hr,hA⟩:=Uq (ρ:=ρ) (v:=a.eval x) hI h λ y hy=>Ak hL hp hy
     refine Bq ?_ (hK v' w' S ρ hA)
     simp only [execOp,Sem.run_bind,hr]
     rfl
  | makeSlice t l k=>
   simp only at h
   cases hc:E5 l k with
   | false=>rw [hc] at h;simp at h
   | true=>
    rw [hc] at h
    simp only [cond_true] at h
    have hlk:l=k:=by
     have:=hc
     unfold E5 at this
     split at this
     ·rw [ac this]
     ·rw [eq_of_beq this]
     ·cases this
    subst hlk
    obtain⟨v,w',ρ',x,hx,hr,hA⟩:=Wz hI h hk
    have:=Ag hL hp hx
    refine Bq ?_ (hK _ _ _ _ hA)
    simp only [execOp,this,Sem.run_bind,hr]
    rfl
  | call kk=>
   obtain⟨callee,cargs,argTypes⟩:=kk
   have hl:(cargs.map a.eval).toList=cargs.toList.map a.eval:=by simp
   cases callee with
   | invoke r m=>simp at h
   | builtin b=>
    cases b with
    | append=>
     simp only at h
     split at h
     ·rename_i i g q size off y e1
      have hargs:=B3 hL hp e1
      rw [←hl] at hargs
      obtain⟨v,w',ρ',hr,hA⟩:=Rm (ty:=type) hI hargs h hk
      refine Bq ?_ (hK _ _ _ _ hA)
      simp only [execOp,resolve,Sem.run_bind,Sem.run_pure,Result.andThen_ok,invoke,builtin,hr]
     ·rename_i i n s y e1
      have hargs:=B3 hL hp e1
      rw [←hl] at hargs
      obtain⟨v,w',hr,hA⟩:=Rl (ty:=type) hI hargs h hk
      refine Bq ?_ (hK _ _ _ _ hA)
      simp only [execOp,resolve,Sem.run_bind,Sem.run_pure,Result.andThen_ok,invoke,builtin,hr]
     ·rename_i args _ _ e1
      have hargs:=B3 hL hp e1
      rw [←hl] at hargs
      obtain⟨v,w',ρ',hr,hA⟩:=Lo (ty:=type) hI hargs h hk
      refine Bq ?_ (hK _ _ _ _ hA)
      simp only [execOp,resolve,Sem.run_bind,Sem.run_pure,Result.andThen_ok,invoke,builtin,hr]
     ·cases h
    | clear=>
     simp only at h
     split at h
     ·rename_i args e1
      have hargs:=B3 hL hp e1
      rw [←hl] at hargs
      obtain⟨v,w',hr,hA⟩:=Ur (ty:=type) hI hargs h hk
      refine Bq ?_ (hK _ _ _ _ hA)
      simp only [execOp,resolve,Sem.run_bind,Sem.run_pure,Result.andThen_ok,invoke,builtin,hr]
     ·cases h
    | copy=>
     simp only at h
     split at h
     ·rename_i args e1
      have hargs:=B3 hL hp e1
      rw [←hl] at hargs
      obtain⟨v,w',hr,hA⟩:=W6 (ty:=type) hI hargs h hk
      refine Bq ?_ (hK _ _ _ _ hA)
      simp only [execOp,resolve,Sem.run_bind,Sem.run_pure,Result.andThen_ok,invoke,builtin,hr]
     ·cases h
    | _=>simp at h
   | value f=>
    simp only at h
    split at h
    ·rename_i g first caps args e1 e2
     obtain⟨xs,cs,hf,hxs,hcs⟩:=(Ak hL hp e1).d_inv.fn_inv
     have hargs:=B3 hL hp e2
     have hall:Ae (RdA S w ρ) (xs++cargs.toList.map a.eval++cs) (first.map AV.d++args++caps.map AV.d):=
      ((hxs.map_right λ _ _ h=>.d h).append hargs).append (hcs.map_right λ _ _ h=>.d h)
     obtain⟨hent,hcall⟩:=W8 hI hall h hk
     unfold wpv
     have:(execOp a.eval ⟨dst,.call ⟨.value f,cargs,argTypes⟩,type,pos,after,guard⟩).run P w = .ok (.enter g (xs++cargs.toList.map a.eval++cs).toArray) w:=by
      simp only [execOp,resolve,hf,Deferred.ofValue,Sem.run_bind,Sem.run_pure,Result.andThen_ok,invoke]
      rw [hent]
      congr 2
      apply Array.ext'
      simp
     rw [this]
     refine Calls.mono hcall λ e w' hpost=>?_
     obtain⟨v,S',ρ',rfl,hA⟩:=hpost
     exact⟨v,rfl,hK v w' S' ρ' hA⟩
    ·cases h
  | _=>simp at h
def Ca (R R':List Res):Prop:=∃ R1 l,R'=R1++l/\R1.length=R.length/\∀ (i:Nat) r,R1[i]? = some r->r = .non\/R[i]? = some r
theorem Ca.refl (R:List Res):Ca R R:=⟨R,[],by simp,rfl,λ _ _ h=>.inr h⟩
theorem Ca.app (R l:List Res):Ca R (R++l):=⟨R,l,rfl,rfl,λ _ _ h=>.inr h⟩
theorem Ik:undef.oneCell'=false:=rfl
theorem Inv.skip {R':List Res} (h:Inv C S w ρ R) (hg:Ca R R'):∃ ρ',Inv C S w ρ' R'/\Pre ρ ρ':=by
 obtain⟨R1,l,rfl,hl,hr⟩:=hg
 have key:∀ (i:Nat) r v,(R1++l)[i]? = some r->(ρ++List.replicate l.length undef)[i]? = some v->v.oneCell'=false\/r = .non\/(R[i]? = some r/\ρ[i]? = some v):=by
  intro i r v h1 h2
  rcases aO i R1.length with hi | hi
  ·rw [an hi] at h1
   rw [an (by rw [h.len,←hl];exact hi)] at h2
   rcases hr i r h1 with h1 | h1
   ·exact .inr (.inl h1)
   ·exact .inr (.inr ⟨h1,h2⟩)
  ·rw [aC (by rw [h.len,←hl];exact hi)] at h2
   have:=aq h2
   rw [bE this]
   exact .inl Ik
 refine⟨ρ++List.replicate l.length undef,⟨by simp [h.len,hl],λ i r v h1 h2=>?_,λ i j r r' v v' b hij h1 h2 h3 h4 h5 h6=>?_,λ i r v b h1 h2 h3=>?_,h.sub,h.sup,h.frm,h.size,h.os,h.tape,h.output,h.pre.trans (Pre.append _ _),h.gl⟩,Pre.append _ _⟩
 ·rcases key i r v h1 h2 with hd | rfl | ⟨g1,g2⟩
  ·exact .inl hd
  ·exact .inr trivial
  ·exact (h.ok i r v g1 g2).mono (λ _ h=>h) (λ _ _=>rfl) (Pre.append _ _) (λ _ _=>rfl)
 ·rcases key i r v h1 h3 with hd | rfl | ⟨g1,g2⟩
  ·exact absurd h5 (c8 hd _)
  ·simp [Res.foot] at h5
  ·rcases key j r' v' h2 h4 with hd | rfl | ⟨m1,m2⟩
   ·exact absurd h6 (c8 hd _)
   ·simp [Res.foot] at h6
   ·exact h.dis i j r r' v v' b hij g1 m1 g2 m2 h5 h6
 ·rcases key i r v h1 h2 with hd | rfl | ⟨g1,g2⟩
  ·exact absurd h3 (c8 hd _)
  ·simp [Res.foot] at h3
  ·exact h.own i r v b g1 g2 h3
theorem Inv.dummies (h:Inv C S w ρ R) (l:List Res):∃ ρ',Inv C S w ρ' (R++l)/\Pre ρ ρ'/\∀ i,R.length<=i->i<R.length+l.length->∃ x,ρ'[i]? = some x/\x.oneCell'=false:=by
 have key:∀ (i:Nat) r v,(R++l)[i]? = some r->(ρ++List.replicate l.length undef)[i]? = some v->v.oneCell'=false\/(R[i]? = some r/\ρ[i]? = some v):=by
  intro i r v h1 h2
  rcases aO i R.length with hi | hi
  ·rw [an hi] at h1
   rw [an (by rw [h.len];exact hi)] at h2
   exact .inr ⟨h1,h2⟩
  ·rw [aC (by rw [h.len];exact hi)] at h2
   have:=aq h2
   rw [bE this]
   exact .inl Ik
 refine⟨ρ++List.replicate l.length undef,⟨by simp [h.len],λ i r v h1 h2=>?_,λ i j r r' v v' b hij h1 h2 h3 h4 h5 h6=>?_,λ i r v b h1 h2 h3=>?_,h.sub,h.sup,h.frm,h.size,h.os,h.tape,h.output,h.pre.trans (Pre.append _ _),h.gl⟩,Pre.append _ _,λ i h1 h2=>⟨undef,?_,Ik⟩⟩
 ·rcases key i r v h1 h2 with hd | ⟨g1,g2⟩
  ·exact .inl hd
  ·exact (h.ok i r v g1 g2).mono (λ _ h=>h) (λ _ _=>rfl) (Pre.append _ _) (λ _ _=>rfl)
 ·rcases key i r v h1 h3 with hd | ⟨g1,g2⟩
  ·exact absurd h5 (c8 hd _)
  ·rcases key j r' v' h2 h4 with hd | ⟨m1,m2⟩
   ·exact absurd h6 (c8 hd _)
   ·exact h.dis i j r r' v v' b hij g1 m1 g2 m2 h5 h6
 ·rcases key i r v h1 h2 with hd | ⟨g1,g2⟩
  ·exact absurd h3 (c8 hd _)
  ·exact h.own i r v b g1 g2 h3
 ·rw [aC (by rw [h.len];exact h1),List.getElem?_replicate,if_pos (by rw [h.len];omega)]
mutual
theorem D.ren_back {f g:Nat->Option Nat} (hfg:∀ i j k,f i=some j->g j=some k->k=i):∀ (d d' d'':D),D.ren f d=some d'->D.ren g d'=some d''->d''=d
 | .p x,d',d'',h,k=>by simp [D.ren] at h;subst h;simp [D.ren] at k;exact k.symm
 | .o i off,d',d'',h,k=>by
  simp only [D.ren] at h
  split at h
  ·rename_i j hj
   simp at h;subst h
   simp only [D.ren] at k
   split at k
   ·rename_i m hm
    simp at k;subst k
    rw [hfg _ _ _ hj hm]
   ·cases k
  ·cases h
 | .os i,d',d'',h,k=>by
  simp only [D.ren] at h
  split at h
  ·rename_i j hj
   simp at h;subst h
   simp only [D.ren] at k
   split at k
   ·rename_i m hm
    simp at k;subst k
    rw [hfg _ _ _ hj hm]
   ·cases k
  ·cases h
 | .oe i a b c,d',d'',h,k=>by
  simp only [D.ren] at h
  split at h
  ·rename_i j hj
   simp at h;subst h
   simp only [D.ren] at k
   split at k
   ·rename_i m hm
    simp at k;subst k
    rw [hfg _ _ _ hj hm]
   ·cases k
  ·cases h
 | .osb i a b c,d',d'',h,k=>by
  simp only [D.ren] at h
  split at h
  ·rename_i j hj
   simp at h;subst h
   simp only [D.ren] at k
   split at k
   ·rename_i m hm
    simp at k;subst k
    rw [hfg _ _ _ hj hm]
   ·cases k
  ·cases h
 | .oi i q a b c,d',d'',h,k=>by
  simp only [D.ren] at h
  split at h
  ·rename_i j j2 hj hj2
   simp at h;subst h
   simp only [D.ren] at k
   split at k
   ·rename_i m m2 hm hm2
    simp at k;subst k
    rw [hfg _ _ _ hj hm,hfg _ _ _ hj2 hm2]
   ·cases k
  ·cases h
 | .any,d',d'',h,k=>by simp [D.ren] at h;subst h;simp [D.ren] at k;exact k.symm
 | .nq _,d',d'',h,k=>by simp [D.ren] at h;subst h;simp [D.ren] at k;exact k.symm
 | .ip c,d',d'',h,k=>by simp [D.ren] at h;subst h;simp [D.ren] at k;exact k.symm
 | .fn q a b,d',d'',h,k=>by
  simp only [D.ren] at h
  split at h
  ·rename_i a' b' h1 h2
   simp at h;subst h
   simp only [D.ren] at k
   split at k
   ·rename_i a2 b2 k1 k2
    simp at k;subst k
    rw [cg hfg a a' a2 h1 k1,cg hfg b b' b2 h2 k2]
   ·cases k
  ·cases h
theorem cg {f g:Nat->Option Nat} (hfg:∀ i j k,f i=some j->g j=some k->k=i):∀ (d d' d'':List D),D.renL f d=some d'->D.renL g d'=some d''->d''=d
 | [],d',d'',h,k=>by simp [D.renL] at h;subst h;simp [D.renL] at k;exact k
 | x::r,d',d'',h,k=>by
  simp only [D.renL] at h
  split at h
  ·rename_i x' r' h1 h2
   simp at h;subst h
   simp only [D.renL] at k
   split at k
   ·rename_i x2 r2 k1 k2
    simp at k;subst k
    rw [D.ren_back hfg x x' x2 h1 k1,cg hfg r r' r2 h2 k2]
   ·cases k
  ·cases h
end
theorem Res.ren_back {f g:Nat->Option Nat} (hfg:∀ i j k,f i=some j->g j=some k->k=i) {r r' r'':Res} (h:r.ren f=some r') (k:r'.ren g=some r''):r''=r:=by
 cases r with
 | box t cells=>
  simp only [Res.ren] at h
  split at h
  ·rename_i cs hc
   simp at h;subst h
   simp only [Res.ren] at k
   split at k
   ·rename_i cs2 hc2
    simp at k;subst k
    rw [cg hfg _ _ _ hc hc2]
   ·cases k
  ·cases h
 | sl e s rows=>simp [Res.ren] at h;subst h;simp [Res.ren] at k;exact k.symm
 | zsl e s rows=>simp [Res.ren] at h;subst h;simp [Res.ren] at k;exact k.symm
 | dsl e s g=>
  simp only [Res.ren] at h
  split at h
  ·rename_i j hj
   simp at h;subst h
   simp only [Res.ren] at k
   split at k
   ·rename_i m hm
    simp at k;subst k
    rw [hfg _ _ _ hj hm]
   ·cases k
  ·cases h
 | gh s tys rows hole=>simp [Res.ren] at h;subst h;simp [Res.ren] at k;exact k.symm
 | non=>simp [Res.ren] at h;subst h;simp [Res.ren] at k;exact k.symm
theorem Lf:∀ {pi:List Nat} {R l:List Res},(∀ (j i:Nat) r,pi[j]? = some i->l[j]? = some r->R[i]? = some r)->B5 R pi l=R
 | [],R,l,_=>by cases l <;> rfl
 | i::pi,R,[],_=>rfl
 | i::pi,R,r::l,h=>by
  have h0:R[i]? = some r:=h 0 i r rfl rfl
  have e:R.set i r=R:=by
   apply bp
   intro j
   rw [ax]
   split
   ·rename_i hj
    subst hj
    rw [if_pos (aa.1 h0).1,h0]
   ·rfl
  simp only [B5]
  rw [e]
  exact Lf λ j k r hj hr=>h (j+1) k r (by simpa using hj) (by simpa using hr)
theorem S6 {args : List AV} {f : FuncId} {c : Cl} {out : Out} (h : Cu R args f c = some out) (hk : Yk c = true \/ (∀ x, out.c = some x -> x.keeps)) : Ca R out.R := by
 unfold Cu at h
 split at h
 ·rename_i f' q1 res q2 q3 rw
  cases hb:(Nat.beq f f'&&res.flat) with
  | false=>rw [hb] at h;simp at h
  | true=>
   rw [hb] at h
   simp only [cond_true] at h
   split at h
   ·split at h
    ·simp at h;subst h;exact Ca.refl _
    ·cases h
   ·split at h
    ·simp at h;subst h;exact Ca.refl _
    ·cases h
   ·cases h
 ·rename_i f' q1 q2 res R2 pi
  cases hb:(Nat.beq f f'&&Cf pi&&Nat.ble pi.length R2.length) with
  | false=>rw [hb] at h;simp at h
  | true=>
   rw [hb] at h
   simp only [cond_true] at h
   simp only [af] at hb
   obtain⟨⟨hb1,hb2⟩,hb3⟩:=hb
   split at h
   ·rename_i args' Rp e1 e2
    split at h
    ·rename_i Rp' res' R2' e3 e4 e5
     simp at h;subst h
     have same:B5 R pi R2'=R:=by
      rcases hk with hk | hk
      ·simp only [Yk,bK] at hk
       subst hk
       cases R2' <;> rfl
      ·have hkeep:R2.take pi.length=Rp':=hk _ rfl
       obtain⟨p1,p2⟩:=G_ e2
       obtain⟨q1',q2'⟩:=Ee e3
       obtain⟨m1,m2⟩:=Ee e5
       refine Lf λ j i r hj hr=>?_
       obtain⟨r0,g1,g2⟩:=m2 j r hr
       obtain⟨r1,g3,g4⟩:=p2 j i hj
       have hjl:j<pi.length:=(aa.1 hj).1
       have g5:Rp'[j]? = some r0:=by
        rw [←hkeep,au,if_pos hjl];exact g1
       obtain⟨r2,g6,g7⟩:=q2' j r0 g5
       rw [g3] at g6;cases g6
       have:=Res.ren_back (λ a b k hab hbk=>by
        have:=J4 hab
        unfold Cd at hbk
        rw [this] at hbk
        simpa using hbk.symm) g7 g2
       rw [this];exact g4
     rw [same]
     exact Ca.app _ _
    ·cases h
   ·cases h
 ·cases h
theorem O8 {c:Cl} {s d:TypeId} {x:Option AV} {out:Out} (h:H5 P R c s d x=some out):out.R=R\/∃ r,out.R=R++[r]:=by
 unfold H5 at h
 split at h
 ·rename_i o1 h0
  cases h
  unfold Kb at h0
  split at h0
  ·split at h0
   ·simp at h0;subst h0;exact .inl rfl
   ·cases h0
  ·cases h0
 ·split at h
  ·rename_i o1 h0
   cases h
   unfold Ge at h0
   split at h0
   ·split at h0
    ·simp at h0;subst h0;exact .inr ⟨_,rfl⟩
    ·cases h0
   ·cases h0
  ·unfold Gf at h
   split at h
   ·split at h
    ·rename_i e' z row rows hi he
     cases hb:Nat.beq s d with
     | false=>rw [hb] at h;cases h
     | true=>rw [hb] at h;simp at h;subst h;exact .inl rfl
    ·cases h
   ·cases h
theorem O7 {r : Bool} {c : Cl} {o : Oper} {out : Out} (h : Dw P L cur R c o = some out) (hs : Gl r c o = true) (hk : r = true -> ∀ x, out.c = some x -> x.keeps) : Ca R out.R := by
  unfold Dw at h
  split at h
  · simp at h;subst h;exact Ca.refl _
  · obtain ⟨dst, op, type, pos, after, guard⟩ := o
    simp only at h
    cases op with
    | box t x=>
      simp only at h
      split at h
      · generalize (Nat.beq _ _)=bb at h
        cases bb with
        | false=>simp at h
        | true=>simp at h;subst h;exact Ca.app _ _
      · cases h
    | alloc t=>
      simp only at h
      split at h
      · simp at h;subst h;exact Ca.app _ _
      · cases h
    | store t x y=>simp [Gl] at hs
    | buildSlice t len parts=>
      simp only at h
      split at h
      · unfold C3 at h
        split at h
        · split at h
          · generalize (Nat.beq _ _&&Nat.ble _ _)=bb at h
            cases bb with
            | false=>simp at h
            | true=>
              simp only [cond_true] at h
              split at h
              · cases ho:Ky c with
                | true=>rw [ho] at h;simp at h;subst h;exact Ca.app _ _
                | false=>rw [ho] at h;simp at h;subst h;exact Ca.refl _
              · cases h
          · cases h
        · cases h
      · cases h
    | convert s d x=>
      simp only at h
      rcases O8 h with e | ⟨r,e⟩
      · rw [e];exact Ca.refl _
      · rw [e];exact Ca.app _ _
    | makeSlice t x y=>
      simp only at h
      generalize (E5 x y)=bb at h
      cases bb with
      | false=>simp at h
      | true=>
        simp only [cond_true] at h
        unfold Fo at h
        split at h
        · split at h
          · split at h
            · generalize (Nat.beq _ _)=bb at h
              cases bb with
              | false=>simp at h
              | true=>simp at h;subst h;exact Ca.app _ _
            · cases h
          · cases h
        · split at h
          · split at h
            · generalize (Nat.beq _ _&&_)=bb at h
              cases bb with
              | false=>simp at h
              | true=>simp at h;subst h;exact Ca.app _ _
            · cases h
          · cases h
        · cases h
    | call kk=>
      obtain⟨callee,cargs,argTypes⟩:=kk
      cases callee with
      | invoke r m=>simp at h
      | builtin b=>
        cases b <;> first
          | (simp at h;done)
          | (simp [Gl] at hs;done)
          | (simp only at h
             split at h
             · rename_i i g q size off y e1
               exfalso
               unfold Ei at h
               split at h
               · simp [Gl,isW] at hs
               · cases h
             · rename_i i n s y e1
               exfalso
               unfold Eh at h
               split at h
               · generalize (Nat.beq _ _)=bb at h
                 cases bb with
                 | false=>simp at h
                 | true=>
                   simp only [cond_true] at h
                   split at h
                   · split at h
                     · split at h
                       · simp [Gl,isW] at hs
                       · cases h
                     · cases h
                   · cases h
               · cases h
             · rename_i args _ _ e1
               unfold Bj at h
               split at h
               · generalize (Nat.beq _ _) = bb at h
                 cases bb with
                 | false=>simp at h
                 | true=>
                   simp only [cond_true] at h
                   split at h
                   · split at h
                     · split at h
                       · generalize (Nat.beq _ _)=bb at h
                         cases bb with
                         | false=>simp at h
                         | true=>
                           simp only [cond_true] at h
                           split at h
                           · simp at h;subst h;exact Ca.app _ _
                           · rename_i j
                             split at h
                             · generalize (Nat.beq _ _&&Nat.beq _ _)=bb at h
                               cases bb with
                               | false=>simp at h
                               | true=>
                                 simp at h;subst h
                                 refine⟨R.set _ .non,_,rfl,by simp,λ i r hi=>?_⟩
                                 rw [ax] at hi
                                 split at hi
                                 · split at hi
                                   · cases hi;exact .inl rfl
                                   · cases hi
                                 · exact .inr hi
                             · cases h
                           · cases h
                       · cases h
                     · cases h
                   · cases h
               · cases h
             · cases h)
      | value f=>
        simp only at h
        split at h
        · refine S6 h ?_
          simp only [Gl,aR] at hs
          rcases hs with hs | hs
          · exact .inr (hk hs)
          · exact .inl hs
        · cases h
    | _=>simp at h
end
end Go.SL
