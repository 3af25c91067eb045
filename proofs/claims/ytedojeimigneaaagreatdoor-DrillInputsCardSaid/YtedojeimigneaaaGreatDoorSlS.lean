import Derived.Test.YtedojeimigneaaaGreatDoorSlLD
import Derived.OrdersIn
import Derived.ControlIn
import Derived.LoopNIn
namespace Go.SL
variable{K:Act->World->Prop}{c:Cl}{ds:List D}{b cap i k len n off p s size:Nat}{o:Oper}{out:Out}{t:TypeId}{u v:Value}
section
variable{P:Program}{C:Ctx}{S S':Nat->Prop}{w w':World}{ρ ρ':eA}{R:List Res}{L:List Ent}{cur:A_}{a:Act}
def FR(ro:Option Nat):Fence:={Fence.wide with round:=ro}
def Y4(o:Oper):Prop:=∀c,o.op ≠ .defer c
def A7s(P:Program)(o:Oper)(a:Act)(K:Act->World->Prop):Result Next->Prop
 |.ok (.value v) w'=>K (a.put o.dst v) w'
 |.ok .skip w'=>K (a.put o.dst undef) w'
 |.ok (.enter f args) w'=>Calls P f args w' λe w''=>∃v,e=.returned v/\K (a.put o.dst v) w''
 |_=>False
def wpv(P:Program)(o:Oper)(a:Act)(w:World)(K:Act->World->Prop):Prop:=A7s P o a K ((execOp a.eval o).run P w)
theorem A30{ro:Option Nat}{Q:Exit->Act->World->Prop}(hd:Y4 o)(h:wpv P o a w K):o.wpIn (FR ro) 0 P a w K Q:=by
 refine⟨λ_ _=>trivial,?_⟩;rw[Oper.semAt_eq (FR ro).round a.eval o hd];unfold wpv at h;generalize (execOp a.eval o).run P w=r at h
 match r,h with
 |.ok (.value v) w',h=>exact h
 |.ok .skip w',h=>exact h
 |.ok (.enter f args) w',h=>refine⟨(λh=>by cases h),?_⟩;have h2:CallsIn Fence.wide 0 P f args w' λe w''=>∃v,e=.returned v/\K (a.put o.dst v) w'':=callsIn_wide.2 h;refine CallsIn.mono (F:=FR ro) h2 λe w'' hp=>?_;obtain⟨v,rfl,hk⟩:=hp;exact hk
theorem De(h:(execOp a.eval o).run P w=.ok (.value v) w')(hK:K (a.put o.dst v) w'):wpv P o a w K:=by unfold wpv;rw[h];exact hK
theorem Zk(h:H1 P L cur R c o=some out):Y4 o:=by intro k hk;obtain⟨dst,op,type,pos,after,guard⟩:=o;simp only at hk;subst hk;simp[H1,Cg]at h
theorem Alh(hI:Inv C S w ρ R){av:AV}(h:RdA S w ρ v av):Du C S w ρ R v av S w ρ:=⟨hI,λ_ h=>h,λ_ _=>rfl,Pre.refl _,h⟩
theorem uX:∀{ds:List D}{ps:List Pd},dPs ds=some ps->ds.length=ps.length
 | [],ps,h=>by simp[dPs]at h;subst h;rfl
 | d::r,ps,h=>by
  simp only[dPs]at h;split at h
  .rename_i x l h1 h2;simp at h;subst h;simp[uX h2]
  .cases h
theorem Inv.putRow(hI:Inv C S w ρ R){o l cp:Nat}{e:TypeId}{rows:List (List Pd)}{row ps:List Pd}(hi:R[i]?=some (.sl e s rows))(hρ:ρ[i]?=some (.slice (some ⟨b,o,none⟩) l cp))
  (hv:Ay (RdP S w) v.cells.toList ps)(hn:A8 P t=some n)(hl:ps.length=n)(ho:off+n<=s)(hrow:rows[k]?=some row) :
  ∃w',(storeVar t ⟨b,o+k*s+off,none⟩ v).run P w=.ok () w'/\Inv C S w' ρ (R.set i (.sl e s (rows.set k (row.take off++(ps++row.drop (off+n))))))/\(∀k,S k->w'.heap[k]?=w.heap[k]?):=by
 have hklt:k<rows.length:=(ac.1 hrow).1;rcases(hI.ok i _ _ hi hρ).live rfl with⟨h3,h4⟩|⟨b',o',cp',vs,h3,hb,hcap,hmx,hfit,hlen,hcells⟩
 .cases h3
 .cases h3;have hrl:row.length=s:=hlen row (ag hrow);have hsz:v.cells.size=n:=by have:=hv.length;simpa[hl]using this
  have hk1:(k+1)*s<=cp*s:=aX _ (by omega);rw[az,cg]at hk1;have hbound:o+k*s+off+n<=vs.size:=by omega
  have hone:∀x,x∈v.cells.toList->x.oneCell'=true:=Yh hv;refine⟨_,Kg hn hsz hb hbound hone,?_,?_⟩
  .have ob:=hI.own i _ _ b hi hρ rfl;refine hI.put hi hρ (b:=b) rfl (λk hk=>by simp[Res.foot]at hk;exact hk.symm) (λk hk=>Bg _ _ _ _ hk) (by simp) rfl ⟨rfl,λ_=>by first|exact ai _|exact aC _⟩ rfl ?_;have hS:∀q,S q->(w.setRow b (vs.toList.take (o+k*s+off)++v.cells.toList++vs.toList.drop (o+k*s+off+v.cells.toList.length)).toArray).heap[q]?=w.heap[q]?:=λq hq=>Bg _ _ _ _ (λe=>ob.1 (e ▸ hq));have hvl:v.cells.toList.length=n:=by simpa using hsz
   refine .inr (.inr ⟨b,o,cp,_,by simp,hb.put (by simp only[bB,aP,aN,bJ,hvl];simp only[cj];omega),by simpa using hcap,hmx,?_,λr hr=>?_,λi2 r hi2 j d hj=>?_⟩)
   .simp only[bB,aP,aN,bJ,hvl];simp only[cj];omega
   .rcases bW hr with h|h
    .exact hlen r h
    .subst h;simp;omega
   .have hil:i2<rows.length:=by have:=(ac.1 hi2).1;simpa using this
    have hjl:j<s:=by
     have hm:=ag hi2;have:r.length=s:=by
      rcases bW hm with h|h
      .exact hlen r h
      .subst h;simp;omega
     rw[←this];exact(ac.1 hj).1
    have hget:∀q,((vs.toList.take (o+k*s+off)++v.cells.toList++vs.toList.drop (o+k*s+off+v.cells.toList.length)).toArray)[q]?=if q<o+k*s+off then vs[q]? else if q<o+k*s+off+n then v.cells[q-(o+k*s+off)]? else vs[q]?:=by
     intro q;simp only[cJ];have hA:(vs.toList.take (o+k*s+off)).length=o+k*s+off:=by simp;omega
     split
     .rename_i hq;rw[bF,ax (by rw[hA];exact hq),ap,ei hq];simp
     .rename_i hq;rw[bF,aK (by rw[hA];omega),hA];split
      .rename_i hq2;rw[ax (by rw[hvl];omega)];simp
      .rename_i hq2;rw[aK (by rw[hvl];omega),hvl,ar];simp only[cH];congr 1;omega
    by_cases hik:i2=k
    .subst hik;rw[ch hil]at hi2;cases hi2;rcases aR j off with hj1|hj1
     .rw[ax (by simp;omega),ap,ei hj1]at hj;obtain⟨x,g1,g2⟩:=hcells i2 row hrow j d hj;exact⟨x,by rw[hget,ei (by omega)];exact g1,g2.mono (λ_ h=>h) hS⟩
     .rw[aK (by simp;omega)]at hj;have htl:(row.take off).length=off:=by simp;omega
      rw[htl]at hj;rcases aR (j-off) ps.length with hj2|hj2
      .rw[ax hj2]at hj;obtain⟨x,g1,g2⟩:=hv.get hj;refine⟨x,?_,g2.mono (λ_ h=>h) hS⟩;rw[hget,em (by omega),ei (by omega)];rw[←cH,←g1];congr 1;omega
      .rw[aK hj2,ar]at hj;obtain⟨x,g1,g2⟩:=hcells i2 row hrow j d (by rw[←hj];congr 1;omega);refine⟨x,?_,g2.mono (λ_ h=>h) hS⟩;rw[hget,em (by omega),em (by omega)];exact g1
    .rw[bz (ba hik)]at hi2;obtain⟨x,g1,g2⟩:=hcells i2 r hi2 j d hj;refine⟨x,?_,g2.mono (λ_ h=>h) hS⟩;have hsep:o+i2*s+j<o+k*s+off\/o+k*s+off+n<=o+i2*s+j:=by
      rcases Nat.lt_or_gt_of_ne hik with h|h
      .have:(i2+1)*s<=k*s:=aX _ h;rw[az,cg]at this;left;omega
      .have:(k+1)*s<=i2*s:=aX _ h;rw[az,cg]at this;right;omega
     rw[hget];rcases hsep with h|h
     .rw[ei h];exact g1
     .rw[em (by omega),em (by omega)];exact g1
  .intro q hq;exact Bg _ _ _ _ (λe=>(hI.own i _ _ b hi hρ rfl).1 (e ▸ hq))
theorem Atw(hI:Inv C S w ρ R)(hput:Pv R c o i k size off ds n=some out)(hk:∀x,out.c=some x->x.ok P) 
  (hy:Ay (Rd S w ρ) u.cells.toList ds)(e3:A8 P t=some n)(hρ:ρ[i]?=some (.slice (some ⟨b,p,none⟩) len cap)) :
  o.dst=none/\∃w',(storeVar t ⟨b,p+k*size+off,none⟩ u).run P w=.ok () w'/\Du C S w ρ out.R undef out.v S w' ρ:=by
 unfold Pv at hput;split at hput
 .rename_i e s rows q1 q2 row q3 rows' ps hi hps;cases hb:(Nat.beq s size&&(Nat.beq ds.length n&&(Nat.ble (off+n) size&&o.dst.isNone))) with
  |false=>rw[hb]at hput;simp at hput
  |true=>
   rw[hb]at hput;simp at hput;subst hput;simp only[aa]at hb;obtain⟨b0,b1,b2,b3⟩:=hb;have hss:=af b0;subst hss;obtain⟨k1,k2⟩:=hk _ rfl;obtain⟨w',hr,hI',hS⟩:=hI.putRow hi hρ (O8 hps hy) e3 (by rw[←uX hps];exact af b1) (aF b2) k1;rw[k2]at hI';have hdst:o.dst=none:=by cases hd:o.dst <;> simp[hd]at b3;rfl
   exact⟨hdst,w',hr,hI',λ_ h=>h,hS,Pre.refl _,.tup (vs:=[]) rfl (by simp)⟩
 .cases hput
theorem Yb{α:Type}{l xs:List α}{m:Nat}(h:off+xs.length<=m)(hl:p+m<=l.length) :
  ((l.take (p+off)++xs++l.drop (p+off+xs.length)).drop p).take m=((l.drop p).take m).take off++(xs++((l.drop p).take m).drop (off+xs.length)):=by
 apply bj;intro i;simp only[ap,ar,cY,aN,aP,bJ];grind
theorem Inv.putVec(hI:Inv C S w ρ R){t e:Nat}{cells:List D}(hi:R[i]?=some (.vec e s cells))(hρ:ρ[i]?=some (.slice (some ⟨b,p,none⟩) len cap))
  (hv:Ay (Rd S w ρ) v.cells.toList ds)(hn:A8 P t=some n)(hl:ds.length=n)(ho:off+n<=cells.length) :
  ∃w',(storeVar t ⟨b,p+off,none⟩ v).run P w=.ok () w'/\Inv C S w' ρ (R.set i (.vec e s (Ik cells off ds)))/\(∀k,S k->w'.heap[k]?=w.heap[k]?):=by
 obtain⟨b',o,len',cap',vs,h3,hb,⟨h4,h5,h6,h7,h8⟩,hc⟩:=(hI.ok i _ _ hi hρ).live rfl;cases h3;have hvl:=hv.length;have hsz:v.cells.size=n:=by simpa[hl]using hvl
 have hls:len*s<=cap*s:=aX _ h6;refine⟨_,Kg hn hsz hb (by omega) (uH hv),?_,?_⟩
 .have hS:∀k,k≠b->(w.setRow b (vs.toList.take (p+off)++v.cells.toList++vs.toList.drop (p+off+v.cells.toList.length)).toArray).heap[k]?=w.heap[k]?:=λk hk=>Bg _ _ _ _ hk;have ob:=hI.own i _ _ b hi hρ rfl;have hm:∀x d,Rd S w ρ x d->Rd S (w.setRow b (vs.toList.take (p+off)++v.cells.toList++vs.toList.drop (p+off+v.cells.toList.length)).toArray) ρ x d:=λx d h=>
   h.mono (λ_ h=>h) (λk hk=>hS k (λe=>ob.1 (e ▸ hk))) (Pre.refl _)
  refine hI.put hi hρ (b:=b) rfl (λk hk=>by simp[Res.foot,D3]at hk;exact hk.symm) hS (by simp) rfl ⟨rfl,λ_=>by first|exact ai _|exact aC _⟩ rfl ?_;have hz:(vs.toList.take (p+off)++v.cells.toList++vs.toList.drop (p+off+v.cells.toList.length)).toArray.size=vs.size:=by simp;omega
  refine .inr ⟨b,p,len,cap,_,rfl,hb.put hz,⟨?_,h5,h6,h7,by rw[hz];exact h8⟩,?_⟩
  .unfold Ik;simp;omega
  .have hx:v.cells.toList.length=n:=by rw[hvl,hl]
   rw[show (vs.toList.take (p+off)++v.cells.toList++vs.toList.drop (p+off+v.cells.toList.length)).toArray.toList=vs.toList.take (p+off)++v.cells.toList++vs.toList.drop (p+off+v.cells.toList.length) from rfl,
    Yb (by rw[hx];omega) (by simp;omega)]
   unfold Ik;have hd:=hc.drop (off+v.cells.toList.length);rw[hvl]at hd;exact(((hc.take off).append (hv.append (by rw[hvl];exact hd)))).mono hm
 .intro k hk;exact Bg _ _ _ _ (λe=>(hI.own i _ _ b hi hρ rfl).1 (e ▸ hk))
theorem Aos(hI:Inv C S w ρ R)(h:Q3 R c o i k size off ds n=some out)(hk:∀x,out.c=some x->x.ok P) 
  (hy:Ay (Rd S w ρ) u.cells.toList ds)(e3:A8 P t=some n)(hρ:ρ[i]?=some (.slice (some ⟨b,p,none⟩) len cap)) :
  o.dst=none/\∃w' S',(storeVar t ⟨b,p+k*size+off,none⟩ u).run P w=.ok () w'/\Du C S w ρ out.R undef out.v S' w' ρ:=by
 unfold Q3 at h;split at h
 .rename_i e s cells hi;cases hb:(Nat.beq ds.length n&&(Nat.ble (k*size+off+n) cells.length&&o.dst.isNone)) with
  |false=>rw[hb]at h;simp at h
  |true=>
   rw[hb]at h;simp only[eh,ae]at h;subst h;simp only[aa]at hb;obtain⟨b1,b2,b3⟩:=hb;obtain⟨w',hr,hI',hS⟩:=hI.putVec hi hρ hy e3 (af b1) (aF b2);have hdst:o.dst=none:=by cases hd:o.dst <;> simp[hd]at b3;rfl
   exact⟨hdst,w',S,by rw[bg];exact hr,hI',λ_ h=>h,hS,Pre.refl _,.tup (vs:=[]) rfl (by simp)⟩
 .split at h
  .rename_i m;split at h
   .rename_i e2 s2 rows2 hm;cases hb:Nat.beq m i with
    |true=>rw[hb]at h;simp at h
    | false=>
     rw[hb]at h;simp only[eg]at h;obtain⟨v,hcells,hr⟩:∃v,u.cells.toList=[v]/\Rd S w ρ v (.os m):=by
      generalize u.cells.toList=l at hy
      match l,hy with
      | [v],hv=>exact⟨v,rfl,hv.1⟩
      | [],hv=>exact hv.elim
      |_::_::_,hv=>exact hv.2.elim
     have hρm:=hr.os_inv;have hf:=hI.freeze hm hρm;have hfz:=Res.ok0.frozen ((hI.ok m _ _ hm hρm).live hr.one);have hy':Ay (Rd (λb=>S b\/(Res.sl e2 s2 rows2).foot v b) w ρ) u.cells.toList [.p (.s rows2)]:=by rw[hcells];exact⟨.p hfz,trivial⟩
     obtain⟨hd,w',hr',hA⟩:=Atw hf h hk hy' e3 hρ;obtain⟨a1,a2,a3,a4,a5⟩:=hA;exact⟨hd,w',_,hr',a1,λb hb=>a2 b (.inl hb),λb hb=>a3 b (.inl hb),a4,a5⟩
   .cases h
  .cases h
theorem Ahj(hI : Inv C S w ρ R)(hL : Cd S w ρ a L)(hp : pt a cur)(h : H1 P L cur R c o = some out)
  (hk:∀x,out.c=some x->x.ok P) 
  (hK:∀v w' S' ρ',Du C S w ρ out.R v out.v S' w' ρ'->K (a.put o.dst v) w'):wpv P o a w K:=by
 unfold H1 at h;split at h
 .rename_i v k hv;simp at h;subst h;obtain⟨x,hx,hr⟩:=Aou hI hL hp hv hk;exact De hx (hK x w S ρ (Alh hI hr))
 .obtain⟨dst,op,type,pos,after,guard⟩:=o;simp only at h hK;cases op with
  | box t x=>
   simp only at h;split at h
   .rename_i cells n e1 e2;cases hb:Nat.beq cells.length n with
    |false=>rw[hb]at h;simp at h
    |true=>rw[hb]at h;simp at h;subst h;obtain⟨av,h1,h2⟩:=Dt e1;have hcells:=N2 (Bp hL hp h1) h2;have hA:=hI.newBox (t:=t) hcells;refine De ?_ (hK _ _ _ _ hA);simp[execOp,Instr.box,newVar,newRow]
   .cases h
  | alloc t=>
   simp only at h;split at h
   .rename_i cells e1;simp at h;subst h;obtain⟨z,hz,hd⟩:=Dt e1;have hA:=hI.newBox (t:=t) (J1 (S:=S) (w:=w) (ρ:=ρ) hd);refine De ?_ (hK _ _ _ _ hA);simp[execOp,Instr.alloc,newVar,newRow,Fz hz]
   .cases h
  | store t x y=>
   simp only at h;cases hc:cur.isEmpty with
   |false=>rw[hc]at h;simp at h
   | true=>
    rw[hc]at h;simp only[eh]at h;split at h
    .rename_i i off ds n e1 e2 e3;split at h
     .rename_i u cells hi;cases hb:(Nat.beq ds.length n&&Nat.ble (off+n) cells.length&&dst.isNone) with
      |false=>rw[hb]at h;simp at h
      | true=>
       rw[hb]at h;simp at h;subst h;simp only[aa]at hb;obtain⟨⟨b1,b2⟩,b3⟩:=hb;obtain⟨b,hx,hρ⟩:=(Bp hL hp e1).d_inv.o_inv;obtain⟨av,h1,h2⟩:=Dt e2;have hy:=N2 (Bp hL hp h1) h2;obtain⟨w',hr,hI',hS⟩:=hI.store hi hρ hy e3 (af b1) (aF b2);have hdst:dst=none:=by cases dst <;> simp at b3;rfl
       subst hdst;unfold wpv;have:(execOp a.eval ⟨none,.store t x y,type,pos,after,guard⟩).run P w=.ok .skip w':=by simp only[execOp,eo,hx,Instr.storeAt,Instr.sureAddr,eq,ep,hr]
       rw[this];exact hK undef w' S ρ ⟨hI',λ_ h=>h,hS,Pre.refl _,.tup (vs:=[]) rfl (by simp)⟩
     .cases h
    .rename_i i k size off ds n e1 e2 e3;obtain⟨b,o,l,cp,hx,hρ⟩:=(Bp hL hp e1).d_inv.oe_inv;obtain⟨av,h1,h2⟩:=Dt e2;have hy:=N2 (Bp hL hp h1) h2;have fin:∀w' ρ',dst=none->(storeVar t ⟨b,o+k*size+off,none⟩ (a.eval y)).run P w=.ok () w'->Du C S w ρ out.R undef out.v S w' ρ'->wpv P ⟨dst,.store t x y,type,pos,after,guard⟩ a w K:=by
      intro w' ρ' hdst hr hA;subst hdst;unfold wpv;have:(execOp a.eval ⟨none,.store t x y,type,pos,after,guard⟩).run P w=.ok .skip w':=by simp only[execOp,eo,hx,Instr.storeAt,Instr.sureAddr,eq,ep,hr]
      rw[this];exact hK undef w' S ρ' hA
     split at h
     .rename_i out' hput;simp at h;subst h;unfold Pv at hput;split at hput
      .rename_i e s rows q1 q2 row q3 rows' ps hi hps q4;cases hb:(Nat.beq s size&&(Nat.beq ds.length n&&(Nat.ble (off+n) size&&dst.isNone))) with
       |false=>rw[hb]at hput;simp at hput
       |true=>
        rw[hb]at hput;simp at hput;subst hput;simp only[aa]at hb;obtain⟨b0,b1,b2,b3⟩:=hb;have hss:=af b0;subst hss;obtain⟨k1,k2⟩:=hk _ rfl;obtain⟨w',hr,hI',hS⟩:=hI.putRow hi hρ (O8 hps hy) e3 (by rw[←uX hps];exact af b1) (aF b2) k1;rw[k2]at hI';have hdst:dst=none:=by cases dst <;> simp at b3;rfl
        exact fin w' ρ hdst hr ⟨hI',λ_ h=>h,hS,Pre.refl _,.tup (vs:=[]) rfl (by simp)⟩
      .cases hput
     .split at h
      .rename_i out' hput;simp at h;subst h;obtain⟨hdst,w',ρ',hr,hA⟩:=Aot hI hput hk hy e3 hρ;exact fin w' ρ' hdst hr hA
      .obtain⟨hdst,w',S',hr,hA⟩:=Aos hI h hk hy e3 hρ;have hdst':dst=none:=hdst;subst hdst';unfold wpv;have:(execOp a.eval ⟨none,.store t x y,type,pos,after,guard⟩).run P w=.ok .skip w':=by
        simp only[execOp,eo,hx,Instr.storeAt,Instr.sureAddr,eq,ep,hr]
       rw[this];exact hK undef w' S' ρ hA
    .cases h
  | buildSlice t len parts=>
   simp only at h;split at h
   .rename_i ps e1;obtain⟨_,v,w',S',ρ',hr,hA⟩:=Zo hI (K6 hL hp e1) h;refine De ?_ (hK _ _ _ _ hA);have e:(parts.map λ(x:Nat×Operand)=>(x.1,a.eval x.2))=(parts.toList.map λx=>(x.1,a.eval x.2)).toArray:=by apply bL;simp
    simp only[execOp,eo];have e':(parts.map fun|(i,x)=>(i,a.eval x))=(parts.toList.map λx=>(x.1,a.eval x.2)).toArray:=e;rw[e',hr];rfl
   .cases h
  | convert s d x=>
   simp only at h;unfold L6 at h;split at h
   .rename_i o1 h0;cases h;obtain⟨hR,v,v',w',S',hx,hr,hA⟩:=Ao0 (ρ:=ρ) hI h0 hk;have:=Bc hL hp hx;refine De ?_ (hK v' w' S' ρ (by rw[hR];exact hA));simp only[execOp,this,eo,hr];rfl
   .split at h
    .rename_i o1 h0;cases h;obtain⟨v,v',w',ρ',hx,hr,hA⟩:=Aki (ρ:=ρ) hI h0 hk;have:=Bc hL hp hx;refine De ?_ (hK v' w' S ρ' hA);simp only[execOp,this,eo,hr];rfl
    .obtain⟨v',w',hr,hA⟩:=Akj (ρ:=ρ) (v:=a.eval x) hI h λy hy=>Bp hL hp hy;refine De ?_ (hK v' w' S ρ hA);simp only[execOp,eo,hr];rfl
  | makeSlice t l k=>
   simp only at h;cases hc:Kv l k with
   |false=>rw[hc]at h;simp at h
   | true=>
    rw[hc]at h;simp only[eh]at h;have hlk:l=k:=by
     have:=hc;unfold Kv at this;split at this
     .rw[af this]
     .rw[eq_of_beq this]
     .cases this
    subst hlk;obtain⟨v,w',ρ',x,hx,hr,hA⟩:=Aow hI h hk;have:=Bc hL hp hx;refine De ?_ (hK _ _ _ _ hA);simp only[execOp,this,eo,hr];rfl
  | call kk=>
   obtain⟨callee,cargs,argTypes⟩:=kk;have hl:(cargs.map a.eval).toList=cargs.toList.map a.eval:=by simp
   cases callee with
   |invoke r m=>simp at h
   | builtin b=>
    cases b with
    | append=>
     simp only at h;split at h
     .rename_i i g q size off y e1;have hargs:=Ed hL hp e1;rw[←hl]at hargs;obtain⟨v,w',ρ',hr,hA⟩:=Adv (ty:=type) hI hargs h hk;refine De ?_ (hK _ _ _ _ hA);simp only[execOp,resolve,eo,eq,ep,invoke,builtin,hr]
     .rename_i i n s y e1;have hargs:=Ed hL hp e1;rw[←hl]at hargs;unfold M3 at h;split at h
      .obtain⟨v,w',hr,hA⟩:=Adt (ty:=type) hI hargs h hk;refine De ?_ (hK _ _ _ _ hA);simp only[execOp,resolve,eo,eq,ep,invoke,builtin,hr]
      .obtain⟨v,w',ρ',hr,hA⟩:=Ads (ty:=type) hI hargs h hk;refine De ?_ (hK _ _ _ _ hA);simp only[execOp,resolve,eo,eq,ep,invoke,builtin,hr]
     .rename_i args _ _ e1;have hargs:=Ed hL hp e1;rw[←hl]at hargs;unfold M4 at h;split at h
      .rename_i o1 hap;simp only[ae]at h;subst h;obtain⟨v,w',ρ',hr,hA⟩:=Kd (ty:=type) hI hargs hap hk;refine De ?_ (hK _ _ _ _ hA);simp only[execOp,resolve,eo,eq,ep,invoke,builtin,hr]
      .split at h
       .rename_i o1 hap;simp only[ae]at h;subst h;obtain⟨v,w',ρ',hr,hA⟩:=Adr (ty:=type) hI hargs hap;refine De ?_ (hK _ _ _ _ hA);simp only[execOp,resolve,eo,eq,ep,invoke,builtin,hr]
       .obtain⟨v,w',ρ',hr,hA⟩:=Adu (ty:=type) hI hargs h;refine De ?_ (hK _ _ _ _ hA);simp only[execOp,resolve,eo,eq,ep,invoke,builtin,hr]
     .cases h
    | clear=>
     simp only at h;split at h
     .rename_i args e1;have hargs:=Ed hL hp e1;rw[←hl]at hargs;obtain⟨v,w',hr,hA⟩:=Akk (ty:=type) hI hargs h hk;refine De ?_ (hK _ _ _ _ hA);simp only[execOp,resolve,eo,eq,ep,invoke,builtin,hr]
     .cases h
    | copy=>
     simp only at h;split at h
     .rename_i args e1;have hargs:=Ed hL hp e1;rw[←hl]at hargs;obtain⟨v,w',hr,hA⟩:=Aoz (ty:=type) hI hargs h hk;refine De ?_ (hK _ _ _ _ hA);simp only[execOp,resolve,eo,eq,ep,invoke,builtin,hr]
     .cases h
    |_=>simp at h
   | value f=>
    simp only at h;split at h
    .rename_i g first caps args e1 e2;obtain⟨xs,cs,hf,hxs,hcs⟩:=(Bp hL hp e1).d_inv.fn_inv;have hargs:=Ed hL hp e2;have hall:Ay (RdA S w ρ) (xs++cargs.toList.map a.eval++cs) (first.map AV.d++args++caps.map AV.d):=
      ((hxs.map_right λ_ _ h=>.d h).append hargs).append (hcs.map_right λ_ _ h=>.d h)
     obtain⟨hent,hcall⟩:=zE hI hall h hk;unfold wpv;have:(execOp a.eval ⟨dst,.call ⟨.value f,cargs,argTypes⟩,type,pos,after,guard⟩).run P w=.ok (.enter g (xs++cargs.toList.map a.eval++cs).toArray) w:=by simp only[execOp,resolve,hf,Deferred.ofValue,eo,eq,ep,invoke];rw[hent];congr 2;apply bL;simp
     rw[this];refine Calls.mono hcall λe w' hpost=>?_;obtain⟨v,S',ρ',rfl,hA⟩:=hpost;exact⟨v,rfl,hK v w' S' ρ' hA⟩
    .rename_i g ps args e1 e2;obtain⟨vs,hf,hvs⟩:=(Bp hL hp e1).d_inv.fb_inv;have hargs:=Ed hL hp e2;have hall:Ay (RdA S w ρ) (.agg vs.toArray::cargs.toList.map a.eval) (.agg (ps.map D.p)::args):=⟨.agg (hvs.map_right λ_ _ h=>.p h),hargs⟩;obtain⟨hent,hcall⟩:=zE hI hall h hk;unfold wpv;have:(execOp a.eval ⟨dst,.call ⟨.value f,cargs,argTypes⟩,type,pos,after,guard⟩).run P w=.ok (.enter g (.agg vs.toArray::cargs.toList.map a.eval).toArray) w:=by
      simp only[execOp,resolve,hf,Deferred.ofValue,eo,eq,ep,invoke];rw[show #[Value.agg vs.toArray]++cargs.map a.eval ++ #[]=(.agg vs.toArray::cargs.toList.map a.eval).toArray from by apply bL;simp];rw[hent]
     rw[this];refine Calls.mono hcall λe w' hpost=>?_;obtain⟨v,S',ρ',rfl,hA⟩:=hpost;exact⟨v,rfl,hK v w' S' ρ' hA⟩
    .cases h
  |_=>simp at h
def Fs(R R':List Res):Prop:=∃R1 l,R'=R1++l/\R1.length=R.length/\∀(i:Nat) r,R1[i]?=some r->r=.non\/R[i]?=some r
theorem Fs.refl(R:List Res):Fs R R:=⟨R,[],by simp,rfl,λ_ _ h=>.inr h⟩
theorem Fs.app(R l:List Res):Fs R (R++l):=⟨R,l,rfl,rfl,λ_ _ h=>.inr h⟩
theorem Ry:undef.oneCell'=false:=rfl
theorem Inv.skip{R':List Res}(h:Inv C S w ρ R)(hg:Fs R R'):∃ρ',Inv C S w ρ' R'/\Pre ρ ρ':=by
 obtain⟨R1,l,rfl,hl,hr⟩:=hg;have key:∀(i:Nat) r v,(R1++l)[i]?=some r->(ρ++List.replicate l.length undef)[i]?=some v->v.oneCell'=false\/r=.non\/(R[i]?=some r/\ρ[i]?=some v):=by
  intro i r v h1 h2;rcases aR i R1.length with hi|hi
  .rw[ax hi]at h1;rw[ax (by rw[h.len,←hl];exact hi)]at h2;grind
  .rw[aK (by rw[h.len,←hl];exact hi)]at h2;have:=ag h2;rw[bK this];exact .inl Ry
 refine⟨ρ++List.replicate l.length undef,⟨by simp[h.len,hl],λi r v h1 h2=>?_,λi j r r' v v' b hij h1 h2 h3 h4 h5 h6=>?_,λi r v b h1 h2 h3=>?_,h.sub,h.sup,h.frm,h.size,h.os,h.tape,h.output,h.pre.trans (Pre.append _ _),h.gl⟩,Pre.append _ _⟩
 .rcases key i r v h1 h2 with hd|rfl|⟨g1,g2⟩
  .exact .inl hd
  .exact .inr trivial
  .exact(h.ok i r v g1 g2).mono (λ_ h=>h) (λ_ _=>rfl) (Pre.append _ _) (λ_ _=>rfl)
 .rcases key i r v h1 h3 with hd|rfl|⟨g1,g2⟩
  .exact absurd h5 (dg hd _)
  .simp[Res.foot]at h5
  .rcases key j r' v' h2 h4 with hd|rfl|⟨m1,m2⟩
   .exact absurd h6 (dg hd _)
   .simp[Res.foot]at h6
   .exact h.dis i j r r' v v' b hij g1 m1 g2 m2 h5 h6
 .rcases key i r v h1 h2 with hd|rfl|⟨g1,g2⟩
  .exact absurd h3 (dg hd _)
  .simp[Res.foot]at h3
  .exact h.own i r v b g1 g2 h3
theorem Inv.dummies(h:Inv C S w ρ R)(l:List Res):∃ρ',Inv C S w ρ' (R++l)/\Pre ρ ρ'/\∀i,R.length<=i->i<R.length+l.length->∃x,ρ'[i]?=some x/\x.oneCell'=false:=by
 have key:∀(i:Nat) r v,(R++l)[i]?=some r->(ρ++List.replicate l.length undef)[i]?=some v->v.oneCell'=false\/(R[i]?=some r/\ρ[i]?=some v):=by
  intro i r v h1 h2;rcases aR i R.length with hi|hi
  .rw[ax hi]at h1;rw[ax (by rw[h.len];exact hi)]at h2;exact .inr ⟨h1,h2⟩
  .rw[aK (by rw[h.len];exact hi)]at h2;have:=ag h2;rw[bK this];exact .inl Ry
 refine⟨ρ++List.replicate l.length undef,⟨by simp[h.len],λi r v h1 h2=>?_,λi j r r' v v' b hij h1 h2 h3 h4 h5 h6=>?_,λi r v b h1 h2 h3=>?_,h.sub,h.sup,h.frm,h.size,h.os,h.tape,h.output,h.pre.trans (Pre.append _ _),h.gl⟩,Pre.append _ _,λi h1 h2=>⟨undef,?_,Ry⟩⟩
 .rcases key i r v h1 h2 with hd|⟨g1,g2⟩
  .exact .inl hd
  .exact(h.ok i r v g1 g2).mono (λ_ h=>h) (λ_ _=>rfl) (Pre.append _ _) (λ_ _=>rfl)
 .rcases key i r v h1 h3 with hd|⟨g1,g2⟩
  .exact absurd h5 (dg hd _)
  .rcases key j r' v' h2 h4 with hd|⟨m1,m2⟩
   .exact absurd h6 (dg hd _)
   .exact h.dis i j r r' v v' b hij g1 m1 g2 m2 h5 h6
 .rcases key i r v h1 h2 with hd|⟨g1,g2⟩
  .exact absurd h3 (dg hd _)
  .exact h.own i r v b g1 g2 h3
 .rw[aK (by rw[h.len];exact h1),List.getElem?_replicate,ei (by rw[h.len];omega)]
mutual
theorem D.ren_back{f g:Nat->Option Nat}(hfg:∀i j k,f i=some j->g j=some k->k=i):∀(d d' d'':D),D.ren f d=some d'->D.ren g d'=some d''->d''=d
 |.p x,d',d'',h,k=>by simp[D.ren]at h;subst h;simp[D.ren]at k;exact k.symm
 | .o i off,d',d'',h,k=>by
  simp only[D.ren]at h;split at h
  .rename_i j hj;simp at h;subst h;simp only[D.ren]at k;split at k
   .rename_i m hm;simp at k;subst k;rw[hfg _ _ _ hj hm]
   .cases k
  .cases h
 | .os i,d',d'',h,k=>by
  simp only[D.ren]at h;split at h
  .rename_i j hj;simp at h;subst h;simp only[D.ren]at k;split at k
   .rename_i m hm;simp at k;subst k;rw[hfg _ _ _ hj hm]
   .cases k
  .cases h
 | .oe i a b c,d',d'',h,k=>by
  simp only[D.ren]at h;split at h
  .rename_i j hj;simp at h;subst h;simp only[D.ren]at k;split at k
   .rename_i m hm;simp at k;subst k;rw[hfg _ _ _ hj hm]
   .cases k
  .cases h
 | .osb i a b c,d',d'',h,k=>by
  simp only[D.ren]at h;split at h
  .rename_i j hj;simp at h;subst h;simp only[D.ren]at k;split at k
   .rename_i m hm;simp at k;subst k;rw[hfg _ _ _ hj hm]
   .cases k
  .cases h
 | .oi i q a b c,d',d'',h,k=>by
  simp only[D.ren]at h;split at h
  .rename_i j j2 hj hj2;simp at h;subst h;simp only[D.ren]at k;split at k
   .rename_i m m2 hm hm2;simp at k;subst k;rw[hfg _ _ _ hj hm,hfg _ _ _ hj2 hm2]
   .cases k
  .cases h
 |.any,d',d'',h,k=>by simp[D.ren]at h;subst h;simp[D.ren]at k;exact k.symm
 |.nq _,d',d'',h,k=>by simp[D.ren]at h;subst h;simp[D.ren]at k;exact k.symm
 |.fb _ _,d',d'',h,k=>by simp[D.ren]at h;subst h;simp[D.ren]at k;exact k.symm
 |.ip c,d',d'',h,k=>by simp[D.ren]at h;subst h;simp[D.ren]at k;exact k.symm
 | .fn q a b,d',d'',h,k=>by
  simp only[D.ren]at h;split at h
  .rename_i a' b' h1 h2;simp at h;subst h;simp only[D.ren]at k;split at k
   .rename_i a2 b2 k1 k2;simp at k;subst k;rw[dn hfg a a' a2 h1 k1,dn hfg b b' b2 h2 k2]
   .cases k
  .cases h
theorem dn{f g:Nat->Option Nat}(hfg:∀i j k,f i=some j->g j=some k->k=i):∀(d d' d'':List D),D.renL f d=some d'->D.renL g d'=some d''->d''=d
 | [],d',d'',h,k=>by simp[D.renL]at h;subst h;simp[D.renL]at k;exact k
 | x::r,d',d'',h,k=>by
  simp only[D.renL]at h;split at h
  .rename_i x' r' h1 h2;simp at h;subst h;simp only[D.renL]at k;split at k
   .rename_i x2 r2 k1 k2;simp at k;subst k;rw[D.ren_back hfg x x' x2 h1 k1,dn hfg r r' r2 h2 k2]
   .cases k
  .cases h
end
theorem Res.ren_back{f g:Nat->Option Nat}(hfg:∀i j k,f i=some j->g j=some k->k=i){r r' r'':Res}(h:r.ren f=some r')(k:r'.ren g=some r''):r''=r:=by
 cases r with
 | box t cells=>
  simp only[Res.ren]at h;split at h
  .rename_i cs hc;simp at h;subst h;simp only[Res.ren]at k;split at k
   .rename_i cs2 hc2;simp at k;subst k;rw[dn hfg _ _ _ hc hc2]
   .cases k
  .cases h
 |sl e s rows=>simp[Res.ren]at h;subst h;simp[Res.ren]at k;exact k.symm
 |zsl e s rows=>simp[Res.ren]at h;subst h;simp[Res.ren]at k;exact k.symm
 | dsl e s g=>
  simp only[Res.ren]at h;split at h
  .rename_i j hj;simp at h;subst h;simp only[Res.ren]at k;grind
  .cases h
 |gh s tys rows hole=>simp[Res.ren]at h;subst h;simp[Res.ren]at k;exact k.symm
 |non=>simp[Res.ren]at h;subst h;simp[Res.ren]at k;exact k.symm
 | vec t sz cells=>
  simp only[Res.ren]at h;split at h
  .rename_i cs hc;simp at h;subst h;simp only[Res.ren]at k;split at k
   .rename_i cs2 hc2;simp at k;subst k;rw[dn hfg _ _ _ hc hc2]
   .cases k
  .cases h
theorem Xc:∀{pi:ey}{R l:List Res},(∀(j i:Nat) r,pi[j]?=some i->l[j]?=some r->R[i]?=some r)->Fx R pi l=R
 | [],R,l,_=>by cases l <;> rfl
 |i::pi,R,[],_=>rfl
 | i::pi,R,r::l,h=>by
  have h0:R[i]?=some r:=h 0 i r rfl rfl;have e:R.set i r=R:=by apply bj;grind
  simp only[Fx];rw[e];exact Xc λj k r hj hr=>h (j+1) k r (by simpa using hj) (by simpa using hr)
theorem Xi{args : List AV}{f : FuncId}(h : Cx R args f c = some out)(hk : X0 c = true \/ (∀x, out.c = some x -> x.keeps)) : Fs R out.R := by
 unfold Cx at h;split at h
 .rename_i f' q1 res q2 q3 rw;cases hb:(Nat.beq f f'&&res.flat) with
  |false=>rw[hb]at h;simp at h
  | true=>
   rw[hb]at h;simp only[eh]at h;split at h
   .split at h
    .simp at h;subst h;exact Fs.refl _
    .cases h
   .split at h
    .simp at h;subst h;exact Fs.refl _
    .cases h
   .cases h
 .rename_i f' q1 q2 res R2 pi;cases hb:(Nat.beq f f'&&Fw pi&&Nat.ble pi.length R2.length) with
  |false=>rw[hb]at h;simp at h
  | true=>
   rw[hb]at h;simp only[eh]at h;simp only[aa]at hb;obtain⟨⟨hb1,hb2⟩,hb3⟩:=hb;split at h
   .rename_i args' Rp e1 e2;split at h
    .rename_i Rp' res' R2' e3 e4 e5;simp at h;subst h;have same:Fx R pi R2'=R:=by
      rcases hk with hk|hk
      .simp only[X0,bu]at hk;subst hk;cases R2' <;> rfl
      .have hkeep:R2.take pi.length=Rp':=hk _ rfl;obtain⟨p1,p2⟩:=Pq e2;obtain⟨q1',q2'⟩:=Jc e3;obtain⟨m1,m2⟩:=Jc e5;refine Xc λj i r hj hr=>?_;obtain⟨r0,g1,g2⟩:=m2 j r hr;obtain⟨r1,g3,g4⟩:=p2 j i hj;have hjl:j<pi.length:=(ac.1 hj).1;have g5:Rp'[j]?=some r0:=by
        rw[←hkeep,ap,ei hjl];exact g1
       obtain⟨r2,g6,g7⟩:=q2' j r0 g5;rw[g3]at g6;cases g6;have:=Res.ren_back (λa b k hab hbk=>by have:=Uy hab;unfold Gx at hbk;rw[this]at hbk;simpa using hbk.symm) g7 g2
       rw[this];exact g4
     rw[same];exact Fs.app _ _
    .cases h
   .cases h
 .cases h
theorem zD{s d:TypeId}{x:Option AV}(h:L6 P R c s d x=some out):out.R=R\/∃r,out.R=R++[r]:=by
 unfold L6 at h;split at h
 .rename_i o1 h0;cases h;unfold U9 at h0;grind
 .split at h
  .rename_i o1 h0;cases h;unfold N8 at h0;grind
  .unfold N9 at h;grind
theorem zC{r : Bool}(h : H1 P L cur R c o = some out)(hs : Mq r c o = true)(hk : r = true -> ∀x, out.c = some x -> x.keeps) : Fs R out.R := by
  unfold H1 at h;split at h
  · simp at h;subst h;exact Fs.refl _
  · obtain ⟨dst, op, type, pos, after, guard⟩ := o;simp only at h;cases op with
    | box t x=>
      simp only at h;split at h
      · generalize (Nat.beq _ _)=bb at h;cases bb with
        |false=>simp at h
        |true=>simp at h;subst h;exact Fs.app _ _
      · cases h
    | alloc t=>
      simp only at h;split at h
      · simp at h;subst h;exact Fs.app _ _
      · cases h
    |store t x y=>simp[Mq]at hs
    | buildSlice t len parts=>
      simp only at h;split at h
      · unfold He at h;split at h
        · split at h
          · generalize (Nat.beq _ _&&Nat.ble _ _)=bb at h;cases bb with
            |false=>simp at h
            | true=>
              simp only[eh]at h;split at h
              · cases ho:Mh c with
                |true=>rw[ho]at h;simp at h;subst h;exact Fs.app _ _
                |false=>rw[ho]at h;simp at h;subst h;exact Fs.refl _
              · generalize Mh c=bb at h;cases bb with
                |false=>simp at h
                |true=>obtain⟨ds,_,rfl⟩:=Cv h;exact Fs.app _ _
          · cases h
        · cases h
      · cases h
    | convert s d x=>
      simp only at h;rcases zD h with e|⟨r,e⟩
      · rw [e];exact Fs.refl _
      · rw [e];exact Fs.app _ _
    | makeSlice t x y=>
      simp only at h;generalize (Kv x y)=bb at h;cases bb with
      |false=>simp at h
      | true=>
        simp only[eh]at h;unfold Lb at h;split at h
        · split at h
          · split at h
            · generalize (Nat.beq _ _)=bb at h;cases bb with
              |false=>simp at h
              |true=>simp at h;subst h;exact Fs.app _ _
            · cases h
          · cases h
        · split at h
          · split at h
            · generalize (Nat.beq _ _&&_)=bb at h;cases bb with
              |false=>simp at h
              |true=>simp at h;subst h;exact Fs.app _ _
            · cases h
          · cases h
        · cases h
    | call kk=>
      obtain⟨callee,cargs,argTypes⟩:=kk;cases callee with
      |invoke r m=>simp at h
      | builtin b=>
        cases b <;> first
          |(simp at h;done)
          |(simp[Mq]at hs;done)
          | (simp only at h
             split at h
             · rename_i i g q size off y e1;exfalso;unfold Jl at h;split at h
               · simp [Mq,isW]at hs
               · cases h
             · rename_i i n s y e1;unfold M3 at h;split at h
               · exfalso;simp[Mq,isW]at hs
               · obtain⟨r0,hr0⟩:=Vd h;rw[hr0];refine⟨R.set i .non,_,rfl,by simp,λj r hj=>?_⟩;rw[aB]at hj;split at hj
                 · split at hj
                   · cases hj;exact .inl rfl
                   · cases hj
                 · exact .inr hj
             · rename_i args _ _ e1;unfold M4 at h;split at h
               rotate_left
               · split at h
                 · rename_i o1 hap;simp only[ae]at h;subst h;rcases Vb hap with⟨r1,r2,hr,_⟩|⟨i,y,r,_,hr⟩
                   · rw [hr];exact Fs.app _ _
                   · rw[hr];refine⟨R.set _ .non,_,rfl,by simp,λi r hi=>?_⟩;rw[aB]at hi;split at hi
                     · split at hi
                       · cases hi;exact .inl rfl
                       · cases hi
                     · exact .inr hi
                 · obtain⟨r,hr⟩:=Ve h;rw[hr];exact Fs.app _ _
               rename_i o1 hap;simp only[ae]at h;subst h;have h:=hap;clear hap;unfold Ck at h;split at h
               · generalize (Nat.beq _ _) = bb at h;cases bb with
                 |false=>simp at h
                 | true=>
                   simp only[eh]at h;split at h
                   · split at h
                     · split at h
                       · generalize (Nat.beq _ _)=bb at h;cases bb with
                         |false=>simp at h
                         | true=>
                           simp only[eh]at h;split at h
                           · simp at h;subst h;exact Fs.app _ _
                           · rename_i j;split at h
                             · generalize (Nat.beq _ _&&Nat.beq _ _)=bb at h;cases bb with
                               |false=>simp at h
                               | true=>
                                 simp at h;subst h;refine⟨R.set _ .non,_,rfl,by simp,λi r hi=>?_⟩;rw[aB]at hi;split at hi
                                 · split at hi
                                   · cases hi;exact .inl rfl
                                   · cases hi
                                 · exact .inr hi
                             · cases h
                           · cases h
                       · cases h
                     · cases h
                   · cases h
               · cases h
             · cases h)
      | value f=>
        simp only at h;split at h
        · refine Xi h ?_;simp only[Mq,aS]at hs;rcases hs with hs|hs
          · exact .inr (hk hs)
          · exact .inl hs
        · refine Xi h ?_;simp only[Mq,aS]at hs;rcases hs with hs|hs
          · exact .inr (hk hs)
          · exact .inl hs
        · cases h
    |_=>simp at h
end
end Go.SL
namespace Go.SL
variable{p:A_}{K K':Act->World->Prop}{ops:Array Oper}{c r:Bool}{x:Cl}{cs:List (Bool×Bool)}{d i n t:Nat}{o:Oper}{v:Value}
section
variable{P:Program}{C:Ctx}{S S':Nat->Prop}{w w':World}{ρ ρ':eA}{R:List Res}{L:List Ent}{cur:A_}{a:Act}
theorem Bz:pt a []:=λg hg=>by cases hg
theorem Sz(hL:Cd S w ρ a L){e:Ent}(he:Ds L t=some e)(hb:Mn e.v=some c) :
  (pt a e.p->a.tmps[t]?=some (.bool c))/\(¬pt a e.p->a.tmps[t]?=some undef):=by
 obtain⟨hm,ht⟩:=C5 he;obtain⟨h1,h2⟩:=hL e hm;rw[ht]at h1 h2;refine⟨λhp=>?_,h2⟩;obtain⟨v,hv,hr⟩:=h1 hp;unfold Mn at hb;split at hb
 .rename_i b heq;simp at hb;subst hb;rw[heq]at hr;rw[hv,hr.exact_inv]
 .cases hb
theorem Ac5(hL:Cd S w ρ a L)(h:Gj ops L o=some cur):(Region.wanted o (yielded ops a.tmps)=true↔pt a cur)/\(cur.isEmpty=true->Region.wanted o (yielded ops a.tmps)=true):=by
 unfold Gj at h;split at h
 .rename_i hg;simp at h;subst h;simp[Region.wanted,hg,Bz]
 .rename_i j want hg;split at h
  .cases h
  .rename_i t ht;split at h
   .rename_i e he;split at h
    .rename_i c hb;simp at h;subst h;obtain⟨h1,h2⟩:=Sz hL he hb;refine⟨?_,by simp⟩;have hy:yielded ops a.tmps j=match a.tmps[t]? with|some (.bool b)=>some b|_=>none:=by
      unfold yielded;rw[ht];rfl
     unfold Region.wanted;rw[hg];simp only[dQ];constructor
     .intro hw;rw[hy]at hw;by_cases hp:pt a e.p
      .rw[h1 hp]at hw;simp at hw;subst hw;intro g hg';rcases aw.1 hg' with h|h
       .exact hp g h
       .simp at h;subst h;exact h1 hp
      .rw[h2 hp]at hw;simp[undef]at hw
     .intro hp;have:=hp (t,want) (by simp);rw[hy,this]
    .cases h
   .cases h
theorem Yf(hL:Cd S w ρ a L):∀{p:A_}{cs:List (Bool×Bool)},Fh L p=some cs->pt a p->Dd cs
 | [],cs,h,_=>by simp[Fh]at h;subst h;trivial
 | (t, want) :: p, cs, h, hp => by
  simp only[Fh]at h;split at h
  .rename_i e he;split at h
   .rename_i c l hb hl;simp at h;subst h;obtain⟨h1,h2⟩:=Sz hL he hb;have ht:=hp (t,want) an;simp only at ht;refine⟨?_,Yf hL hl λg hg=>hp g (am _ hg)⟩;by_cases hpe:pt a e.p
    .rw[h1 hpe]at ht;simp at ht;exact ht
    .rw[h2 hpe]at ht;simp[undef]at ht
   .cases h
  .cases h
theorem G7(h:d≠t):(a.put (some d) v).tmps[t]?=a.tmps[t]?:=by simp[Act.put,Array.getElem?_setIfInBounds_ne h]
theorem Jd(h:d<a.tmps.size):(a.put (some d) v).tmps[d]?=some v:=by simp[Act.put,h]
theorem Mu(h:p.all (λg=>!(Nat.beq g.1 d))=true):pt (a.put (some d) v) p↔pt a p:=by
 have hne:∀g,g∈p->d≠g.1:=by intro g hg e;have:=(aD.1 h) g hg;subst e;simp at this
 constructor
 .intro hp g hg;rw[←hp g hg,G7 (hne g hg)]
 .intro hp g hg;rw[G7 (hne g hg)];exact hp g hg
theorem yJ(hL:Cd S w ρ a L)(hS:∀b,S b->S' b)(hw:∀b,S b->w'.heap[b]?=w.heap[b]?)(hρ:Pre ρ ρ'){av:AV}(hd:d<a.tmps.size)
  (hp:p.all (λg=>!(Nat.beq g.1 d))=true)(h1:pt a p->RdA S' w' ρ' v av)(h2:¬pt a p->v=undef):Cd S' w' ρ' (a.put (some d) v) (Km L d p av):=by
 intro e he;unfold Km at he;rcases ah.1 he with rfl|he
 .refine⟨λhpt=>⟨v,Jd hd,h1 ((Mu hp).1 hpt)⟩,λhpt=>?_⟩;have:=h2 (λh=>hpt ((Mu hp).2 h));subst this;exact Jd hd
 .rw[aH]at he;obtain⟨hm,hf⟩:=he;simp only[aa]at hf;obtain⟨f1,f2⟩:=hf;have hne:d≠e.t:=by
   intro e';subst e';simp at f1
  obtain⟨g1,g2⟩:=hL e hm;refine⟨λhpt=>?_,λhpt=>?_⟩
  .obtain⟨x,hx,hr⟩:=g1 ((Mu f2).1 hpt);exact⟨x,by rw[G7 hne];exact hx,hr.mono hS hw hρ⟩
  .rw[G7 hne];exact g2 λh=>hpt ((Mu f2).2 h)
def Gp(P:Program)(ops:Array Oper)(i:Nat)(K:Act->World->Prop)(a:Act)(w:World):Prop:=
 match ops[i]? with
 |none=>K a w
 |some o=>if Region.wanted o (yielded ops a.tmps)then Y4 o/\wpv P o a w K else K (a.put o.dst undef) w
def C4(P:Program)(ops:Array Oper)(K:Act->World->Prop):ey->Act->World->Prop
 | [],a,w=>K a w
 |i::rest,a,w=>Gp P ops i (C4 P ops K rest) a w
theorem Abv(hk:∀a w,K a w->K' a w)(h:wpv P o a w K):wpv P o a w K':=by
 unfold wpv at *;generalize (execOp a.eval o).run P w=r at *
 match r,h with
 |.ok (.value v) w',h=>exact hk _ _ h
 |.ok .skip w',h=>exact hk _ _ h
 |.ok (.enter f args) w',h=>exact Calls.mono h λe w'' hp=>by obtain⟨v,e,hp⟩:=hp;exact⟨v,e,hk _ _ hp⟩
theorem Abw{ro:Option Nat}{Q:Exit->Act->World->Prop}(hk:∀a w,K a w->K' a w)(h:Gp P ops i K a w):wpOpIn (FR ro) 0 P ops Q i K' a w:=by
 unfold Gp at h;unfold wpOpIn;split at h
 .rename_i ho;rw[ho];exact hk _ _ h
 .rename_i o ho;rw[ho];simp only;split at h
  .rename_i hw;rw[ei hw];exact A30 h.1 (Abv hk h.2)
  .rename_i hw;rw[em hw];exact⟨λ_ _=>trivial,hk _ _ h⟩
theorem Mp{ro:Option Nat}{ops:Array Oper}{Q:Exit->Act->World->Prop}:∀{is:ey}{a:Act}{w:World},C4 P ops (λa w=>Q .normal a w) is a w->wpOpsIn (FR ro) 0 P ops Q is a w
 | [],a,w,h=>h
 |i::is,a,w,h=>by rw[wpOpsIn_cons];exact Abw (λ_ _ h=>Mp h) h
theorem Az0(hL:Cd S w ρ a L):∀{p acc:A_}{cs:List (Bool×Bool)},T_ L acc p=true->Fh L p=some cs->pt a acc->Dd cs->pt a p
 | [],_,_,_,_,_,_=>Bz
 | (t, want) :: p, acc, cs, hwf, hc, hacc, hall => by
  simp only[T_]at hwf;simp only[Fh]at hc;split at hwf
  .rename_i e he;rw[he]at hc;simp only[aa]at hwf;simp only at hc;split at hc
   .rename_i c l hb hl;simp at hc;subst hc;obtain⟨h1,h2⟩:=Sz hL he hb;have ht:=h1 (Se hwf.1 hacc);have hcw:c=want:=hall.1;subst hcw;have hacc':pt a (acc++[(t,c)]):=by
     intro g hg;rcases aw.1 hg with hg|hg
     .exact hacc g hg
     .simp at hg;subst hg;exact ht
    have:=Az0 hL hwf.2 hl hacc' hall.2;intro g hg;rcases ah.1 hg with rfl|hg
    .exact ht
    .exact this g hg
   .cases hc
  .cases hwf
theorem Wd(hL:Cd S w ρ a L)(hcs:Fh L cur=some cs)(h:(D7 cur r cs x).ok P):(pt a cur->x.ok P):=by
 intro hp;unfold D7 at h;cases hc:cur.isEmpty with
 |true=>rw[hc]at h;exact h
 |false=>
  rw[hc]at h;cases r with
  |true=>exact h.1 (Yf hL hcs hp)
  |false=>exact h (Yf hL hcs hp)
theorem yE(hL:Cd S w ρ a L)(hcs:Fh L cur=some cs)(hr:r=true)(hc:cur.isEmpty=false)(hwf:T_ L [] cur=true)(h:(D7 cur r cs x).ok P)(hn:¬pt a cur):x.keeps:=by unfold D7 at h;subst hr;rw[hc]at h;exact h.2 λhall=>hn (Az0 hL hwf hcs Bz hall)
theorem Pu{c:Cl}{L':List Ent}{R':List Res}{k:Option Cl}(ho:ops[i]?=some o)(h:U8 P n ops L R c o=some (L',R',k))
  (hk:∀x,k=some x->x.ok P)(hs:Sat n C L R a w)(hK:∀a' w',Sat n C L' R' a' w'->K a' w'):Gp P ops i K a w:=by
 obtain⟨hdef,hsize,S,ρ,hI,hL⟩:=hs;unfold U8 at h;split at h
 .cases h
 .rename_i cur hcur;obtain⟨hw1,hw2⟩:=Ac5 hL hcur;simp only at h;split at h
  .rename_i out cs e1 e2;cases hg:Ji L cur (isR c) (C_ c) o with
   |false=>rw[hg]at h;simp at h
   | true=>
    rw[hg]at h;simp only[eh]at h;have hall:k=out.c.map (D7 cur (isR c) cs)/\R'=out.R/\(∀d,o.dst=some d->d<n/\cur.all (λg=>!(Nat.beq g.1 d))=true/\L'=Km L d cur out.v)/\(o.dst=none->cur.isEmpty=true/\L'=L):=by
     split at h
     .rename_i d hd;cases hb:(Nat.blt d n&&cur.all (λg=>!(Nat.beq g.1 d))) with
      |false=>rw[hb]at h;simp at h
      |true=>rw[hb]at h;simp only[eh,ae,al]at h;obtain⟨h1,h2,h3⟩:=h;simp only[aa]at hb;refine⟨h3.symm,h2.symm,λd' hd'=>?_,λhn=>by rw[hd]at hn;cases hn⟩;rw[hd]at hd';cases hd';exact⟨by have:=hb.1;simpa[eu]using this,hb.2,h1.symm⟩
     .rename_i hd;cases hc:cur.isEmpty with
      |false=>rw[hc]at h;simp at h
      |true=>rw[hc]at h;simp only[eh,ae,al]at h;obtain⟨h1,h2,h3⟩:=h;exact⟨h3.symm,h2.symm,λd hd'=>by rw[hd]at hd';(cases hd'),λ_=>⟨rfl,h1.symm⟩⟩
    obtain⟨hk',rfl,hd1,hd2⟩:=hall;have hk2:∀x,out.c=some x->(D7 cur (isR c) cs x).ok P:=λx hx=>hk _ (by rw[hk',hx];rfl);unfold Gp;simp only[ho];by_cases hpt:pt a cur
    .rw[ei (hw1.2 hpt)];refine⟨Zk e1,Ahj hI hL hpt e1 (λx hx=>Wd hL e2 (hk2 x hx) hpt) λv w' S' ρ' hA=>?_⟩;cases hd:o.dst with
     |some d=>obtain⟨g1,g2,rfl⟩:=hd1 d hd;exact hK _ _ ⟨hdef,by simp[Act.put,hsize],S',ρ',hA.inv,yJ hL hA.sub hA.same hA.pre (by rw[hsize];exact g1) g2 (λ_=>hA.rd) (λh=>absurd hpt h)⟩
     |none=>obtain⟨g1,rfl⟩:=hd2 hd;refine hK _ _ ⟨hdef,hsize,S',ρ',hA.inv,λe he=>?_⟩;obtain⟨g1,g2⟩:=hL e he;refine⟨λhp=>?_,g2⟩;obtain⟨x,hx,hr⟩:=g1 hp;exact⟨x,hx,hr.mono hA.sub hA.same hA.pre⟩
    .have hne:cur.isEmpty=false:=by
      cases hc:cur.isEmpty with
      |false=>rfl
      |true=>simp at hc;subst hc;exact absurd Bz hpt
     have hnw:¬(Region.wanted o (yielded ops a.tmps)=true):=λh=>hpt (hw1.1 h);rw[em hnw];unfold Ji at hg;rw[hne]at hg;simp only[bU,aa,aS,aO]at hg;obtain⟨ρ',hI',hpre⟩:=hI.skip (zC e1 hg.1 λhr x hx=>yE hL e2 hr hne (hg.2.resolve_left (by rw[hr];simp)) (hk2 x hx) hpt);cases hd:o.dst with
     |some d=>obtain⟨g1,g2,rfl⟩:=hd1 d hd;exact hK _ _ ⟨hdef,by simp[Act.put,hsize],S,ρ',hI',yJ hL (λ_ h=>h) (λ_ _=>rfl) hpre (by rw[hsize];exact g1) g2 (λh=>absurd h hpt) (λ_=>rfl)⟩
     |none=>have:=(hd2 hd).1;rw[hne]at this;cases this
  .cases h
theorem O5{n:Nat}{ops:Array Oper}{K:Act->World->Prop}:∀{is:ey}{L:List Ent}{R:List Res}{cls:List Cl}{L':List Ent}{R':List Res}{cs:List Cl}{a:Act}{w:World},
  Pw P n ops is L R cls=some (L',R',cs)->Da P cs->Sat n C L R a w->(∀a' w',Sat n C L' R' a' w'->K a' w')->C4 P ops K is a w
 | [],L,R,cls,L',R',cs,a,w,h,_,hs,hK=>by simp[Pw]at h;obtain⟨rfl,rfl,rfl⟩:=h;exact hK a w hs
 | i :: is, L, R, cls, L', R', cs, a, w, h, hok, hs, hK => by
  simp only[Pw]at h;split at h
  .cases h
  .rename_i o ho;show Gp P ops i (C4 P ops K is) a w;split at h
   .cases h
   .rename_i L1 R1 c1 e1;split at h
    .rename_i L2 R2 cs2 e2;simp at h;obtain⟨rfl,rfl,rfl⟩:=h;exact Pu ho e1 (λx hx=>by cases hx;exact hok.1) hs λa' w' hs'=>O5 e2 hok.2 hs' hK
    .cases h
   .rename_i L1 R1 e1;exact Pu ho e1 (λx hx=>by cases hx) hs λa' w' hs'=>O5 h hok hs' hK
end
end Go.SL
namespace Go.SL
structure Rec where
 i:Nat
 o:Oper
 need:List Ent
 cur:A_
 cs:List (Bool×Bool)
 c:Cl
 Rin:List Res
 out:Out
 eff:Bool
 r:Bool
 fl:Option Nat
def Ku(ops:Array Oper)(o:Oper):ey:=
  (o.op.operands.toList.filterMap fun|.tmp t=>some t|_=>none) ++
  (match o.guard with
   |none=>[]
   | some (j,_)=>match (ops[j]?).bind (·.dst) with
     |some t=>[t]
     |none=>[])
def H6(L:List Ent):ey->List Ent
 | []=>[]
 |t::r=>match Ds L t with
  |some e=>e::(e.p.filterMap λg=>Ds L g.1)++H6 L r
  |none=>H6 L r
def zJ:Cl->Bool
 |.call _ _ _ res _ _=>(res.ren λ_=>none).isSome
 |_=>false
def Aax:Cl->Bool
 |.callB ..=>true
 |_=>false
def Gq(c:Cl)(o:Oper):Bool:=
 match o.op with
 |.box .. | .alloc _|.store .. | .makeSlice ..=>false
 |.buildSlice ..=>!Mh c
 |.convert ..=>!isZ c
 |.call k=>match k.callee with
  |.builtin .append|.builtin .clear|.builtin .copy=>false
  |.builtin _=>true
  |_=>Aax c || (Ajk c&&zJ c)
 |_=>true
def Aa2(n:Nat)(o:Oper)(cur:A_):Bool:=
 match o.dst with
 |some d=>Nat.blt d n&&cur.all (λg=>!(Nat.beq g.1 d))
 |none=>cur.isEmpty
def Sy(P : Program)(L : List Ent)(cur : A_)(R : List Res)(c : Cl)(i : Nat)(o : Oper) : Option Out :=
 match o.op with
 | .makeSlice t l k=>match c,R[i]? with
  | .fltm _ c0 _ _,some r'=>match Kv l k,Lb P [] c0 t ((look L cur l).bind By) with
   |true,some out=>match out.R,out.c with
    | [r1],some c1=>some ⟨.d (.os i),R,some (.fltm i c1 r1 r')⟩
    |_,_=>none
   |_,_=>none
  |_,_=>none
 |.alloc t=>match (Dn P t).bind λz=>Fp z.cells.toList,R[i]? with
  |some cells,some r'=>some ⟨.d (.o i 0),R,some (.flt i (.box t cells) r')⟩
  |_,_=>none
 |_=>none
def Mi(o:Oper)(c:Cl):Option Nat:=
 match o.op with
 |.alloc _=>match c with
  |.flt i _ _=>some i
  |_=>none
 |.makeSlice ..=>match c with
  |.fltm i _ _ _=>some i
  |_=>none
 |_=>none
def Ws(P:Program)(L:List Ent)(cur:A_)(R:List Res)(c:Cl)(o:Oper):Option Out:=
 match Mi o c with
 |some i=>Sy P L cur R c i o
 |none=>H1 P L cur R c o
def P7(P : Program)(n : Nat)(ops : Array Oper) : ey -> List Ent -> List Res -> List Cl -> Option (List Rec × List Ent × List Res × List Cl)
 | [],L,R,_=>some ([],L,R,[])
 | i :: is, L, R, cls => match ops[i]? with
  |none=>none
  | some o=>
   let need:=H6 L (Ku ops o)
   match Gj ops need o with
   |none=>none
   | some cur=>
    let c:=cls.headD .nop
    match Ws P need cur R (C_ c) o,Fh need cur with
    | some out,some cs=>
     let L':=match o.dst with|some d=>Km L d cur out.v|none=>L
     bif Aa2 n o cur&&Ji need cur (isR c) (C_ c) o then
      match out.c with
      |some x=>match P7 P n ops is L' out.R cls.tail with
       |some (rs,L2,R2,ks)=>some (⟨i,o,need,cur,cs,C_ c,R,out,(Mi o (C_ c)).isNone && !Gq (C_ c) o,isR c,Mi o (C_ c)⟩::rs,L2,R2,D7 cur (isR c) cs x::ks)
       |none=>none
      |none=>match P7 P n ops is L' out.R cls with
       |some (rs,L2,R2,ks)=>some (⟨i,o,need,cur,cs,C_ c,R,out,(Mi o (C_ c)).isNone && !Gq (C_ c) o,isR c,Mi o (C_ c)⟩::rs,L2,R2,ks)
       |none=>none
     else none
    |_,_=>none
def Hc:ey->Nat->Bool
 | [],_=>false
 |a::r,t=>Nat.beq a t || Hc r t
def orE(l:ey):List Edge->Nat->Nat
 | [],m=>m
 |e::r,m=>orE l r (bif Region.binds .any e&&Nat.blt e.on l.length then Nat.lor m (Nat.lor (Nat.shiftLeft 1 e.on) ((l[e.on]?).getD 0)) else m)
def Qf(ops:Array Oper):Nat->ey
 |0=>[]
 | j+1=>
  let l:=Qf ops j
  l++[match ops[j]? with
   |some o=>orE l o.after.toList 0
   |none=>0]
def Acu(m i:Nat):Bool:=Nat.beq (Nat.land (Nat.shiftRight m i) 1) 1
def C9:List Ent->ey
 | []=>[]
 |e::r=>match e.v with
  |.d (.o i _)=>i::C9 r
  |.d (.os i)=>i::C9 r
  |.d (.oe i _ _ _)=>i::C9 r
  |.d (.osb i _ _ _)=>i::C9 r
  |.d (.oi i g _ _ _)=>i::g::C9 r
  |_=>C9 r
def Q0(R:List Res):ey->ey
 | []=>[]
 |i::r=>match R[i]? with
  |some (.dsl _ _ g)=>g::Q0 R r
  |_=>Q0 R r
def deepen(R:List Res)(l:ey):ey:=l++Q0 R l
def Lm(o:Op)(L:List Ent):ey:=
 match o with
 |.move _|.assign _|.nilCheck _|.fieldAddr .. | .extract .. | .pick .. | .build .. | .unOp ..=>[]
 |_=>C9 L
def qY:List D->ey
 | []=>[]
 |.os j::r=>j::qY r
 |_::r=>qY r
def Yw(R:List Res)(i:Nat):ey:=match R[i]? with
 |some (.vec _ _ cells)=>qY cells
 |_=>[]
def Ot(R:List Res):List D->ey
 | []=>[]
 |.os j::r=>j::(Yw R j++Ot R r)
 |_::r=>Ot R r
mutual
def D.touchV(R:List Res):D->ey
 |.os i=>i::Yw R i
 |.osb i _ _ _=>[i]
 |.oi _ g _ _ _=>[g]
 |.o i _=>i::(match R[i]? with
  |some (.box _ cells)=>Ot R cells
  |_=>[])
 |.fn _ a b=>d8 R a++d8 R b
 |_=>[]
def d8(R:List Res):List D->ey
 | []=>[]
 |d::r=>D.touchV R d++d8 R r
end
def AV.touchV(R:List Res):AV->ey
 |.d x=>x.touchV R
 |.agg ds=>d8 R ds
 |.tup _=>[]
def touchV(R:List Res):List Ent->ey
 | []=>[]
 |e::r=>e.v.touchV R++touchV R r
def Bdc(c:Cl)(R:List Res)(L:List Ent):ey:=bif Aax c then touchV R L else []
def Aju(o:Op)(c:Cl)(R:List Res)(L:List Ent):ey:=match o with
 |.call _=>Bdc c R L
 |_=>[]
def Oi(r:Rec):ey:=
 match r.fl with
 |some i=>[i]
 |none=>deepen r.Rin (Lm r.o.op r.need)++Aju r.o.op r.c r.Rin r.need
def vI(L:List Ent)(cur:A_):List Operand->ey
 |x::_=>match look L cur x with
  |some (.d (.os j))=>[j]
  |some (.d (.osb j _ _ _))=>[j]
  |_=>C9 L
 | []=>C9 L
def D2(r:Rec):ey:=
 match r.o.op with
 |.store _ a _=>match look r.need r.cur a with
  |some (.d (.o i _))=>[i]
  |some (.d (.oe i _ _ _))=>i::(deepen r.Rin (C9 r.need)++touchV r.Rin r.need)
  |_=>[]
 | .call k=>match k.callee with
  |.value _=>match r.c with
   |.call _ _ _ _ _ pi=>pi
   |_=>[]
  |.builtin .append=>vI r.need r.cur k.args.toList
  |.builtin .clear|.builtin .copy=>C9 r.need
  |_=>[]
 |_=>[]
def clear(need:List Ent)(d:Nat):Bool:=need.all λe=>!(Nat.beq e.t d)&&e.p.all λg=>!(Nat.beq g.1 d)
def Qu(r q:Rec):Bool:=
 (!r.eff || !q.eff) &&
 (match r.o.dst with|some d=>clear q.need d && !(q.cur.any λg=>Nat.beq g.1 d)&&(match q.o.dst with|some d'=>!(Nat.beq d d')|none=>true)|none=>true) &&
 (match q.o.dst with|some d=>clear r.need d|none=>true) &&
 (!r.eff || (Oi q).all λi=>!(Hc (D2 r) i)&&Nat.blt i r.Rin.length) &&
 (!q.eff || (Oi r).all λi=>!(Hc (D2 q) i)&&Nat.blt i q.Rin.length)
def Kj:List Rec->ey
 | []=>[]
 |r::rs=>match r.fl with
  |some i=>i::Kj rs
  |none=>Kj rs
def L4(lo hi:Nat)(rs:List Rec):Bool:=Fw (Kj rs)&&(Kj rs).all λi=>Nat.ble lo i&&Nat.blt i hi
def Lg(ops:Array Oper)(L0:List Ent)(rs:List Rec):Bool:=
 let cl:=Qf ops ops.size
 L0.all (λe=>e.p.isEmpty) &&
 (rs.all λr=>r.o.after.all λe=>!(Region.binds .any e) || Nat.blt e.on r.i) &&
 rs.all λr=>rs.all λq=>Nat.ble q.i r.i || (Acu ((cl[q.i]?).getD 0) r.i || Qu r q)
end Go.SL
namespace Go.SL
variable{res y:AV}{c:Cl}{f:FuncId}{args q vs:List AV}{cells ds:List D}{l:List Operand}{ps rw:List Pd}{ts:List TypeId}{b e g i i' j k n off s size:Nat}{o:Oper}{x:Operand}{out:Out}{v:Value}
section
variable{P:Program}{C:Ctx}{S S':Nat->Prop}{w w':World}{ρ ρ':eA}{R R':List Res}{L:List Ent}{cur:A_}{a:Act}
theorem yG:∀{L:List Ent}{e:Ent}{i off:Nat},e∈L->e.v=.d (.o i off)->i∈C9 L
 | x::r,e,i,off,h,hv=>by
  rcases ah.1 h with rfl|h
  .simp[C9,hv]
  .have:=yG h hv;unfold C9;split <;> simp[this]
 | [],_,_,_,h,_=>by cases h
theorem W8:∀{L:List Ent}{e:Ent}{i:Nat},e∈L->e.v=.d (.os i)->i∈C9 L
 | x::r,e,i,h,hv=>by
  rcases ah.1 h with rfl|h
  .simp[C9,hv]
  .have:=W8 h hv;unfold C9;split <;> simp[this]
 | [],_,_,h,_=>by cases h
theorem W9:∀{L:List Ent}{e:Ent}{i a b c:Nat},e∈L->e.v=.d (.oe i a b c)->i∈C9 L
 | x::r,e,i,a,b,c,h,hv=>by
  rcases ah.1 h with rfl|h
  .simp[C9,hv]
  .have:=W9 h hv;unfold C9;split <;> simp[this]
 | [],_,_,_,_,_,h,_=>by cases h
theorem W_:∀{L:List Ent}{e:Ent}{i a b c:Nat},e∈L->e.v=.d (.osb i a b c)->i∈C9 L
 | x::r,e,i,a,b,c,h,hv=>by
  rcases ah.1 h with rfl|h
  .simp[C9,hv]
  .have:=W_ h hv;unfold C9;split <;> simp[this]
 | [],_,_,_,_,_,h,_=>by cases h
theorem Uc:∀{L:List Ent}{e:Ent}{i g a b c:Nat},e∈L->e.v=.d (.oi i g a b c)->i∈C9 L/\g∈C9 L
 | x::r,e,i,g,a,b,c,h,hv=>by
  rcases ah.1 h with rfl|h
  .simp[C9,hv]
  .have:=Uc h hv;unfold C9;split <;> simp[this]
 | [],_,_,_,_,_,_,h,_=>by cases h
theorem Zd{i g e s:Nat}:∀{l:ey},i∈l->R[i]?=some (.dsl e s g)->g∈Q0 R l
 | [],h,_=>by cases h
 | j::l,h,hi=>by
  rcases ah.1 h with rfl|h
  .simp[Q0,hi]
  .have:=Zd h hi;unfold Q0;split <;> simp[this]
variable{l:ey}
theorem Akn(h:i∈l):i∈deepen R l:=bH _ h
theorem Adz(h:i∈l)(hi:R[i]?=some (.dsl e s g)):g∈deepen R l:=bD _ (Zd h hi)
theorem Re{a c:Nat}:L_ v≠some (.d (.o i off))/\L_ v≠some (.d (.os i))/\L_ v≠some (.d (.oe i a b c))/\L_ v≠some (.d (.osb i a b c))/\∀g,L_ v≠some (.d (.oi i g a b c)):=by
 unfold L_;split
 .refine⟨?_,?_,?_,?_,λ_=>?_⟩ <;> (cases Fp (_:Array Value).toList <;> simp)
 .simp
 grind[dOf]
theorem Ajr(h:look L cur x=some (.d (.o i off))):i∈C9 L:=by
 unfold look at h;split at h
 .exact absurd h (Re (a:=0) (b:=0) (c:=0)).1
 .split at h
  .rename_i e he;cases hb:G8 e.p cur with
   |false=>rw[hb]at h;simp at h
   |true=>rw[hb]at h;simp at h;exact yG (C5 he).1 h
  .cases h
 .simp at h
 .cases h
theorem Ahu(h:O6 L cur x=some (.d (.os i))):look L cur x=some (.d (.os i)):=by
 cases x with
 |global g=>simp only[O6]at h;obtain⟨cells,_,h2⟩:=Cv h;cases h2
 |_=>exact h
theorem Auv{a c:Nat}(h:O6 L cur x=some (.d (.osb i a b c))):look L cur x=some (.d (.osb i a b c)):=by
 cases x with
 |global g=>simp only[O6]at h;obtain⟨cells,_,h2⟩:=Cv h;cases h2
 |_=>exact h
theorem Ey(h:look L cur x=some (.d (.os i))):i∈C9 L:=by
 unfold look at h;split at h
 .exact absurd h (Re (off:=0) (a:=0) (b:=0) (c:=0)).2.1
 .split at h
  .rename_i e he;cases hb:G8 e.p cur with
   |false=>rw[hb]at h;simp at h
   |true=>rw[hb]at h;simp at h;exact W8 (C5 he).1 h
  .cases h
 .simp at h
 .cases h
theorem Ov(h:look L cur x=some (.d (.oe i k s off))):i∈C9 L:=by
 unfold look at h;split at h
 .exact absurd h (Re (off:=0)).2.2.1
 .split at h
  .rename_i e he;cases hb:G8 e.p cur with
   |false=>rw[hb]at h;simp at h
   |true=>rw[hb]at h;simp at h;exact W9 (C5 he).1 h
  .cases h
 .simp at h
 .cases h
theorem Ow(h:look L cur x=some (.d (.osb i k s off))):i∈C9 L:=by
 unfold look at h;split at h
 .exact absurd h (Re (off:=0)).2.2.2.1
 .split at h
  .rename_i e he;cases hb:G8 e.p cur with
   |false=>rw[hb]at h;simp at h
   |true=>rw[hb]at h;simp at h;exact W_ (C5 he).1 h
  .cases h
 .simp at h
 .cases h
theorem Aan(h:look L cur x=some (.d (.oi i g k s off))):i∈C9 L/\g∈C9 L:=by
 unfold look at h;split at h
 .exact absurd h ((Re (off:=0)).2.2.2.2 g)
 .split at h
  .rename_i e he;cases hb:G8 e.p cur with
   |false=>rw[hb]at h;simp at h
   |true=>rw[hb]at h;simp at h;exact Uc (C5 he).1 h
  .cases h
 .simp at h
 .cases h
theorem Fi:∀{l:List Operand}{avs:List AV}{av:AV},Cf L cur l=some avs->av∈avs->∃x,look L cur x=some av
 | [],avs,av,h,hm=>by simp[Cf]at h;subst h;cases hm
 | x::r,avs,av,h,hm=>by
  simp only[Cf]at h;split at h
  .rename_i v l h1 h2;simp at h;subst h;rcases ah.1 hm with rfl|hm
   .exact⟨x,h1⟩
   .exact Fi h2 hm
  .cases h
theorem Ado(h:∀i,AV.d (.os i)∈args->R[i]?=R'[i]?)(hg:∀i e s g,AV.d (.os i)∈args->R[i]?=some (.dsl e s g)->R[g]?=R'[g]?):Kc R args=Kc R' args:=by
 unfold Kc;split
 .rfl
 .rfl
 .rename_i i;rw[←h i (by simp)];split
  .rfl
  .rename_i e s g hd;rw[hg i e s g (by simp) hd]
  .rfl
  .rfl
 .rfl
 .rfl
theorem Adn{op:Op}(h0:∀i,i∈deepen R (Lm op L)->R[i]?=R'[i]?):Cg P L cur R c op=Cg P L cur R' c op:=by
 have h:∀i,i∈Lm op L->R[i]?=R'[i]?:=λi hi=>h0 i (Akn hi);have hgh:∀i e s g,i∈Lm op L->R[i]?=some (.dsl e s g)->R[g]?=R'[g]?:=λi e s g hi hd=>h0 g (Adz hi hd);cases op with
 | load t x=>
  by_cases hg:∃g,x=.global g
  .obtain⟨g,rfl⟩:=hg;rfl
  have e:∀R,Cg P L cur R c (.load t x)=Q5 P L cur R c t x:=λR=>by
   cases x with
   |global g=>exact absurd ⟨g,rfl⟩ hg
   |_=>rfl
  rw[e,e];unfold Q5;split
  .rename_i i off n e1 e2;rw[h i (Ajr e1)]
  .rfl
  .rename_i i k size off n e1 e2;rw[←h i (Ov e1)];split
   .rfl
   .rename_i e s g _ _ _ hd;rw[hgh i _ _ _ (Ov e1) hd]
   .rfl
   .rfl
  .rfl
 | binOp b t x y z=>
  simp only[Cg];unfold Aa1;split
  .rfl
  .split
   .rfl
   .rename_i i e1 e2;rw[h i (Ey e1)]
   .rfl
   .rfl
 | convert s d x=>
  simp only[Cg];unfold U7;split
  .rfl
  .split
   .split
    .rename_i i e1 e2;rw[h i (Ey e2)]
    .rfl
    .rfl
   .rfl
 | indexAddr t x i=>
  simp only[Cg];unfold Zn;split
  .rfl
  .rename_i e j ik n e1 e2 e3;rw[←h j (Ey (Ahu e2))];split
   .rfl
   .rename_i e s g _ _ _ hd;rw[hgh j _ _ _ (Ey (Ahu e2)) hd]
   .rfl
   .rfl
  .rename_i e j lo m s2 ik n e1 e2 e3;rw[←h j (Ow (Auv e2))]
  .rfl
  .rfl
  .rfl
  .rfl
 | call k=>
  simp only[Cg];split
  .split
   .rename_i args e1;split
    .split
     .rw[Ado (R':=R') (λi hi=>by
       obtain⟨x,hx⟩:=Fi e1 hi;exact h i (Ey hx)) (λi e s g hi hd=>by
       obtain⟨x,hx⟩:=Fi e1 hi;exact hgh i e s g (Ey hx) hd)]
     .rfl
     .rfl
    .rfl
    .rfl
   .rfl
  .rfl
 | slice t x lo hi mx=>
  cases mx with
  | none=>
   simp only[Cg];split
   .rfl
   .rename_i e i e1 e2;rw[h i (Ey e2)]
   .rename_i e i o0 n0 s0 e1 e2;rw[h i (Ow e2)]
   .rfl
   .rfl
   .rfl
  | some mx=>
   cases lo with
   |none=>rfl
   | some lo=>
    cases hi with
    |none=>rfl
    | some hi=>
     simp only[Cg];split
     .rename_i e i e1 e2;rw[h i (Ey e2)]
     .rfl
 |_=>rfl
mutual
theorem zH(f:Nat->Option Nat):∀(d d':D),D.ren (λ_=>none) d=some d'->D.ren f d=some d'
 |.p x,d',h=>h
 |.o i off,d',h=>by simp[D.ren]at h
 |.os i,d',h=>by simp[D.ren]at h
 |.oe i k s off,d',h=>by simp[D.ren]at h
 |.ip c,d',h=>h
 |.any,d',h=>h
 |.nq _,d',h=>h
 |.fb _ _,d',h=>h
 |.osb _ _ _ _,d',h=>by simp[D.ren]at h
 |.oi _ _ _ _ _,d',h=>by simp[D.ren]at h
 | .fn g a b,d',h=>by
  simp only[D.ren]at h ⊢;split at h
  .rename_i a' b' h1 h2;rw[Ny f a a' h1,Ny f b b' h2];exact h
  .cases h
theorem Ny(f:Nat->Option Nat):∀(l l':List D),D.renL (λ_=>none) l=some l'->D.renL f l=some l'
 | [],l',h=>h
 | d::r,l',h=>by
  simp only[D.renL]at h ⊢;split at h
  .rename_i d' r' h1 h2;rw[zH f d d' h1,Ny f r r' h2];exact h
  .cases h
end
mutual
theorem Z0(f:Nat->Option Nat):∀(d d':AV),AV.ren (λ_=>none) d=some d'->AV.ren f d=some d'
 | .d x,d',h=>by
  simp only[AV.ren]at h ⊢;split at h
  .rename_i y hy;rw[zH f x y hy];exact h
  .cases h
 | .agg ds,d',h=>by
  simp only[AV.ren]at h ⊢;split at h
  .rename_i y hy;rw[Ny f ds y hy];exact h
  .cases h
 | .tup l,d',h=>by
  simp only[AV.ren]at h ⊢;split at h
  .rename_i y hy;rw[Xm f l y hy];exact h
  .cases h
theorem Xm(f:Nat->Option Nat):∀(l l':List AV),AV.renL (λ_=>none) l=some l'->AV.renL f l=some l'
 | [],l',h=>h
 | d::r,l',h=>by
  simp only[AV.renL]at h ⊢;split at h
  .rename_i d' r' h1 h2;rw[Z0 f d d' h1,Xm f r r' h2];exact h
  .cases h
end
theorem U_(hn:Ajk c=true)(hc:zJ c=true)
  (h:Cx R args f c=some out):out.R=R/\Cx R' args f c=some {out with R:=R'}:=by
 unfold Ajk at hn;split at hn
 .rename_i g q1 q2 res R2 pi;simp only[aa,bu]at hn;obtain⟨rfl,rfl⟩:=hn;obtain⟨res',hres⟩:=Option.isSome_iff_exists.1 hc;unfold Cx at h ⊢;simp only at h ⊢;generalize hbb:(Nat.beq f g&&Fw []&&Nat.ble ([]:ey).length ([]:List Res).length)=bb at h ⊢;cases bb with
  |false=>simp at h
  | true=>
   simp only[eh]at h ⊢;split at h
   .rename_i a' Rp e1 e2;rw[e1];simp only[I2]at e2 ⊢;simp only[ae]at e2;subst e2;simp only[Ht,Z0 _ res res' hres]at h ⊢;simp at h;subst h;simp[Fx]
   .cases h
 .cases hn
theorem T0:∀{l:List D},(∀i,i∈qY l->R[i]?=R'[i]?)->Iq R l=Iq R' l
 | [],_=>rfl
 | d::r,h=>by
  have ih:Iq R r=Iq R' r:=T0 λi hi=>h i (by cases d <;> simp[qY,hi]);have hd:Qn R d=Qn R' d:=by
   cases d with
   |os i=>simp only[Qn];rw[h i (by simp[qY])]
   |_=>rfl
  simp only[Iq,ih,hd]
theorem W7(hi:R[i]?=some (.vec e s cells))(h:∀k,k∈Yw R i->R[k]?=R'[k]?):Yt R s cells=Yt R' s cells:=by unfold Yt;rw[T0 (R':=R') λk hk=>h k (by unfold Yw;rw[hi];exact hk)]
theorem Abx(h0:R[i]?=R'[i]?)(h:∀k,k∈Yw R i->R[k]?=R'[k]?):Ij R (.os i)=Ij R' (.os i):=by
 simp only[Ij];rw[←h0];split
 .rfl
 .rfl
 .rename_i e s cells hi;exact W7 hi h
 .rfl
theorem T3:∀{l:List D},(∀i,i∈Ot R l->R[i]?=R'[i]?)->Ir R l=Ir R' l
 | [],_=>rfl
 | d::r,h=>by
  have ih:Ir R r=Ir R' r:=T3 λi hi=>h i (by cases d <;> simp[Ot,hi]);have hd:Ij R d=Ij R' d:=by
   cases d with
   |os i=>exact Abx (h i (by simp[Ot])) λk hk=>h k (by simp[Ot,hk])
   |_=>rfl
  simp only[Ir,ih,hd]
mutual
theorem Xn{rw:List Pd}:∀{d:D},(∀i,i∈d.touchV R->R[i]?=R'[i]?)->d.view R rw=d.view R' rw
 |.p _,_=>rfl
 |.ip _,_=>rfl
 |.any,_=>rfl
 |.nq _,_=>rfl
 |.fb _ _,_=>rfl
 |.oe _ _ _ _,_=>rfl
 |.osb i _ _ _,h=>by simp only[D.view];rw[h i (by simp[D.touchV])]
 |.oi _ g _ _ _,h=>by simp only[D.view];rw[h g (by simp[D.touchV])]
 | .os i,h=>by
  have h0:=h i (by simp[D.touchV]);simp only[D.view];rw[←h0];split
  .rfl
  .rfl
  .rename_i e s cells hi;rw[W7 hi λk hk=>h k (by simp[D.touchV,hk])]
  .rfl
 | .o i off,h=>by
  have h0:=h i (by simp[D.touchV]);simp only[D.view];rw[←h0];cases hi:R[i]? with
  |none=>rfl
  | some r=>cases r with
   |box t cells=>simp only;rw[T3 (R':=R') λk hk=>h k (by simp only[D.touchV,hi];exact am _ hk)]
   |_=>rfl
 |.fn g a b,h=>by have h1:=Li (rw:=rw) (l:=a) λi hi=>h i (by simp only[D.touchV];exact bH _ hi);have h2:=Li (rw:=rw) (l:=b) λi hi=>h i (by simp only[D.touchV];exact bD _ hi);simp only[D.view,h1,h2]
theorem Li{rw:List Pd}:∀{l:List D},(∀i,i∈d8 R l->R[i]?=R'[i]?)->D.viewL R rw l=D.viewL R' rw l
 | [],_=>rfl
 |d::r,h=>by have h1:=Xn (rw:=rw) (d:=d) λi hi=>h i (by simp only[d8];exact bH _ hi);have h2:=Li (rw:=rw) (l:=r) λi hi=>h i (by simp only[d8];exact bD _ hi);simp only[D.viewL,h1,h2]
end
variable{x:AV}
theorem Agp(h:∀i,i∈x.touchV R->R[i]?=R'[i]?):x.view R rw=x.view R' rw:=by
 cases x with
 |d x=>simp only[AV.view];rw[Xn (R':=R') h]
 |agg l=>simp only[AV.view];rw[Li (R':=R') h]
 |tup l=>rfl
theorem T8{rw:List Pd}:∀{l:List AV},(∀x,x∈l->∀i,i∈x.touchV R->R[i]?=R'[i]?)->AV.viewL R rw l=AV.viewL R' rw l
 | [],_=>rfl
 |x::r,h=>by have h1:=Agp (rw:=rw) (x:=x) (h x an);have h2:=T8 (rw:=rw) (l:=r) λy hy=>h y (am _ hy);simp only[AV.viewL,h1,h2]
theorem Yx{e:Ent}{i:Nat}:∀{L:List Ent},e∈L->i∈e.v.touchV R->i∈touchV R L
 | [],h,_=>by cases h
 |x::r,h,hi=>by
  simp only[touchV];rcases ah.1 h with rfl|h
  .exact bH _ hi
  .exact bD _ (Yx h hi)
theorem Ahl{i:Nat}:∀{l:eA}{ds:List D},Fp l=some ds->i∉d8 R ds
 | [],ds,h=>by grind[Fp,d8]
 | v::l,ds,h=>by
  simp only[Fp]at h;split at h
  .rename_i d r h1 h2;simp at h;subst h;unfold dOf at h1;cases hb:v.oneCell' with
   |false=>rw[hb]at h1;simp at h1
   |true=>rw[hb]at h1;simp at h1;subst h1;simpa[d8,D.touchV]using Ahl h2
  .cases h
theorem Ale(h:L_ v=some x):i∉x.touchV R:=by
 unfold L_ at h;split at h
 .cases hd:Fp (_:Array Value).toList with
  |none=>rw[hd]at h;cases h
  |some ds=>grind[AV.touchV,Ahl]
 .cases h
 .cases hd:dOf v with
  |none=>rw[hd]at h;cases h
  |some d=>
   rw[hd]at h;simp at h;subst h;unfold dOf at hd;cases hb:v.oneCell' with
   |false=>rw[hb]at hd;simp at hd
   |true=>rw[hb]at hd;simp at hd;subst hd;simp[AV.touchV,D.touchV]
variable{v:AV}
theorem Iu{x:Operand}(h:look L cur x=some v)(hi:i∈v.touchV R):i∈touchV R L:=by
 unfold look at h;split at h
 .exact absurd hi (Ale h)
 .split at h
  .rename_i e he;cases hb:G8 e.p cur with
   |false=>rw[hb]at h;simp at h
   |true=>rw[hb]at h;simp at h;subst h;exact Yx (C5 he).1 hi
  .cases h
 .simp at h;subst h;simp[AV.touchV,D.touchV,d8]at hi
 .cases h
theorem Vh{d:D}:d.norm.touchV R=d.touchV R:=by unfold D.norm;split <;> rfl
theorem T7:∀{l:List D},d8 R (l.map D.norm)=d8 R l
 | []=>rfl
 |d::r=>by simp only[bv,d8,Vh,T7]
theorem Agt:x.norm.touchV R=x.touchV R:=by
 cases x with
 |d x=>exact Vh
 |agg l=>exact T7
 |tup l=>rfl
theorem Nv{g k:Nat}:∀{d:D},(g,k)∈d.ois->g∈d.touchV R
 |.oi _ _ _ _ _,h=>by simp[D.ois]at h;simp[D.touchV,h.1]
 | .fn f a b,h=>by
  have key:∀{l:List D},(∀d,d∈l->(g,k)∈d.ois->g∈d.touchV R)->(g,k)∈dl l->g∈d8 R l:=by
   intro l;induction l with
   |nil=>intro _ h;simp[dl]at h
   |cons d l ih=>intro hh h;simp only[dl,aw]at h;simp only[d8,aw];grind
  simp only[D.ois,aw]at h;simp only[D.touchV,aw];rcases h with h|h
  .exact .inl (key (λd _ h=>Nv h) h)
  .exact .inr (key (λd _ h=>Nv h) h)
 |.p _,h=>by simp[D.ois]at h
 |.o _ _,h=>by simp[D.ois]at h
 |.os _,h=>by simp[D.ois]at h
 |.oe _ _ _ _,h=>by simp[D.ois]at h
 |.osb _ _ _ _,h=>by simp[D.ois]at h
 |.ip _,h=>by simp[D.ois]at h
 |.any,h=>by simp[D.ois]at h
 |.nq _,h=>by simp[D.ois]at h
 |.fb _ _,h=>by simp[D.ois]at h
theorem Um{g k:Nat}:∀{l:List D},(g,k)∈dl l->g∈d8 R l
 | [],h=>by simp[dl]at h
 |d::l,h=>by simp only[dl,aw]at h;simp only[d8,aw];exact h.imp Nv Um
theorem Xf{g k:Nat}:∀{l:List AV},(g,k)∈oisL l->∃x,x∈l/\g∈x.touchV R
 | [],h=>by simp[oisL]at h
 | x::l,h=>by
  simp only[oisL,aw]at h;rcases h with h|h
  .refine⟨x,an,?_⟩;cases x with
   |d x=>exact Nv h
   |agg l=>exact Um h
   |tup l=>simp[AV.ois]at h
  .obtain⟨y,h1,h2⟩:=Xf h;grind
theorem T6{g:FuncId}{rows:List (List Pd)}(ht:∀x,x∈args->∀i,i∈x.touchV R->R[i]?=R'[i]?)
  (h:Cx R args f (.callB g q res rows k rw)=some out):out.R=R/\Cx R' args f (.callB g q res rows k rw)=some {out with R:=R'}:=by
 simp only[Cx]at h ⊢;generalize (Nat.beq f g&&res.flat)=bb at h ⊢;have hview:∀rw,AV.viewL R rw (args.map AV.norm)=AV.viewL R' rw (args.map AV.norm):=λrw=>T8 (R:=R) (R':=R') (l:=args.map AV.norm) λx hx i hi=>by obtain⟨y,hy,rfl⟩:=aA.1 hx;rw[Agt]at hi;exact ht y hy i hi
 cases bb with
 |false=>simp at h
 | true=>
  simp only[eh]at h ⊢;split at h
  .rw[←hview];split at h
   .grind
   .cases h
  .rename_i g0 k0 ho;obtain⟨x,h1,h2⟩:=Xf (R:=R) (l:=args) (g:=g0) (k:=k0) (by rw[ho];simp);rw[←hview,←ht x h1 g0 h2];split at h
   .grind
   .cases h
  .cases h
variable{l:List Operand}
theorem Ade{g:Fn}{first caps:List D}{f:Operand}(e1:look L cur f=some (.d (.fn g first caps)))(e2:Cf L cur l=some args)
  (hx:x∈first.map AV.d++args++caps.map AV.d)(hi:i∈x.touchV R):i∈touchV R L:=by
 have hd:∀{ds:List D}{d:D},d∈ds->i∈d.touchV R->i∈d8 R ds:=by
  intro ds;induction ds with
  |nil=>intro d h;cases h
  |cons a r ih=>intro d h hi;simp only[d8];grind
 rcases aw.1 hx with hx|hx
 .rcases aw.1 hx with hx|hx
  .obtain⟨d,hm,rfl⟩:=aA.1 hx;exact Iu e1 (by simp only[AV.touchV,D.touchV];exact bH _ (hd hm hi))
  .obtain⟨z,hz⟩:=Fi e2 hx;exact Iu hz hi
 .obtain⟨d,hm,rfl⟩:=aA.1 hx;exact Iu e1 (by simp only[AV.touchV,D.touchV];exact bD _ (hd hm hi))
theorem yH{i:Nat}:∀{ps:List Pd},i∉d8 R (ps.map D.p)
 | [],h=>by simp[d8]at h
 |p::ps,h=>by simp only[bv,d8,D.touchV,bG]at h;exact yH h
theorem Adh(e2:Cf L cur l=some args)
  (hx:x ∈ .agg (ps.map D.p)::args)(hi:i∈x.touchV R):i∈touchV R L:=by
 rcases ah.1 hx with rfl|hx
 .exact absurd hi yH
 .obtain⟨z,hz⟩:=Fi e2 hx;exact Iu hz hi
theorem Xd(hq : Gq c o = true)(ht0 : ∀i, i ∈ deepen R (Lm o.op L) ++ Aju o.op c R L -> R[i]?=R'[i]?)(h : H1 P L cur R c o = some out) :
    out.R=R/\H1 P L cur R' c o=some {out with R:=R'}:=by
  have ht:∀i,i∈deepen R (Lm o.op L)->R[i]?=R'[i]?:=λi hi=>ht0 i (bH _ hi);unfold H1 at h ⊢;rw[←Adn ht];split at h
  · rename_i v k hv;simp at h;subst h;exact⟨rfl,rfl⟩
  · rename_i hv;obtain⟨dst,op,type,pos,after,guard⟩:=o;simp only at h ⊢;cases op with
    |box t x=>simp[Gq]at hq
    |alloc t=>simp[Gq]at hq
    |store t x y=>simp[Gq]at hq
    |makeSlice t x y=>simp[Gq]at hq
    | convert s d x=>
      simp only[Gq,aO]at hq;simp only at h ⊢;have hO:∀R' x,N8 P R' c s d x=none:=λR' x=>by
        unfold N8;split
        · simp [isZ]at hq
        · rfl
      have hB:∀R' x,N9 P R' c s d x=none:=λR' x=>by
        unfold N9;split
        · simp [isZ]at hq
        · rfl
      unfold L6 at h ⊢;rw[hO,hB]at h ⊢;split at h
      · rename_i o1 h0;cases h;unfold U9 at h0 ⊢;split at h0
        · split at h0
          · rename_i he;simp at h0;subst h0;exact⟨rfl,rfl⟩
          · cases h0
        · cases h0
      · cases h
    | buildSlice t len parts=>
      simp only[Gq,aO]at hq;simp only at h ⊢;split at h
      · rename_i ps e1;unfold He at h ⊢;rw[hq]at h ⊢;split at h
        · rename_i e hu;split at h
          · rename_i size zs e2 e3;cases hb:(Nat.beq zs.length (size+1)&&Nat.ble (len*(size+1)) 16777216) with
            |false=>rw[hb]at h;simp at h
            | true=>
              rw[hb]at h;simp only[eh,eg]at h ⊢;split at h
              · rename_i pd hpd;simp at h;subst h;exact⟨rfl,rfl⟩
              · simp at h
          · cases h
        · cases h
      · cases h
    | call kk=>
      obtain⟨callee,cargs,argTypes⟩:=kk;cases callee with
      |invoke r m=>simp at h
      |builtin b=>cases b <;> first|(simp[Gq]at hq;done)|(simp at h;done)
      | value f=>
        simp only[Gq,aS,aa]at hq;simp only at h ⊢;split at h
        · rename_i g first caps args e1 e2;cases c with
          | callB g' q res rows k rw=>exact T6 (λx hx i hi=>ht0 i (bD _ (Ade e1 e2 hx hi))) h
          | _=>first
            | (rcases hq with hq|hq
               · simp [Aax]at hq
               · exact U_ hq.1 hq.2 h)
        · rename_i g ps args e1 e2;cases c with
          | callB g' q res rows k rw=>exact T6 (λx hx i hi=>ht0 i (bD _ (Adh (ps:=ps) e2 hx hi))) h
          | _=>first
            | (rcases hq with hq|hq
               · simp [Aax]at hq
               · exact U_ hq.1 hq.2 h)
        · cases h
    |_=>simp at h
theorem Ou:∀{l:ey}{t:Nat},Hc l t=true↔t∈l
 | [],t=>by simp[Hc]
 | a::r,t=>by
  simp only[Hc,aS,ah,Ou];constructor
  .rintro (h|h)
   .exact .inl (af h).symm
   .exact .inr h
  .rintro (h|h)
   .subst h;exact .inl (by simp)
   .exact .inr h
theorem Aap(h:Ck P R c ts [.d (.os j),y]=some out)(hi:i<R.length)(hj:i≠j):out.R[i]?=R[i]?:=by
 match ts,h with
 | [t,u],h=>
  simp only[Ck]at h;cases hts2:Nat.beq t u with
  |false=>rw[hts2]at h;simp at h
  |true=>
   rw[hts2]at h;simp only[eh]at h;split at h
   .grind
   .cases h
 | [],h=>simp[Ck]at h
 | [_],h=>simp[Ck]at h
 |_::_::_::_,h=>simp[Ck]at h
theorem uQ(h:Jl P R c ts i' g k size off y=some out)(hi:i<R.length)(h1:i≠i')(h2:i≠g):out.R[i]?=R[i]?:=by
 unfold Jl at h;split at h
 .split at h
  .generalize ((_&&_:Bool))=bb at h;cases bb with
   |false=>simp at h
   | true=>
    simp only[eh]at h;split at h
    .rename_i v' R' a b z m r' hap;simp at h;subst h;have:=Aap (i:=i) hap (by simp;omega) (by omega);grind
    .cases h
  .cases h
 .cases h
theorem uP(h:M1 P R c ts i' n s y=some out)(h1:i≠i'):out.R[i]?=R[i]?:=by
 unfold M1 at h;split at h
 .grind
 .cases h
theorem Xj{lo:Nat}{a:Operand}(h:Px R x=some (i,lo,n,s))(hl:look L cur a=some x):i∈C9 L:=by
 unfold Px at h;split at h
 .split at h
  .simp at h;obtain⟨rfl,_⟩:=h;exact Ey hl
  .cases h
 .simp at h;obtain⟨rfl,_⟩:=h;exact Ow hl
 .cases h
theorem Adq(h:N_ P R c ts args=some out)(hl:Cf L cur l=some args)(h1:i∉C9 L):out.R[i]?=R[i]?:=by
 unfold N_ at h;split at h
 .rename_i x;split at h
  .split at h
   .rename_i hd;split at h
    .generalize ((_&&_:Bool))=bb at h;cases bb with
     |false=>simp at h
     |true=>simp only[eh,ae]at h;subst h;obtain⟨z,hz⟩:=Fi hl (av:=x) (by simp);have:=Xj hd hz;grind
    .cases h
   .cases h
  .cases h
 .cases h
theorem Ag0(h:Q6 P R c ts args=some out)(hl:Cf L cur l=some args)(h1:i∉C9 L):out.R[i]?=R[i]?:=by
 unfold Q6 at h;split at h
 .rename_i x y;split at h
  .split at h
   .rename_i hd;split at h
    .generalize ((_&&_:Bool))=bb at h;cases bb with
     |false=>simp at h
     |true=>simp only[eh,ae]at h;subst h;obtain⟨z,hz⟩:=Fi hl (av:=x) (by simp);have:=Xj hd hz;grind
    .cases h
   .cases h
  .cases h
 .cases h
theorem Agz(h:Q4 R c o i' k size off ds n=some out)(hi:i<R.length)(h1:i≠i')(h2:∀e s g,R[i']?=some (.dsl e s g)->i≠g)(h3:∀m,ds=[.os m]->i≠m):out.R[i]?=R[i]?:=by
 unfold Q4 at h;split at h
 next e s g m q1 q2 q3 row q4 rows' hj=>grind
 next=>cases h
theorem Agy(h:Q3 R c o i' k size off ds n=some out)(h1:i≠i')(h3:∀m,ds=[.os m]->i≠m):out.R[i]?=R[i]?:=by
 unfold Q3 at h;split at h
 .grind
 .split at h
  .rename_i m;have hm:=h3 m rfl;split at h
   .cases hb:Nat.beq m i' with
    |true=>rw[hb]at h;simp at h
    |false=>rw[hb]at h;simp only[eg]at h;unfold Pv at h;grind
   .cases h
  .cases h
theorem K7(h:Cf L cur l=some (v::vs)):∃x xs,l=x::xs/\look L cur x=some v:=by
 match l,h with
 | [],h=>cases h
 |x::xs,h=>refine⟨x,xs,rfl,?_⟩;simp only[Cf]at h;grind
theorem Ao5{cs : List (Bool × Bool)}(h : H1 P L cur R c o = some out)(hi : i < R.length)(hw : i ∉ D2 ⟨0, o, L, cur, cs, c, R, out, true, false, none⟩) : out.R[i]?=R[i]? := by
  unfold H1 at h;split at h
  · simp at h;subst h;rfl
  · obtain ⟨dst, op, type, pos, after, guard⟩ := o;simp only at h;cases op with
    | box t x=>
      simp only at h;split at h
      · generalize (Nat.beq _ _)=bb at h;cases bb with
        |false=>simp at h
        |true=>simp at h;subst h;simp[ew hi]
      · cases h
    | alloc t=>
      simp only at h;split at h
      · simp at h;subst h;simp[ew hi]
      · cases h
    | store t x y =>
      simp only at h;cases hc:cur.isEmpty with
      |false=>rw[hc]at h;simp at h
      | true=>
        rw[hc]at h;simp only[eh]at h;split at h
        · rename_i j off ds n e1 e2 e3;split at h
          · generalize (Nat.beq _ _&&Nat.ble _ _&&Option.isNone _)=bb at h;cases bb with
            |false=>simp at h
            | true=>simp at h;subst h;simp only[D2,e1,aM]at hw;simp only;rw[bz (ba hw)]
          · cases h
        · rename_i j k size off ds n e1 e2 e3;simp only[D2,e1,ah,not_or]at hw;obtain⟨hw1,hw2⟩:=hw;split at h
          · rename_i out' hput;simp at h;subst h;unfold Pv at hput;split at hput
            · generalize (Nat.beq _ _&&(Nat.beq _ _&&(Nat.ble _ _&&Option.isNone _)))=bb at hput;cases bb with
              |false=>simp at hput
              | true=>simp at hput;subst hput;simp only;rw[bz (ba hw1)]
            · cases hput
          · have hms:∀m,ds=[.os m]->i≠m:=by
              intro m hds;rintro rfl;subst hds;refine hw2 (bD _ ?_);obtain⟨av,h1,h2⟩:=Dt e2;cases av with
              |d x=>simp[G9]at h2;subst h2;exact Iu h1 (by simp[AV.touchV,D.touchV])
              |agg l=>simp[G9]at h2;subst h2;exact Iu h1 (by simp[AV.touchV,D.touchV,d8])
              |tup l=>simp[G9]at h2
            split at h
            · rename_i out' hput;simp at h;subst h;refine Agz hput hi hw1 (λe s g hj=>?_) hms;rintro rfl;exact hw2 (bH _ (Adz (Ov e1) hj))
            · exact Agy h hw1 hms
        · cases h
    | buildSlice t len parts=>
      simp only at h;split at h
      · unfold He at h;split at h
        · split at h
          · generalize (Nat.beq _ _&&Nat.ble _ _)=bb at h;cases bb with
            |false=>simp at h
            | true=>
              simp only[eh]at h;split at h
              · cases ho:Mh c with
                |true=>rw[ho]at h;simp at h;subst h;simp[ew hi]
                |false=>rw[ho]at h;simp at h;subst h;rfl
              · generalize Mh c=bb at h;cases bb with
                |false=>simp at h
                |true=>obtain⟨ds,_,rfl⟩:=Cv h;simp[ew hi]
          · cases h
        · cases h
      · cases h
    | convert s d x=>
      simp only at h;rcases zD h with e|⟨r,e⟩
      · rw [e]
      · rw [e,ax hi]
    | makeSlice t x y=>
      simp only at h;generalize (Kv x y)=bb at h;cases bb with
      |false=>simp at h
      | true=>
        simp only[eh]at h;unfold Lb at h;split at h
        · split at h
          · split at h
            · generalize (Nat.beq _ _)=bb at h;cases bb with
              |false=>simp at h
              |true=>simp at h;subst h;simp[ew hi]
            · cases h
          · cases h
        · split at h
          · split at h
            · generalize (Nat.beq _ _&&_)=bb at h;cases bb with
              |false=>simp at h
              |true=>simp at h;subst h;simp[ew hi]
            · cases h
          · cases h
        · cases h
    | call kk =>
      obtain⟨callee,cargs,argTypes⟩:=kk;cases callee with
      |invoke r m=>simp at h
      | builtin b=>
        cases b <;> first
          |(simp at h;done)
          | (simp only at h
             split at h
             · rename_i args e1
               first
                 |exact Adq h e1 (by simpa[D2]using hw)
                 |exact Ag0 h e1 (by simpa[D2]using hw)
             · cases h
             done)
          | (simp only at h
             split at h
             · rename_i i' g q size off y e1;have hall:=e1;obtain⟨z,hz⟩:=Fi e1 (av:=.d (.oi i' g q size off)) (by simp);obtain⟨hi1,hg1⟩:=Aan hz;obtain⟨x0,xs0,hx0,hv0⟩:=K7 e1;have hii:i≠i':=by rintro rfl;exact hw (by simpa[D2,hx0,vI,hv0]using hi1)
               have hig:i≠g:=by rintro rfl;exact hw (by simpa[D2,hx0,vI,hv0]using hg1)
               exact uQ h hi hii hig
             · rename_i i' n s y e1;obtain⟨z,hz⟩:=Fi e1 (av:=.d (.osb i' 0 n s)) (by simp);obtain⟨x0,xs0,hx0,hv0⟩:=K7 e1;have hii:i≠i':=by rintro rfl;exact hw (by simp[D2,hx0,vI,hv0])
               unfold M3 at h;split at h
               · exact uP h hii
               · obtain⟨r0,hr0⟩:=Vd h;rw[hr0,ax (by simpa using hi),bz (ba hii)]
             · rename_i args _ _ e1;unfold M4 at h;split at h
               rotate_left
               · split at h
                 · rename_i o1 hap;simp only[ae]at h;subst h;rcases Vb hap with⟨r1,r2,hr,_⟩|⟨i1,y,r,ha,hr⟩
                   · rw [hr,ax hi]
                   · subst ha;obtain⟨x0,xs0,hx0,hv0⟩:=K7 e1;have hii:i≠i1:=by rintro rfl;exact hw (by simp[D2,hx0,vI,hv0])
                     rw[hr,ax (by simpa using hi),bz (ba hii)]
                 · obtain⟨r,hr⟩:=Ve h;rw[hr,ax hi]
               rename_i o1 hap;simp only[ae]at h;subst h;have h:=hap;clear hap;unfold Ck at h;split at h
               · rename_i t u x y hts;generalize (Nat.beq _ _)=bb at h;cases bb with
                 |false=>simp at h
                 | true=>
                   simp only[eh]at h;split at h
                   · split at h
                     · split at h
                       · generalize (Nat.beq _ _)=bb at h;cases bb with
                         |false=>simp at h
                         | true=>
                           simp only[eh]at h;split at h
                           · simp at h;subst h;simp[ew hi]
                           · rename_i j;split at h
                             · generalize (Nat.beq _ _&&Nat.beq _ _)=bb at h;cases bb with
                               |false=>simp at h
                               | true=>simp at h;subst h;obtain⟨z,hz⟩:=Fi e1 (av:=.d (.os _)) an;have hj:=Ey hz;simp only;rw[ax (by simpa using hi),bz];rintro rfl;refine hw ?_;obtain⟨x0,xs0,hx0,hv0⟩:=K7 e1;simp[D2,hx0,vI,hv0]
                             · cases h
                           · cases h
                       · cases h
                     · cases h
                   · cases h
               · cases h
             · cases h)
      | value f =>
        simp only at h;split at h
        · rename_i g first caps args e1 e2;cases c with
          | call f' q1 q2 res R2 pi =>
            simp only[Cx]at h;generalize (Nat.beq g f'&&Fw pi&&Nat.ble pi.length R2.length)=bb at h;cases bb with
            |false=>simp at h
            | true=>
              simp only[eh]at h;split at h
              · split at h
                · rename_i Rp2 res2 RR e3 e4 e5;simp at h;subst h;simp only[D2]at hw;simp only;rw[ax (by rw[Fa];exact hi)];cases hg:R[i]? with
                  |none=>rw[List.getElem?_eq_none_iff]at hg;omega
                  | some r=>
                    have hlt:i<(Fx R pi RR).length:=by rw[Fa];exact hi
                    rcases Nr pi R _ i _ (ak hlt) with⟨j,h1,_⟩|⟨h1,_⟩
                    · exact absurd (ag h1) hw
                    · rw [ak hlt,←h1,hg]
                · cases h
              · cases h
          | callB f' q1 res rows0 k0 rw0=>
            simp only[Cx]at h;generalize (Nat.beq g f'&&res.flat)=bb at h;cases bb with
            |false=>simp at h
            | true=>
              simp only[eh]at h;split at h
              · split at h
                · simp at h;subst h;rfl
                · cases h
              · split at h
                · simp at h;subst h;rfl
                · cases h
              · cases h
          |_=>simp[Cx]at h
        · rename_i g ps args e1 e2;cases c with
          | call f' q1 q2 res R2 pi =>
            simp only[Cx]at h;generalize (Nat.beq g f'&&Fw pi&&Nat.ble pi.length R2.length)=bb at h;cases bb with
            |false=>simp at h
            | true=>
              simp only[eh]at h;split at h
              · split at h
                · rename_i Rp2 res2 RR e3 e4 e5;simp at h;subst h;simp only[D2]at hw;simp only;rw[ax (by rw[Fa];exact hi)];cases hg:R[i]? with
                  |none=>rw[List.getElem?_eq_none_iff]at hg;omega
                  | some r=>
                    have hlt:i<(Fx R pi RR).length:=by rw[Fa];exact hi
                    rcases Nr pi R _ i _ (ak hlt) with⟨j,h1,_⟩|⟨h1,_⟩
                    · exact absurd (ag h1) hw
                    · rw [ak hlt,←h1,hg]
                · cases h
              · cases h
          | callB f' q1 res rows0 k0 rw0=>
            simp only[Cx]at h;generalize (Nat.beq g f'&&res.flat)=bb at h;cases bb with
            |false=>simp at h
            | true=>
              simp only[eh]at h;split at h
              · split at h
                · simp at h;subst h;rfl
                · cases h
              · split at h
                · simp at h;subst h;rfl
                · cases h
              · cases h
          |_=>simp[Cx]at h
        · cases h
    |_=>simp at h
end
end Go.SL
namespace Go.SL
variable{ops:Array Oper}{rs:List Rec}{i n:Nat}{X:Nat->Bool}{r:Rec}
section
variable{P:Program}{C:Ctx}{S S':Nat->Prop}{w w':World}{ρ ρ':eA}{R R':List Res}{L L':List Ent}{a:Act}
structure Aba(P:Program)(n:Nat)(ops:Array Oper)(r:Rec):Prop where
 op:ops[r.i]?=some r.o
 guard:Gj ops r.need r.o=some r.cur
 cs:Fh r.need r.cur=some r.cs
 ev:r.fl=none->H1 P r.need r.cur r.Rin r.c r.o=some r.out
 flo:∀i,r.fl=some i->Sy P r.need r.cur r.Rin r.c i r.o=some r.out
 dst:∀d,r.o.dst=some d->d<n/\r.cur.all (λg=>!(Nat.beq g.1 d))=true
 nodst:r.o.dst=none->r.cur.isEmpty=true
 ok:∀x,r.out.c=some x->(D7 r.cur r.r r.cs x).ok P
 gb:Ji r.need r.cur r.r r.c r.o=true
 eff:r.eff=(r.fl.isNone && !Gq r.c r.o)
def Ajm(L:List Ent)(r:Rec):List Ent:=match r.o.dst with|some d=>Km L d r.cur r.out.v|none=>L
def Kk(P:Program)(n:Nat)(ops:Array Oper):List Ent->List Res->List Rec->List Ent->List Res->Prop
 |L,R,[],L',R'=>L=L'/\R=R'
 |L,R,r::rs,L',R'=>Aba P n ops r/\r.Rin=R/\(∀e,e∈r.need->e∈L)/\Kk P n ops (Ajm L r) r.out.R rs L' R'
theorem Nw:∀{ts:ey}{e:Ent},e∈H6 L ts->e∈L
 | [],e,h=>by simp[H6]at h
 | t :: ts, e, h => by
  simp only[H6]at h;split at h
  .rename_i x hx;rcases ah.1 h with rfl|h
   .exact(C5 hx).1
   .rcases aw.1 h with h|h
    .rw[List.mem_filterMap]at h;obtain⟨g,_,hg⟩:=h;exact(C5 hg).1
    .exact Nw h
  .exact Nw h
theorem Sa{n : Nat}{ops : Array Oper} : ∀{is : ey}{L : List Ent}{R : List Res}{cls : List Cl}{rs : List Rec}{L' : List Ent}{R' : List Res}{ks : List Cl},
  P7 P n ops is L R cls=some (rs,L',R',ks)->Da P ks->Kk P n ops L R rs L' R'/\rs.map (·.i)=is
 | [],L,R,cls,rs,L',R',ks,h,_=>by simp[P7]at h;obtain⟨rfl,rfl,rfl,rfl⟩:=h;exact⟨⟨rfl,rfl⟩,rfl⟩
 | i :: is, L, R, cls, rs, L', R', ks, h, hok => by
  simp only[P7]at h;split at h
  .cases h
  .rename_i o ho;split at h
   .cases h
   .rename_i cur hcur;split at h
    .rename_i out cs e1 e2;cases hb:(Aa2 n o cur&&Ji (H6 L (Ku ops o)) cur (isR (cls.headD .nop)) (C_ (cls.headD .nop)) o) with
     |false=>rw[hb]at h;simp at h
     | true=>
      rw[hb]at h;simp only[aa]at hb;obtain⟨hb,hgb⟩:=hb;unfold Aa2 at hb;simp only[eh]at h;have hev1:Mi o (C_ (cls.headD .nop))=none->H1 P (H6 L (Ku ops o)) cur R (C_ (cls.headD .nop)) o=some out:=by intro hf;unfold Ws at e1;rw[hf]at e1;exact e1
      have hev2:∀j,Mi o (C_ (cls.headD .nop))=some j->Sy P (H6 L (Ku ops o)) cur R (C_ (cls.headD .nop)) j o=some out:=by intro j hf;unfold Ws at e1;rw[hf]at e1;exact e1
      have hdst:∀d,o.dst=some d->d<n/\cur.all (λg=>!(Nat.beq g.1 d))=true:=by intro d hd;rw[hd]at hb;simp only[aa]at hb;exact⟨by have:=hb.1;simpa[eu]using this,hb.2⟩
      have hnod:o.dst=none->cur.isEmpty=true:=by intro hd;rw[hd]at hb;exact hb
      split at h
      .rename_i x hx;split at h
       .rename_i rs2 L2 R2 ks2 e3;simp only[ae,al]at h;obtain⟨rfl,rfl,rfl,rfl⟩:=h;obtain⟨g1,g2⟩:=Sa e3 hok.2;exact⟨⟨⟨ho,hcur,e2,hev1,hev2,hdst,hnod,λy hy=>(by rw[hx]at hy;cases hy;exact hok.1),hgb,rfl⟩,rfl,λe he=>Nw he,g1⟩,by simp[g2]⟩
       .cases h
      .rename_i hx;split at h
       .rename_i rs2 L2 R2 ks2 e3;simp only[ae,al]at h;obtain⟨rfl,rfl,rfl,rfl⟩:=h;obtain⟨g1,g2⟩:=Sa e3 hok;exact⟨⟨⟨ho,hcur,e2,hev1,hev2,hdst,hnod,λy hy=>(by rw[hx]at hy;cases hy),hgb,rfl⟩,rfl,λe he=>Nw he,g1⟩,by simp[g2]⟩
       .cases h
    .cases h
theorem Sx{L:List Ent}{cur:A_}{c:Cl}{o:Oper}{out:Out}(h:Sy P L cur R c i o=some out) :
  (∃t z cells r',o.op=.alloc t/\Dn P t=some z/\Fp z.cells.toList=some cells/\R[i]?=some r'/\out=⟨.d (.o i 0),R,some (.flt i (.box t cells) r')⟩) \/
  (∃t l c0 o1 r1 r' c1,o.op=.makeSlice t l l/\R[i]?=some r'/\Lb P [] c0 t ((look L cur l).bind By)=some o1/\o1.R=[r1]/\o1.c=some c1/\out=⟨.d (.os i),R,some (.fltm i c1 r1 r')⟩):=by
 unfold Sy at h;split at h
 .rename_i t l k ht;split at h
  .rename_i i0 c0 q1 q2 r' e1;split at h
   .rename_i o1 hs e2;have hlk:l=k:=by
     unfold Kv at hs;split at hs
     .rw[af hs]
     .rw[eq_of_beq hs]
     .cases hs
    subst hlk;split at h
    .rename_i r1 c1 e3 e4;simp only[ae]at h;exact .inr ⟨t,l,c0,o1,r1,r',c1,ht,e1,e2,e3,e4,h.symm⟩
    .cases h
   .cases h
  .cases h
 .rename_i t ht;split at h
  .rename_i cells r' e1 e2;simp at h;cases hz:Dn P t with
   |none=>rw[hz]at e1;simp at e1
   |some z=>rw[hz]at e1;exact .inl ⟨t,z,cells,r',ht,hz,e1,e2,h.symm⟩
  .cases h
 .cases h
def Fc(X:Nat->Bool):List Res->List Rec->List Res
 |R,[]=>R
 |R,r::rs=>bif r.eff&&X r.i then Fc X r.out.R rs else Fc X R rs
theorem Iw(h:Aba P n ops r)(he:r.eff=false):r.out.R=r.Rin:=by
 have:=h.eff;rw[he]at this;cases hf:r.fl with
 |none=>rw[hf]at this;exact(Xd (R':=r.Rin) (by simpa using this.symm) (λ_ _=>rfl) (h.ev hf)).1
 |some i=>
  rcases Sx (h.flo i hf) with⟨t,z,cells,r',_,_,_,_,e⟩|⟨t,l,c0,o1,r1,r',c1,_,_,_,_,_,e⟩ <;>
  rw[e]
def PC(X:Nat->Bool)(rs:List Rec):Prop:=∀r q,r∈rs->q∈rs->r.eff=true->q.eff=true->r.i<q.i->X q.i=true->X r.i=true
def Hw(rs:List Rec):Prop:=rs.Pairwise λr q=>r.i<q.i
theorem PC.tail(h:PC X (r::rs)):PC X rs:=
 λa b ha hb=>h a b (am _ ha) (am _ hb)
theorem G3{X:Nat->Bool}:∀{rs:List Rec}{R:List Res},(∀r,r∈rs->r.eff=true->X r.i=false)->Fc X R rs=R
 | [],R,_=>rfl
 |r::rs,R,h=>by
  have ih:=G3 (R:=R) (λq hq=>h q (am _ hq));simp only[Fc];cases he:r.eff with
  |false=>simpa using ih
  |true=>rw[h r an he];simpa using ih
theorem K8(hp:PC X (r::rs))(hs:Hw (r::rs))(he:r.eff=true)(hx:X r.i=false):∀q,q∈rs->q.eff=true->X q.i=false:=by
 intro q hq hqe;cases hxq:X q.i with
 |false=>rfl
 |true=>have:=hp r q an (am _ hq) he hqe ((aI.1 hs).1 q hq) hxq;rw[hx]at this;cases this
theorem Am6{r':Rec}(h1:r.o=r'.o)(h2:r.need=r'.need)(h3:r.cur=r'.cur)(h4:r.c=r'.c)(h5:r.Rin=r'.Rin):D2 r=D2 r':=by unfold D2;rw[h1,h2,h3,h4,h5]
theorem Ui(h:Aba P n ops r)(hw:i∉D2 r)(hl:i<r.Rin.length):r.out.R[i]?=r.Rin[i]?:=by
 cases hf:r.fl with
 | none=>
  exact Ao5 (cs:=r.cs) (h.ev hf) hl (λhm=>hw (by have e:D2 ⟨0,r.o,r.need,r.cur,r.cs,r.c,r.Rin,r.out,true,false,none⟩=D2 r:=Am6 rfl rfl rfl rfl rfl;rw[←e];exact hm))
 |some j=>
  rcases Sx (h.flo j hf) with⟨t,z,cells,r',_,_,_,_,e⟩|⟨t,l,c0,o1,r1,r',c1,_,_,_,_,_,e⟩ <;>
  rw[e]
theorem Pz{n:Nat}{ops:Array Oper}{X:Nat->Bool}{i:Nat}:∀{rs:List Rec}{L:List Ent}{R:List Res},Kk P n ops L R rs L' R'->Hw rs->PC X rs ->
  (∀r,r∈rs->r.eff=true->X r.i=true->i∉D2 r/\i<r.Rin.length)->(Fc X R rs)[i]?=R[i]?
 | [],L,R,_,_,_,_=>rfl
 | r::rs,L,R,hc,hs,hp,h=>by
  obtain⟨hr,hR,_,hc'⟩:=hc;simp only[Fc];cases he:r.eff with
  |false=>have hq:=Iw hr he;rw[hq,hR]at hc';simpa using Pz hc' (aI.1 hs).2 hp.tail (λq hq=>h q (am _ hq))
  | true=>
   cases hx:X r.i with
   |false=>simp only[Bool.and_false,eg];rw[G3 (K8 hp hs he hx)]
   |true=>simp only[Bool.and_self,eh];rw[Pz hc' (aI.1 hs).2 hp.tail (λq hq=>h q (am _ hq))];obtain⟨g1,g2⟩:=h r an he hx;rw[Ui hr g1 g2,hR]
theorem Yd{n:Nat}{ops:Array Oper}{X Y:Nat->Bool}{i:Nat}:∀{rs:List Rec}{L:List Ent}{R:List Res},Kk P n ops L R rs L' R'->Hw rs->PC X rs->PC Y rs ->
  (∀r,r∈rs->r.eff=true->X r.i≠Y r.i->i∉D2 r/\i<r.Rin.length)->(Fc X R rs)[i]?=(Fc Y R rs)[i]?
 | [],L,R,_,_,_,_,_=>rfl
 | r :: rs, L, R, hc, hs, hp, hq, h => by
  obtain⟨hr,hR,_,hc'⟩:=hc;have hs':=(aI.1 hs).2;simp only[Fc];cases he:r.eff with
  |false=>have hq':=Iw hr he;rw[hq',hR]at hc';simpa using Yd hc' hs' hp.tail hq.tail (λq hq=>h q (am _ hq))
  | true=>
   cases hx:X r.i with
   | false=>
    cases hy:Y r.i with
    |false=>simp only[Bool.and_false,eg];rw[G3 (K8 hp hs he hx),G3 (K8 hq hs he hy)]
    |true=>simp only[Bool.and_false,eg,Bool.and_self,eh];have hl:=K8 hp hs he hx;rw[G3 hl,Pz hc' hs' hq.tail λq hq2 hqe hqy=>h q (am _ hq2) hqe (by rw[hl q hq2 hqe,hqy];simp)];obtain⟨g1,g2⟩:=h r an he (by rw[hx,hy];simp);rw[Ui hr g1 g2,hR]
   | true=>
    cases hy:Y r.i with
    |true=>simp only[Bool.and_self,eh];exact Yd hc' hs' hp.tail hq.tail (λq hq=>h q (am _ hq))
    |false=>simp only[Bool.and_false,eg,Bool.and_self,eh];have hl:=K8 hq hs he hy;rw[G3 hl,Pz hc' hs' hp.tail λq hq2 hqe hqx=>h q (am _ hq2) hqe (by rw[hl q hq2 hqe,hqx];simp)];obtain⟨g1,g2⟩:=h r an he (by rw[hx,hy];simp);rw[Ui hr g1 g2,hR]
theorem Lc{X Y:Nat->Bool}:∀{rs:List Rec}{R:List Res},(∀r,r∈rs->r.eff=true->X r.i=Y r.i)->Fc X R rs=Fc Y R rs
 | [],_,_=>rfl
 | r::rs,R,h=>by
  simp only[Fc];cases he:r.eff with
  |false=>simpa using Lc (λq hq=>h q (am _ hq))
  |true=>rw[h r an he];cases Y r.i <;> simpa using Lc (λq hq=>h q (am _ hq))
theorem Wu{n:Nat}{ops:Array Oper}{q:Rec}:∀{rs:List Rec}{L:List Ent}{R:List Res},Kk P n ops L R rs L' R'->Hw rs->q∈rs->Fc (λi=>Nat.blt i q.i) R rs=q.Rin
 | [],L,R,_,_,h=>by cases h
 | r::rs,L,R,hc,hs,hq=>by
  obtain⟨hr,hR,_,hc'⟩:=hc;have hs':=(aI.1 hs).2;have hlt:=(aI.1 hs).1;rcases ah.1 hq with rfl|hq
  .rw[hR];refine G3 λx hx _=>?_;rcases ah.1 hx with rfl|hx
   .cases hb:Nat.blt x.i x.i with
    |false=>rfl
    |true=>rw[bp]at hb;omega
   .have:=hlt x hx;cases hb:Nat.blt x.i q.i with
    |false=>rfl
    |true=>rw[bp]at hb;omega
  .have h1:Nat.blt r.i q.i=true:=by rw[bp];exact hlt q hq
   simp only[Fc,h1,bM];cases he:r.eff with
   |false=>have hq':=Iw hr he;rw[hq',hR]at hc';exact Wu hc' hs' hq
   |true=>exact Wu hc' hs' hq
theorem Qe{n:Nat}{ops:Array Oper}{q:Rec}:∀{rs:List Rec}{L:List Ent}{R:List Res},Kk P n ops L R rs L' R'->Hw rs->q∈rs->Fc (λi=>Nat.ble i q.i) R rs=q.out.R
 | [],L,R,_,_,h=>by cases h
 | r::rs,L,R,hc,hs,hq=>by
  obtain⟨hr,hR,_,hc'⟩:=hc;have hs':=(aI.1 hs).2;have hlt:=(aI.1 hs).1;rcases ah.1 hq with rfl|hq
  .have h1:Nat.ble q.i q.i=true:=by simp
   have hno:∀x,x∈rs->x.eff=true->Nat.ble x.i q.i=false:=by
    intro x hx _;have:=hlt x hx;cases hb:Nat.ble x.i q.i with
    |false=>rfl
    |true=>have:=aF hb;omega
   simp only[Fc,h1,bM];cases he:q.eff with
   |false=>simp only[eg];rw[G3 hno,Iw hr he,hR]
   |true=>simp only[eh];rw[G3 hno]
  .have h1:Nat.ble r.i q.i=true:=by have:=hlt q hq;exact Nat.ble_eq_true_of_le (by omega)
   simp only[Fc,h1,bM];cases he:r.eff with
   |false=>have hq':=Iw hr he;rw[hq',hR]at hc';exact Qe hc' hs' hq
   |true=>exact Qe hc' hs' hq
theorem Ye{n:Nat}{ops:Array Oper}{X:Nat->Bool}:∀{rs:List Rec}{L:List Ent}{R:List Res},Kk P n ops L R rs L' R'->(∀r,r∈rs->X r.i=true)->Fc X R rs=R'
 | [],L,R,hc,_=>hc.2
 | r::rs,L,R,hc,h=>by
  obtain⟨hr,hR,_,hc'⟩:=hc;simp only[Fc,h r an,bM];cases he:r.eff with
  |false=>have hq':=Iw hr he;rw[hq',hR]at hc';exact Ye hc' (λq hq=>h q (am _ hq))
  |true=>exact Ye hc' (λq hq=>h q (am _ hq))
theorem P0{n:Nat}{ops:Array Oper}{q:Rec}:∀{rs:List Rec}{L:List Ent}{R:List Res},Kk P n ops L R rs L' R'->q∈rs->Aba P n ops q
 | [],L,R,_,h=>by cases h
 |r::rs,L,R,hc,hq=>by
  rcases ah.1 hq with rfl|hq
  .exact hc.1
  .exact P0 hc.2.2.2 hq
def Ky(q:Rec)(e:Ent):Prop:=∀d,q.o.dst=some d->d≠e.t/\∀g,g∈e.p->g.1≠d
def Amr(rs:List Rec)(L0:List Ent)(X:Nat->Bool)(e:Ent):Prop:=
 (e∈L0/\∀q,q∈rs->X q.i=true->Ky q e) \/
 (∃r,r∈rs/\X r.i=true/\r.o.dst=some e.t/\e.p=r.cur/\e.v=r.out.v/\∀q,q∈rs->r.i<q.i->X q.i=true->Ky q e)
theorem Zx{n:Nat}{ops:Array Oper}:∀{rs:List Rec}{L:List Ent}{R:List Res},Kk P n ops L R rs L' R'->Hw rs->∀e,e∈L' ->
  (e∈L/\∀q,q∈rs->Ky q e)\/(∃r,r∈rs/\r.o.dst=some e.t/\e.p=r.cur/\e.v=r.out.v/\∀q,q∈rs->r.i<q.i->Ky q e)
 | [],L,R,hc,_,e,he=>by have:=hc.1;subst this;exact .inl ⟨he,λq hq=>by cases hq⟩
 | r :: rs, L, R, hc, hs, e, he => by
  obtain⟨hr,hR,_,hc'⟩:=hc;have hs':=(aI.1 hs).2;have hlt:=(aI.1 hs).1;rcases Zx hc' hs' e he with⟨h1,h2⟩|⟨x,h1,h2,h3,h4,h5⟩
  .unfold Ajm at h1;cases hd:r.o.dst with
   |none=>
    rw[hd]at h1;refine .inl ⟨h1,λq hq=>?_⟩;rcases ah.1 hq with rfl|hq
    .intro d hd';rw[hd]at hd';cases hd'
    .exact h2 q hq
   | some d=>
    rw[hd]at h1;unfold Km at h1;rcases ah.1 h1 with rfl|h1
    .refine .inr ⟨r,an,hd,rfl,rfl,λq hq hlt'=>?_⟩;rcases ah.1 hq with rfl|hq
     .omega
     .exact h2 q hq
    .rw[aH]at h1;obtain⟨h1,hf⟩:=h1;simp only[aa]at hf;refine .inl ⟨h1,λq hq=>?_⟩;rcases ah.1 hq with rfl|hq
     .intro d' hd';rw[hd]at hd';cases hd';refine⟨λe'=>?_,λg hg e'=>?_⟩
      .subst e';simp at hf
      .have:=(aD.1 hf.2) g hg;subst e';simp at this
     .exact h2 q hq
  .refine .inr ⟨x,am _ h1,h2,h3,h4,λq hq hlt'=>?_⟩;rcases ah.1 hq with rfl|hq
   .have:=hlt x h1;omega
   .exact h5 q hq hlt'
theorem Zw{n : Nat}{ops : Array Oper}{q : Rec} : ∀{rs : List Rec}{L : List Ent}{R : List Res}, Kk P n ops L R rs L' R' -> Hw rs -> q ∈ rs -> ∀e, e ∈ q.need ->
  (e∈L/\∀x,x∈rs->x.i<q.i->Ky x e)\/(∃r,r∈rs/\r.i<q.i/\r.o.dst=some e.t/\e.p=r.cur/\e.v=r.out.v/\∀x,x∈rs->r.i<x.i->x.i<q.i->Ky x e)
 | [],L,R,_,_,h,_,_=>by cases h
 | r :: rs, L, R, hc, hs, hq, e, he => by
  obtain⟨hr,hR,hn,hc'⟩:=hc;have hs':=(aI.1 hs).2;have hlt:=(aI.1 hs).1;rcases ah.1 hq with rfl|hq
  .refine .inl ⟨hn e he,λx hx hlt'=>?_⟩;rcases ah.1 hx with rfl|hx
   .omega
   .have:=hlt x hx;omega
  .rcases Zw hc' hs' hq e he with⟨h1,h2⟩|⟨x,h1,h1',h2,h3,h4,h5⟩
   .unfold Ajm at h1;cases hd:r.o.dst with
    |none=>
     rw[hd]at h1;refine .inl ⟨h1,λq' hq' hl=>?_⟩;rcases ah.1 hq' with rfl|hq'
     .intro d hd';rw[hd]at hd';cases hd'
     .exact h2 q' hq' hl
    | some d=>
     rw[hd]at h1;unfold Km at h1;rcases ah.1 h1 with rfl|h1
     .refine .inr ⟨r,an,hlt q hq,hd,rfl,rfl,λq' hq' hlt' hl=>?_⟩;rcases ah.1 hq' with rfl|hq'
      .omega
      .exact h2 q' hq' hl
     .rw[aH]at h1;obtain⟨h1,hf⟩:=h1;simp only[aa]at hf;refine .inl ⟨h1,λq' hq' hl=>?_⟩;rcases ah.1 hq' with rfl|hq'
      .intro d' hd';rw[hd]at hd';cases hd';refine⟨λe'=>?_,λg hg e'=>?_⟩
       .subst e';simp at hf
       .have:=(aD.1 hf.2) g hg;subst e';simp at this
      .exact h2 q' hq' hl
   .refine .inr ⟨x,am _ h1,h1',h2,h3,h4,λq' hq' hlt' hl=>?_⟩;rcases ah.1 hq' with rfl|hq'
    .have:=hlt x h1;omega
    .exact h5 q' hq' hlt' hl
end
end Go.SL
namespace Go.SL
variable{d i:Nat}{X X':Nat->Bool}{q:Rec}{v:Value}
section
variable{P:Program}{C:Ctx}{S S':Nat->Prop}{w w':World}{ρ ρ':eA}{R R' R0:List Res}{L L' L0:List Ent}{a:Act}{n:Nat}{ops:Array Oper}{rs:List Rec}
def Al(ops:Array Oper)(X:Nat->Bool):Prop:=∀j o,X j=true->ops[j]?=some o->∀e,e∈o.after->Region.binds .any e=true->X e.on=true
theorem Xk:∀N,(Qf ops N).length=N
 |0=>rfl
 |N+1=>by simp[Qf,Xk N]
theorem Acs{m:Nat}(h:Acu m i=true):m.testBit i=true:=by have h1:(m >>> i) &&& 1=1:=af h;unfold Nat.testBit;rw[Nat.and_comm,h1];rfl
theorem Anr{l:ey}{i:Nat}:∀{es:List Edge}{m:Nat},(orE l es m).testBit i=true->m.testBit i=true\/∃e,e∈es/\Region.binds .any e=true/\(e.on=i\/∃m',l[e.on]?=some m'/\m'.testBit i=true)
 | [],m,h=>.inl h
 | e :: r, m, h => by
  simp only[orE]at h;rcases Anr h with h|⟨e',h1,h2⟩
  .cases hb:(Region.binds .any e&&Nat.blt e.on l.length) with
   |false=>rw[hb]at h;exact .inl h
   | true=>
    rw[hb]at h;simp only[eh]at h;simp only[aa]at hb;have h':(m ||| ((1 <<< e.on) ||| (l[e.on]?).getD 0)).testBit i=true:=h;simp only[Nat.testBit_or,aS]at h';rcases h' with h'|h'|h'
    .exact .inl h'
    .refine .inr ⟨e,an,hb.1,.inl ?_⟩;rw[Nat.testBit_shiftLeft]at h';simp only[aa,dM]at h';rcases aR e.on i with hlt|hge
     .have:=Nat.testBit_one_eq_true_iff_self_eq_zero.1 h'.2;omega
     .omega
    grind
  grind
theorem A2g(hX:Al ops X)(N:Nat):∀{j i:Nat}{m:Nat},(Qf ops N)[j]?=some m->m.testBit i=true->X j=true->X i=true:=by
 induction N with
 |zero=>intro j i l h _ _;simp[Qf]at h
 | succ N ih=>
  intro j i m h hi hj;simp only[Qf]at h;rcases D8 h with h|⟨e,h⟩
  .exact ih h hi hj
  .rw[Xk]at e;subst e;cases ho:ops[j]? with
   |none=>rw[ho]at h;subst h;simp at hi
   | some o=>
    rw[ho]at h;simp only at h;subst h;rcases Anr hi with hi|⟨e,he,hb,hi⟩
    .simp at hi
    .have hon:=hX j o hj ho e (Array.mem_toList_iff.1 he) hb;grind
theorem Vm(hX:Al ops X){j:Nat}(h:Acu (((Qf ops ops.size)[j]?).getD 0) i=true)(hj:X j=true):X i=true:=by have h:=Acs h;grind[A2g]
structure Am4(ops:Array Oper)(L0:List Ent)(rs:List Rec):Prop where
 flat:∀e,e∈L0->e.p=[]
 back:∀r,r∈rs->∀e,e∈r.o.after->Region.binds .any e=true->e.on<r.i
 pair:∀r q,r∈rs->q∈rs->r.i<q.i->Acu (((Qf ops ops.size)[q.i]?).getD 0) r.i=true\/Qu r q=true
theorem Alg(h:Lg ops L0 rs=true):Am4 ops L0 rs:=by
 unfold Lg at h;simp only[aa,aD]at h;obtain⟨⟨h1,h2⟩,h3⟩:=h;refine⟨λe he=>by simpa using h1 e he,λr hr e he hb=>?_,λr q hr hq hlt=>?_⟩
 .have:=h2 r hr;rw[Array.all_eq_true_iff_forall_mem]at this;have:=this e he;rw[hb]at this;simpa[eu]using this
 .have:=h3 r hr q hq;simp only[aS]at this;rcases this with h|h|h
  .have:=aF h;omega
  .exact .inl h
  .exact .inr h
theorem Zu{need:List Ent}(h:clear need d=true):∀e,e∈need->d≠e.t/\∀g,g∈e.p->g.1≠d:=by
 intro e he;unfold clear at h;have:=(aD.1 h) e he;simp only[aa]at this;refine⟨λe'=>?_,λg hg e'=>?_⟩
 .subst e';simp at this
 .have h2:=(aD.1 this.2) g hg;subst e';simp at h2
structure A66(r q:Rec):Prop where
 eff:r.eff=false\/q.eff=false
 d1:∀d,r.o.dst=some d->(∀e,e∈q.need->d≠e.t/\∀g,g∈e.p->g.1≠d)/\(∀g,g∈q.cur->g.1≠d)/\q.o.dst≠some d
 d2:∀d,q.o.dst=some d->∀e,e∈r.need->d≠e.t/\∀g,g∈e.p->g.1≠d
 e1:r.eff=true->∀i,i∈Oi q->i∉D2 r/\i<r.Rin.length
 e2:q.eff=true->∀i,i∈Oi r->i∉D2 q/\i<q.Rin.length
theorem G1{r:Rec}(h:Qu r q=true):A66 r q:=by
 unfold Qu at h;simp only[aa]at h;obtain⟨⟨⟨⟨h1,h2⟩,h3⟩,h4⟩,h5⟩:=h;refine⟨?_,λd hd=>?_,λd hd=>?_,λhe i hi=>?_,λhe i hi=>?_⟩
 .simpa using h1
 .rw[hd]at h2;simp only[aa]at h2;obtain⟨⟨g1,g2⟩,g3⟩:=h2;refine⟨Zu g1,λg hg e=>?_,λe=>?_⟩
  .simp only[aO]at g2;have:=(bN.1 g2) g hg;subst e;simp at this
  .rw[e]at g3;simp at g3
 .rw[hd]at h3;exact Zu h3
 .rw[he]at h4;simp only[bE,bU]at h4;have:=(aD.1 h4) i hi;simp only[aa,aO]at this;refine⟨λhm=>?_,by have:=this.2;simpa[eu]using this⟩;rw[←Ou]at hm;rw[hm]at this;simp at this
 .rw[he]at h5;simp only[bE,bU]at h5;have:=(aD.1 h5) i hi;simp only[aa,aO]at this;refine⟨λhm=>?_,by have:=this.2;simpa[eu]using this⟩;rw[←Ou]at hm;rw[hm]at this;simp at this
def J(n:Nat)(C:Ctx)(L0:List Ent)(R0:List Res)(rs:List Rec)(X:Nat->Bool)(a:Act)(w:World):Prop:=
 a.defers=C.df/\a.tmps.size=n/\∃S ρ,Inv C S w ρ (Fc X R0 rs)/\(∀e,Amr rs L0 X e->Wz S w ρ a e) /\
  ∀r i,r∈rs->r.fl=some i->X r.i=false->∃h,ρ[i]?=some h/\h.oneCell'=false
structure Au4(C:Ctx)(rs:List Rec):Prop where
 inj:∀r q i,r∈rs->q∈rs->r.fl=some i->q.fl=some i->r=q
 low:∀r i,r∈rs->r.fl=some i->C.h.length<=i
theorem Mx{r:Rec}{i:Nat}:∀{rs:List Rec},r∈rs->r.fl=some i->i∈Kj rs
 | [],h,_=>by cases h
 | x::rs,h,hf=>by
  rcases ah.1 h with rfl|h
  .simp[Kj,hf]
  .have:=Mx h hf;unfold Kj;grind
theorem Agw{l:ey}(h:(D4 l i).isNone=true):i∉l:=by
 induction l with
 |nil=>simp
 | cons a r ih=>
  simp only[D4]at h;cases hb:Nat.beq a i with
  |true=>rw[hb]at h;simp at h
  |false=>
   rw[hb]at h;simp only[eg]at h;intro hm;rcases ah.1 hm with rfl|hm
   .simp at hb
   grind
theorem U3:∀{rs:List Rec},Fw (Kj rs)=true->∀r q i,r∈rs->q∈rs->r.fl=some i->q.fl=some i->r=q
 | [],_,r,q,i,h,_,_,_=>by cases h
 | x :: rs, hn, r, q, i, hr, hq, h1, h2 => by
  cases hx:x.fl with
  | none=>
   simp only[Kj,hx]at hn;rcases ah.1 hr with rfl|hr
   .rw[hx]at h1;cases h1
   .rcases ah.1 hq with rfl|hq
    .rw[hx]at h2;cases h2
    .exact U3 hn r q i hr hq h1 h2
  | some j=>
   simp only[Kj,hx,Fw,aa]at hn;have hnot:=Agw hn.1;rcases ah.1 hr with e1|hr2
   .rcases ah.1 hq with e2|hq2
    .rw[e1,e2]
    .rw[e1,hx]at h1;cases h1;exact absurd (Mx hq2 h2) hnot
   .rcases ah.1 hq with e2|hq2
    .rw[e2,hx]at h2;cases h2;exact absurd (Mx hr2 h1) hnot
    .exact U3 hn.2 r q i hr2 hq2 h1 h2
theorem Inv.birth(h:Inv C S w ρ R){r:Res}{d:Value}(hi:R[i]?=some r)(hd:ρ[i]?=some d)(hdd:d.oneCell'=false)(hC:C.h.length<=i)
  (hw:∀b,b<w.heap.size->w'.heap[b]?=w.heap[b]?)(hsz:w.heap.size<=w'.heap.size)(ho:w'.os=w.os)(ht:Tp w w')(hp:w'.output=w.output)
  (hok:r.ok S w' (ρ.set i v) v)(hf:∀b,r.foot v b->w.heap.size<=b/\b<w'.heap.size):Inv C S w' (ρ.set i v) R/\Ph ρ (ρ.set i v):=by
 have hil:i<ρ.length:=(ac.1 hd).1;have hpre:Ph ρ (ρ.set i v):=by intro j x hj hx;grind
 have key:∀(j:Nat) x,(ρ.set i v)[j]?=some x->(j=i/\x=v)\/(j≠i/\ρ[j]?=some x):=by grind
 refine⟨⟨by simp[h.len],λj r1 v1 h1 h2=>?_,λj k r1 r2 v1 v2 b hjk h1 h2 h3 h4 h5 h6=>?_,λj r1 v1 b h1 h2 h3=>?_,h.sub,λb hb=>⟨aE (h.sup b hb).1 hsz,(h.sup b hb).2⟩,λb hb hf=>(hw b (aE hb h.size)).trans (h.frm b hb hf),ay h.size hsz,ho.trans h.os,ht.trans h.tape,hp.trans h.output,λj x hj=>?_,h.gl⟩,hpre⟩
 .rcases key j v1 h2 with⟨rfl,rfl⟩|⟨hj,h2⟩
  .rw[hi]at h1;cases h1;exact hok
  .exact(h.ok j r1 v1 h1 h2).monoA (λ_ h=>h) (λb hb=>hw b (h.sup b hb).1) hpre (λb hb=>hw b (h.own j r1 v1 b h1 h2 hb).2.1)
 .rcases key j v1 h3 with⟨rfl,rfl⟩|⟨hj,h3'⟩
  .rcases key k v2 h4 with⟨rfl,_⟩|⟨hk,h4'⟩
   .exact hjk rfl
   .rw[hi]at h1;cases h1;have:=(hf b h5).1;have:=(h.own k r2 v2 b h2 h4' h6).2.1;omega
  .rcases key k v2 h4 with⟨rfl,rfl⟩|⟨hk,h4'⟩
   .rw[hi]at h2;cases h2;have:=(hf b h6).1;have:=(h.own j r1 v1 b h1 h3' h5).2.1;omega
   .exact h.dis j k r1 r2 v1 v2 b hjk h1 h2 h3' h4' h5 h6
 .rcases key j v1 h2 with⟨rfl,rfl⟩|⟨hj,h2⟩
  .rw[hi]at h1;cases h1;obtain⟨g1,g2⟩:=hf b h3;exact⟨λhb=>by have:=(h.sup b hb).1;omega,g2,.inr (ay h.size g1)⟩
  .obtain⟨g1,g2,g3⟩:=h.own j r1 v1 b h1 h2 h3;exact⟨g1,aE g2 hsz,g3⟩
 .have hjl:j<C.h.length:=(ac.1 hj).1;rw[bz (by omega)];exact h.pre j x hj
theorem Ao4{e:Ent}(h:Wz S w ρ a e)(hS:∀b,S b->S' b)(hw:∀b,S b->w'.heap[b]?=w.heap[b]?)(hρ:Ph ρ ρ')(h1:d≠e.t)(h2:∀g,g∈e.p->g.1≠d):Wz S' w' ρ' (a.put (some d) v) e:=by
 have hp:e.p.all (λg=>!(Nat.beq g.1 d))=true:=by
  rw[aD];intro g hg;cases hb:Nat.beq g.1 d with
  |false=>rfl
  |true=>exact absurd (af hb) (h2 g hg)
 refine⟨λhpt=>?_,λhpt=>?_⟩
 .obtain⟨x,hx,hr⟩:=h.1 ((Mu hp).1 hpt);exact⟨x,by rw[G7 h1];exact hx,hr.monoA hS hw hρ⟩
 .rw[G7 h1];exact h.2 λk=>hpt ((Mu hp).2 k)
theorem Au0(hch:Kk P n ops L0 R0 rs L' R')(hs:Hw rs)(hany:Am4 ops L0 rs)(hfl:Au4 C rs)(hX:Al ops X)(hq:q∈rs)(hqX:X q.i=false)
  (hready:∀e,e∈q.o.after->Region.binds .any e=true->X e.on=true)(hX':∀j,X' j=(X j || decide (j=q.i)))(hJ:J n C L0 R0 rs X a w)
  {K:Act->World->Prop}(hK:∀a' w',J n C L0 R0 rs X' a' w'->K a' w'):Gp P ops q.i K a w:=by
 obtain⟨hdef,hsize,S,ρ,hI,hE,hD⟩:=hJ;have hrec:=P0 hch hq;have hXc':Al ops X':=by
  intro j o hj ho e he hb;rw[hX']at hj ⊢;simp only[aS,dM]at hj ⊢;rcases hj with hj|rfl
  .exact .inl (hX j o hj ho e he hb)
  .rw[hrec.op]at ho;cases ho;exact .inl (hready e he hb)
 have hq':X' q.i=true:=by rw[hX'];simp
 have ahead:∀r,r∈rs->r.i<q.i->Acu (((Qf ops ops.size)[q.i]?).getD 0) r.i=true->X r.i=true:=by
  intro r hr hlt hm;have:=Vm hXc' hm hq';rw[hX']at this;simp only[aS,dM]at this;rcases this with h|h
  .exact h
  .omega
 have behind:∀r,r∈rs->q.i<r.i->X r.i=true->Qu q r=true:=by
  intro r hr hlt hx;rcases hany.pair q r hq hr hlt with h|h
  .have:=Vm hX h hx;rw[hqX]at this;cases this
  .exact h
 have early:∀r,r∈rs->r.i<q.i->X r.i=false->Qu r q=true:=by
  intro r hr hlt hx;rcases hany.pair r q hr hq hlt with h|h
  .have:=ahead r hr hlt h;rw[hx]at this;cases this
  .exact h
 have uniq:∀r,r∈rs->r.i=q.i->r=q:=by
  intro r hr hi;obtain⟨k,hk,rfl⟩:=cP hr;obtain⟨m,hm,rfl⟩:=cP hq;have hp:=cu.1 hs;rcases bX k m with h|h|h
  .have:=hp k m hk hm h;omega
  .subst h;rfl
  .have:=hp m k hm hk h;omega
 have hPC:PC X rs:=by
  intro r r2 hr hr2 he he2 hlt hx;rcases hany.pair r r2 hr hr2 hlt with h|h
  .exact Vm hX h hx
  .rcases(G1 h).eff with h|h
   .rw[he]at h;cases h
   .rw[he2]at h;cases h
 have hPCq:PC (λi=>Nat.blt i q.i) rs:=by intro r r2 _ _ _ _ hlt hx;rw[bp]at hx ⊢;omega
 have hneed:Cd S w ρ a q.need:=by
  intro e he;refine hE e ?_;have late:∀x,x∈rs->q.i<x.i->X x.i=true->Ky x e:=λx hx hlt hxx d hd=>(G1 (behind x hx hlt hxx)).d2 d hd e he;rcases Zw hch hs hq e he with⟨h1,h2⟩|⟨r,h1,h1',h2,h3,h4,h5⟩
  .refine .inl ⟨h1,λx hx hxx=>?_⟩;rcases bX x.i q.i with h|h|h
   .exact h2 x hx h
   .rw[uniq x hx h]at hxx;rw[hqX]at hxx;cases hxx
   .exact late x hx h hxx
  .refine .inr ⟨r,h1,?_,h2,h3,h4,λx hx hlt hxx=>?_⟩
   .cases hxr:X r.i with
    |true=>rfl
    |false=>exact absurd rfl (((G1 (early r h1 h1' hxr)).d1 _ h2).1 e he).1
   .rcases bX x.i q.i with h|h|h
    .exact h5 x hx hlt h
    .rw[uniq x hx h]at hxx;rw[hqX]at hxx;cases hxx
    .exact late x hx h hxx
 have hown:q.eff=true->Fc X R0 rs=q.Rin/\Fc X' R0 rs=q.out.R:=by
  intro he;have key:∀r,r∈rs->r.eff=true->X r.i=Nat.blt r.i q.i:=by
   intro r hr hre;rcases bX r.i q.i with h|h|h
   .have hb:Nat.blt r.i q.i=true:=by rw[bp];exact h
    rw[hb];rcases hany.pair r q hr hq h with h'|h'
    .exact ahead r hr h h'
    .rcases(G1 h').eff with k|k
     .rw[hre]at k;cases k
     .rw[he]at k;cases k
   .rw[uniq r hr h,hqX];cases hb:Nat.blt q.i q.i with
    |false=>rfl
    |true=>rw[bp]at hb;omega
   .have hb:Nat.blt r.i q.i=false:=by
     cases hb:Nat.blt r.i q.i with
     |false=>rfl
     |true=>rw[bp]at hb;omega
    rw[hb];cases hx:X r.i with
    |false=>rfl
    |true=>
     rcases(G1 (behind r hr h hx)).eff with k|k
     .rw[he]at k;cases k
     .rw[hre]at k;cases k
  refine⟨(Lc key).trans (Wu hch hs hq),(Lc (Y:=λi=>Nat.ble i q.i) λr hr hre=>?_).trans (Qe hch hs hq)⟩;rw[hX',key r hr hre];rcases bX r.i q.i with h|h|h
  .have h1:Nat.blt r.i q.i=true:=by rw[bp];exact h
   have h2:Nat.ble r.i q.i=true:=Nat.ble_eq_true_of_le (by omega);rw[h1,h2];rfl
  .rw[h];simp
  .have h2:Nat.ble r.i q.i=false:=by
    cases hb:Nat.ble r.i q.i with
    |false=>rfl
    |true=>have:=aF hb;omega
   have h1:Nat.blt r.i q.i=false:=by
    cases hb:Nat.blt r.i q.i with
    |false=>rfl
    |true=>rw[bp]at hb;omega
   rw[h1,h2];simp;omega
 have hquiet:q.eff=false->Fc X' R0 rs=Fc X R0 rs:=by
  intro he;refine Lc λr hr hre=>?_;rw[hX'];have:¬(r.i=q.i):=λh=>by rw[uniq r hr h,he]at hre;cases hre
  simp[this]
 have htouch:q.eff=false->∀i,i∈Oi q->q.Rin[i]?=(Fc X R0 rs)[i]?:=by
  intro he i hi;rw[←Wu hch hs hq];refine Yd hch hs hPCq hPC λr hr hre hne=>?_;rcases bX r.i q.i with h|h|h
  .have hb:Nat.blt r.i q.i=true:=by rw[bp];exact h
   have hxr:X r.i=false:=by
    cases hx:X r.i with
    |false=>rfl
    |true=>rw[hb,hx]at hne;exact absurd rfl hne
   exact(G1 (early r hr h hxr)).e1 hre i hi
  .rw[uniq r hr h,he]at hre;cases hre
  .have hb:Nat.blt r.i q.i=false:=by
    cases hb:Nat.blt r.i q.i with
    |false=>rfl
    |true=>rw[bp]at hb;omega
   have hxr:X r.i=true:=by
    cases hx:X r.i with
    |true=>rfl
    |false=>rw[hb,hx]at hne;exact absurd rfl hne
   exact(G1 (behind r hr h hxr)).e2 hre i hi
 have hev:q.fl=none->∃out,H1 P q.need q.cur (Fc X R0 rs) q.c q.o=some out/\out.v=q.out.v/\out.c=q.out.c/\out.R=Fc X' R0 rs:=by
  intro hfn;cases he:q.eff with
  |true=>obtain⟨h1,h2⟩:=hown he;exact⟨q.out,by rw[h1];exact hrec.ev hfn,rfl,rfl,h2.symm⟩
  |false=>
   have hqq:Gq q.c q.o=true:=by have:=hrec.eff;rw[he,hfn]at this;simpa using this.symm
   have ht:∀i,i∈deepen q.Rin (Lm q.o.op q.need)++Aju q.o.op q.c q.Rin q.need->q.Rin[i]?=(Fc X R0 rs)[i]?:=λi hi=>htouch he i (by unfold Oi;rw[hfn];exact hi);obtain⟨_,h2⟩:=Xd hqq ht (hrec.ev hfn);exact⟨_,h2,rfl,rfl,(hquiet he).symm⟩
 have entries:∀e,Amr rs L0 X' e->(Amr rs L0 X e/\Ky q e)\/(q.o.dst=some e.t/\e.p=q.cur/\e.v=q.out.v):=by
  intro e he;have mono:∀x,x∈rs->X x.i=true->X' x.i=true:=λx _ hx=>by rw[hX',hx];rfl
  rcases he with⟨h1,h2⟩|⟨r,h1,h2,h3,h4,h5,h6⟩
  .exact .inl ⟨.inl ⟨h1,λx hx hxx=>h2 x hx (mono x hx hxx)⟩,h2 q hq hq'⟩
  .by_cases hri:r.i=q.i
   .rw[uniq r h1 hri]at h3 h4 h5;exact .inr ⟨h3,h4,h5⟩
   .have hxr:X r.i=true:=by
     rw[hX']at h2;simp only[aS,dM]at h2;exact h2.resolve_right hri
    refine .inl ⟨.inr ⟨r,h1,hxr,h3,h4,h5,λx hx hlt hxx=>h6 x hx hlt (mono x hx hxx)⟩,?_⟩;rcases aR r.i q.i with h|h
    .exact h6 q hq h hq'
    .have hp:=(G1 (behind r h1 (by omega) hxr));intro d hd;obtain⟨_,g2,g3⟩:=hp.d1 d hd;refine⟨λe'=>g3 (by rw[h3,e']),λg hg=>?_⟩;rw[h4]at hg;exact g2 g hg
 have deads:∀ρ',Pre ρ ρ'->∀r i,r∈rs->r.fl=some i->X' r.i=false->∃h,ρ'[i]?=some h/\h.oneCell'=false:=by intro ρ' hpre r i hr hfi hx;rw[hX']at hx;simp only[aY]at hx;obtain⟨h,g1,g2⟩:=hD r i hr hfi hx.1;exact⟨h,hpre _ _ g1,g2⟩
 have fin:∀v w' S' ρ',Inv C S' w' ρ' (Fc X' R0 rs)->(∀b,S b->S' b)->(∀b,S b->w'.heap[b]?=w.heap[b]?)->Ph ρ ρ' ->
   (∀r i,r∈rs->r.fl=some i->X' r.i=false->∃h,ρ'[i]?=some h/\h.oneCell'=false)->(pt a q.cur->RdA S' w' ρ' v q.out.v)->(pt a q.cur\/v=undef)->K (a.put q.o.dst v) w':=by
  intro v w' S' ρ' hinv hsub hsame hpre hdead hrd hv;refine hK _ _ ⟨?_,?_,S',ρ',hinv,λe he=>?_,hdead⟩
  .cases hd:q.o.dst <;> exact hdef
  .cases hd:q.o.dst <;> simp[Act.put,hsize]
  .rcases entries e he with⟨h1,h2⟩|⟨h1,h2,h3⟩
   .cases hd:q.o.dst with
    |none=>have hee:=hE e h1;refine⟨λhp=>?_,hee.2⟩;obtain⟨x,hx,hr⟩:=hee.1 hp;exact⟨x,hx,hr.monoA hsub hsame hpre⟩
    |some d=>obtain⟨g1,g2⟩:=h2 d hd;exact Ao4 (hE e h1) hsub hsame hpre g1 g2
   .rw[h1];obtain⟨d1,d2⟩:=hrec.dst e.t h1;refine⟨λhp=>⟨v,Jd (by rw[hsize];exact d1),by rw[h3];exact hrd ((Mu d2).1 (by rw[←h2];exact hp))⟩,λhp=>?_⟩;rw[h2]at hp;have hnp:¬pt a q.cur:=λk=>hp ((Mu d2).2 k);rw[hv.resolve_left hnp];exact Jd (by rw[hsize];exact d1)
 obtain⟨hw1,hw2⟩:=Ac5 hneed hrec.guard;unfold Gp;simp only[hrec.op];cases hfl':q.fl with
 | none=>
  obtain⟨out,ev1,ev2,ev3,ev4⟩:=hev hfl';by_cases hpt:pt a q.cur
  .rw[ei (hw1.2 hpt)];refine⟨Zk ev1,Ahj hI hneed hpt ev1 (λx hx=>?_) λv w' S' ρ' hA=>?_⟩
   .rw[ev3]at hx;exact Wd hneed hrec.cs (hrec.ok x hx) hpt
   .rw[ev4,ev2]at hA;exact fin v w' S' ρ' hA.inv hA.sub hA.same hA.pre.a (deads ρ' hA.pre) (λ_=>hA.rd) (.inl hpt)
  .have hnw:¬(Region.wanted q.o (yielded ops a.tmps)=true):=λh=>hpt (hw1.1 h);rw[em hnw];have hne:q.cur.isEmpty=false:=by
    cases hc:q.cur.isEmpty with
    |false=>rfl
    |true=>simp at hc;rw[hc]at hpt;exact absurd Bz hpt
   have hg:=hrec.gb;unfold Ji at hg;rw[hne]at hg;simp only[bU,aa,aS,aO]at hg;obtain⟨ρ',hI',hpre⟩:=hI.skip (zC ev1 hg.1 λhr x hx=>yE hneed hrec.cs hr hne (hg.2.resolve_left (by rw[hr];simp)) (hrec.ok x (by rw[←ev3];exact hx)) hpt);rw[ev4]at hI';cases hd:q.o.dst with
   |none=>have:=hrec.nodst hd;rw[hne]at this;cases this
   |some d=>have:=fin undef w S ρ' hI' (λ_ h=>h) (λ_ _=>rfl) hpre.a (deads ρ' hpre) (λh=>absurd h hpt) (.inr rfl);rw[hd]at this;exact this
 | some i=>
  have hspec:=Sx (hrec.flo i hfl');have heff:q.eff=false:=by rw[hrec.eff,hfl'];rfl
  have hcR:=hquiet heff;by_cases hpt:pt a q.cur
  .rw[ei (hw1.2 hpt)];obtain⟨dd,k1,k2⟩:=hD q i hq hfl' hqX;have hil:i<ρ.length:=(ac.1 k1).1;have htr:∀{r':Res},q.Rin[i]?=some r'->(Fc X R0 rs)[i]?=some r':=λg4=>by rw[←htouch heff i (by unfold Oi;rw[hfl'];simp)];exact g4
   have hpre0:∀v,Ph ρ (ρ.set i v):=by
    intro v j x hj hx;rw[aB];split
    .rename_i e;subst e;rw[k1]at hj;cases hj;rw[k2]at hx;cases hx
    .exact hj
   have hdeads:∀v:Value,∀r j,r∈rs->r.fl=some j->X' r.i=false->∃h,(ρ.set i v)[j]?=some h/\h.oneCell'=false:=by intro v r j hr hfj hx;rw[hX']at hx;simp only[aY,dN]at hx;obtain⟨h,m1,m2⟩:=hD r j hr hfj hx.1;refine⟨h,?_,m2⟩;rw[bz (λe=>hx.2 (by subst e;rw[hfl.inj r q i hr hq hfj hfl']))];exact m1
   rcases hspec with⟨t,z,cells,r',g1,g2,g3,g4,g5⟩|⟨t,l,c0,o1,r1,r',c1,g1,g4,g2,g3,g6,g5⟩
   .have hsame:(Res.box t cells)=r':=(Wd hneed hrec.cs (hrec.ok (.flt i (.box t cells) r') (by rw[g5])) hpt:Cl.ok P (.flt i (.box t cells) r'));subst hsame;have hRi:=htr g4;have hold:∀b,b<w.heap.size->(w.alloc (.cells z.cells t)).heap[b]?=w.heap[b]?:=λb hb=>B8 _ _ _ hb;have hcells:Ay (Rd S w ρ) z.cells.toList cells:=J1 g3;obtain⟨hI',hpre⟩:=hI.birth (w':=w.alloc (.cells z.cells t)) (v:=.pointer (some ⟨w.heap.size,0,none⟩)) hRi k1 k2 (hfl.low q i hq hfl') hold (by simp) rfl ⟨rfl,λ_=>by first|exact ai _|exact aC _⟩ rfl
     (.inr ⟨_,z.cells,rfl,Fb _ _,hcells.mono λ_ _ h=>h.monoA (λ_ h=>h) (λb hb=>hold b (hI.sup b hb).1) (hpre0 _)⟩)
     (λb hb=>by simp[Res.foot]at hb;subst hb;simp)
    refine⟨(λc hc=>by rw[g1]at hc;cases hc),De (v:=.pointer (some ⟨w.heap.size,0,none⟩)) (w':=w.alloc (.cells z.cells t)) ?_ (fin _ _ S _ (by rw[hcR];exact hI') (λ_ h=>h) (λb hb=>hold b (hI.sup b hb).1) hpre (hdeads _) ?_ (.inl hpt))⟩
    .have he:execOp a.eval q.o=execOp a.eval {q.o with op:=.alloc t}:=by rw[←g1]
     rw[he];simp[execOp,Instr.alloc,newVar,newRow,Fz g2]
    .intro _;rw[g5];exact .d (.o (by simp[hil]))
   .have hcl:Cl.ok P (.fltm i c1 r1 r'):=Wd hneed hrec.cs (hrec.ok _ (by rw[g5])) hpt;obtain⟨hc1,hsame⟩:=hcl;subst hsame;have hRi:=htr g4;obtain⟨l0,nn,cs,e,r2,m1,m2,m3,m4,m5,m6⟩:=Zl (S:=S) (w:=w) g2 (λx hx=>by rw[g6]at hx;cases hx;exact hc1) (λb hb=>(hI.sup b hb).1);have hr2:r2=r1:=by rw[g3]at m3;simpa using m3.symm
    subst hr2;have hold:∀b,b<w.heap.size->(w.alloc (.cells cs e)).heap[b]?=w.heap[b]?:=λb hb=>B8 _ _ _ hb;have hlk:=Bc hneed hpt m1;obtain⟨hI',hpre⟩:=hI.birth (w':=w.alloc (.cells cs e)) (v:=.slice (some ⟨w.heap.size,0,none⟩) nn nn) hRi k1 k2 (hfl.low q i hq hfl') hold (by simp) rfl ⟨rfl,λ_=>by first|exact ai _|exact aC _⟩ rfl
     (.inr (m5 _)) (λb hb=>by rw[m6 b hb];simp)
    refine⟨(λc hc=>by rw[g1]at hc;cases hc),De (v:=.slice (some ⟨w.heap.size,0,none⟩) nn nn) (w':=w.alloc (.cells cs e)) ?_ (fin _ _ S _ (by rw[hcR];exact hI') (λ_ h=>h) (λb hb=>hold b (hI.sup b hb).1) hpre (hdeads _) ?_ (.inl hpt))⟩
    .have he:execOp a.eval q.o=execOp a.eval {q.o with op:=.makeSlice t l l}:=by rw[←g1]
     rw[he];simp only[execOp,hlk,eo,m4];rfl
    .intro _;rw[g5];exact .d (.os (by simp[hil]) rfl)
  .have hnw:¬(Region.wanted q.o (yielded ops a.tmps)=true):=λh=>hpt (hw1.1 h);rw[em hnw];have hne:q.cur.isEmpty=false:=by
    cases hc:q.cur.isEmpty with
    |false=>rfl
    |true=>simp at hc;rw[hc]at hpt;exact absurd Bz hpt
   cases hd:q.o.dst with
   |none=>have:=hrec.nodst hd;rw[hne]at this;cases this
   |some d=>have:=fin undef w S ρ (by rw[hcR];exact hI) (λ_ h=>h) (λ_ _=>rfl) (Pre.refl ρ).a (deads ρ (Pre.refl _)) (λh=>absurd h hpt) (.inr rfl);rw[hd]at this;exact this
def unl(listed:Array Bool):Nat:=(listed.toList.filter λb=>!b).length
theorem A08{listed:Array Bool}(h:listed[i]?=some false):unl (listed.setIfInBounds i true)+1=unl listed:=by
 obtain⟨l⟩:=listed;simp only[unl,List.setIfInBounds_toArray];simp only[cJ]at h;induction l generalizing i with
 |nil=>simp at h
 | cons x l ih=>
  cases i with
  |zero=>simp at h;subst h;simp
  |succ i=>grind
theorem A60(hch:Kk P n ops L0 R0 rs L' R')(hidx:rs.map (·.i)=List.range ops.size)(hany:Am4 ops L0 rs)(hfl:Au4 C rs){ro:Option Nat}{Q:Exit->Act->World->Prop}(hQ:∀a' w',Sat n C L' R' a' w'->Q .normal a' w') :
  ∀(fuel:Nat)(listed:Array Bool)(a:Act)(w:World),listed.size=ops.size->unl listed<=fuel->Al ops (λi=>listed.getD i false)->J n C L0 R0 rs (λi=>listed.getD i false) a w ->
   wpAnyIn (FR ro) 0 P .any ops Q fuel listed a w:=by
 have hs:Hw rs:=by
  have:(rs.map (·.i)).Pairwise (· < ·):=by rw[hidx];exact List.pairwise_lt_range
  rw[List.pairwise_map]at this;exact this
 have hget:∀i,i<ops.size->∃r,r∈rs/\r.i=i:=by
  intro i hi;have:i∈rs.map (·.i):=by rw[hidx];simpa using hi
  obtain⟨r,hr,e⟩:=aA.1 this;exact⟨r,hr,e⟩
 have hlt:∀r,r∈rs->r.i<ops.size:=by intro r hr;have:r.i∈rs.map (·.i):=aA.2 ⟨r,hr,rfl⟩;rw[hidx]at this;simpa using this
 have done:∀(listed:Array Bool)(a:Act)(w:World),listed.size=ops.size->(∀i,i<ops.size->listed.getD i false=true)->J n C L0 R0 rs (λi=>listed.getD i false) a w->Q .normal a w:=by
  intro listed a w _ hall ⟨h1,h2,S,ρ,h3,h4,_⟩;have hX:∀r,r∈rs->listed.getD r.i false=true:=λr hr=>hall _ (hlt r hr);refine hQ a w ⟨h1,h2,S,ρ,by rw[Ye hch hX]at h3;exact h3,λe he=>h4 e ?_⟩;rcases Zx hch hs e he with⟨g1,g2⟩|⟨r,g1,g2,g3,g4,g5⟩
  .exact .inl ⟨g1,λq hq _=>g2 q hq⟩
  .exact .inr ⟨r,g1,hX r g1,g2,g3,g4,λq hq hl _=>g5 q hq hl⟩
 have none_ready:∀(listed:Array Bool),listed.size=ops.size->Region.ready .any ops listed=[]->∀i,i<ops.size->listed.getD i false=true:=by
  intro listed hsz hr i;induction i using Nat.strongRecOn with
  | _ i ih=>
   intro hi;cases hx:listed.getD i false with
   |true=>rfl
   | false=>
    exfalso;obtain⟨r,hr1,hr2⟩:=hget i hi;have hrec:=P0 hch hr1;have:i∈Region.ready .any ops listed:=by
     rw[mem_ready];have hil:i<listed.size:=by omega
     refine⟨by simp only[bt,cS hil]at hx ⊢;simpa using hx,r.o,by rw[←hr2];exact hrec.op,λe he hb=>?_⟩;have:=hany.back r hr1 e he hb;exact ih e.on (by omega) (by omega)
    rw[hr]at this;cases this
 intro fuel;induction fuel with
 | zero=>
  intro listed a w hsz hu hX hJ;have hall:∀i,i<ops.size->listed.getD i false=true:=by
   intro i hi;have hil:i<listed.size:=by omega
   have hnil:listed.toList.filter (λb=>!b)=[]:=bm (Nat.le_zero.1 hu);rw[cT]at hnil;have:=hnil listed[i] (by simp);simp only[bt,cS hil,cG];simpa using this
  refine⟨?_,done listed a w hsz hall hJ⟩;apply List.eq_nil_iff_forall_not_mem.2;intro j hj;rw[mem_ready]at hj;obtain⟨h1,o,ho,_⟩:=hj;have hjl:j<ops.size:=(aL.1 ho).1;have:=hall j hjl;have hjs:j<listed.size:=by omega
  simp only[bt,cS hjs,cG]at h1 this;rw[h1]at this;cases this
 | succ fuel ih=>
  intro listed a w hsz hu hX hJ;refine⟨λhr=>done listed a w hsz (none_ready listed hsz hr) hJ,λi hi=>?_⟩;rw[mem_ready]at hi;obtain⟨h1,o,ho,hall⟩:=hi;have hil:i<ops.size:=(aL.1 ho).1;have his:i<listed.size:=by omega
  have hif:listed[i]?=some false:=by rw[cS his];simp only[bt,cS his,cG]at h1;rw[h1]
  obtain⟨q,hq,hqi⟩:=hget i hil;have hrec:=P0 hch hq;have hqo:q.o=o:=by have:=hrec.op;rw[hqi,ho]at this;cases this;rfl
  have hX':∀j,(listed.setIfInBounds i true).getD j false=(listed.getD j false || decide (j=q.i)):=by
   intro j;rw[hqi];simp only[bt,Array.getElem?_setIfInBounds];by_cases hji:j=i
   .subst hji;simp[his]
   .simp[Ne.symm hji,hji]
  subst hqi;refine Abw (λ_ _ h=>h) (Au0 hch hs hany hfl (X':=λj=>(listed.setIfInBounds q.i true).getD j false) hX hq ?_ (by rw[hqo];exact hall) hX' hJ λa' w' hJ'=>ih _ a' w' (by simpa using hsz) ?_ ?_ hJ')
  .simp[ef,hif]
  .have:=A08 hif;omega
  .intro j o' hj ho' e he hb;simp only[hX',aS,dM]at hj ⊢;rcases hj with hj|rfl
   .exact .inl (hX j o' hj ho' e he hb)
   .rw[ho]at ho';cases ho';exact .inl (hall e he hb)
end
end Go.SL
namespace Go.SL
variable{f:D->D}{pi ts:ey}{e i j k size t:Nat}{v x:Value}
abbrev St:=List (Nat×AV)
def mkL:St->List Ent
 | []=>[]
 |(t,v)::r=>⟨t,[],v⟩::mkL r
def sel(L:List Ent):ey->Option St
 | []=>some []
 |t::ts=>match Ds L t,sel L ts with
  |some e,some r=>bif e.p.isEmpty then some ((t,e.v)::r) else none
  |_,_=>none
def Hd:St->ey
 | []=>[]
 |(t,_)::r=>t::Hd r
def W(ro:Option Nat)(P:Program)(n:Nat)(C:Ctx)(Q:Exit->Act->World->Prop)(c:Code)(st:St)(R:List Res):Prop:=
 ∀a w,Sat n C (mkL st) R a w->c.wpIn (FR ro) 0 P Q a w
section
variable{ro:Option Nat}{P:Program}{n:Nat}{C:Ctx}{Q:Exit->Act->World->Prop}{st st':St}{R R':List Res}{S S':Nat->Prop}{w w':World}{ρ ρ':eA}{a:Act}
theorem Cu:∀{st:St}{e:Ent},e∈mkL st->e.p=[]
 | [],e,h=>by cases h
 |(t,v)::r,e,h=>by
  rcases ah.1 h with rfl|h
  .rfl
  .exact Cu h
theorem Qp:∀{ts:ey}{L:List Ent}{st:St},sel L ts=some st->∀e,e∈mkL st->e∈L
 | [],L,st,h,e,he=>by simp[sel]at h;subst h;cases he
 | t :: ts, L, st, h, e, he => by
  simp only[sel]at h;split at h
  .rename_i x r h1 h2;cases hp:x.p.isEmpty with
   |false=>rw[hp]at h;simp at h
   | true=>
    rw[hp]at h;simp at h;subst h;obtain⟨g1,g2⟩:=C5 h1;rcases ah.1 he with rfl|he
    .have:(⟨t,[],x.v⟩:Ent)=x:=by
      obtain⟨xt,xp,xv⟩:=x;grind
     rw[this];exact g1
    .exact Qp h2 e he
  .cases h
theorem Sat.sub{L L':List Ent}(h:Sat n C L R a w)(hs:∀e,e∈L'->e∈L):Sat n C L' R a w:=by obtain⟨h1,h2,S,ρ,h3,h4⟩:=h;exact⟨h1,h2,S,ρ,h3,λe he=>h4 e (hs e he)⟩
def Ex{σ:Type}(n:Nat)(C:Ctx)(φ:σ->Prop)(st:σ->St)(R:σ->List Res)(a:Act)(w:World):Prop:=∃s,φ s/\Sat n C (mkL (st s)) (R s) a w
theorem Inv.pick(hI:Inv C S w ρ R){Rp R2:List Res}(hn:Fw pi=true)(hp:I2 R pi=some Rp)(hr:Ht (D4 pi) Rp=some R2)(hh:Pre C.h (Dr ρ pi)) :
  Inv C S w (Dr ρ pi) R2:=by
 obtain⟨st,hid,foots⟩:=hI.start hn hp hr;refine⟨st.len,st.ok,st.dis,λj r h b h1 h2 h3=>?_,hI.sub,hI.sup,hI.frm,hI.size,hI.os,hI.tape,hI.output,hh,hI.gl⟩;obtain⟨i,r0,k1,k2,k3,k4⟩:=foots j r h h1 h2;exact hI.own i r0 h b k2 k3 (by rw[←k4];exact h3)
def Wf(f:Nat->Option Nat):St->Option St
 | []=>some []
 |(t,v)::r=>match v.norm.ren f,Wf f r with
  |some v',some r'=>some ((t,v')::r')
  |_,_=>none
theorem yP{f:Nat->Option Nat}:∀{st st':St},Wf f st=some st'->∀e,e∈mkL st'->∃e0,e0∈mkL st/\e0.t=e.t/\e.p=[]/\e0.v.norm.ren f=some e.v
 | [],st',h,e,he=>by simp[Wf]at h;subst h;cases he
 | (t, v) :: r, st', h, e, he => by
  simp only[Wf]at h;split at h
  .rename_i v' r' h1 h2;simp at h;subst h;rcases ah.1 he with rfl|he
   .exact⟨⟨t,[],v⟩,an,rfl,rfl,h1⟩
   .obtain⟨e0,g1,g2,g3,g4⟩:=yP h2 e he;exact⟨e0,am _ g1,g2,g3,g4⟩
  .cases h
def K9:Nat->ey->Nat->Bool
 |0,_,_=>true
 |k+1,i::r,j=>Nat.beq i j&&K9 k r (j+1)
 |_+1,[],_=>false
theorem Sk:∀{k:Nat}{l:ey}{j:Nat},K9 k l j=true->∀i,i<k->l[i]?=some (j+i)
 |0,_,_,_,i,h=>by omega
 |k+1,[],_,h,_,_=>by simp[K9]at h
 |k+1,a::r,j,h,i,hi=>by
  simp only[K9,aa]at h;cases i with
  |zero=>simp;exact af h.1
  |succ i=>simp;rw[Sk h.2 i (by omega)];congr 1;omega
def Xy(k:Nat)(pi ts:ey)(st:St)(R:List Res):Option (St×List Res):=
 bif Fw pi&&K9 k pi 0 then
  match sel (mkL st) ts,I2 R pi with
  |some st1,some Rp=>match Wf (D4 pi) st1,Ht (D4 pi) Rp with
   |some st',some R'=>some (st',R')
   |_,_=>none
  |_,_=>none
 else none
theorem Sat.re(hk:C.h.length<=k)(h:Xy k pi ts st R=some (st',R'))(hs:Sat n C (mkL st) R a w):Sat n C (mkL st') R' a w:=by
 unfold Xy at h;cases hb:(Fw pi&&K9 k pi 0) with
 |false=>rw[hb]at h;simp at h
 | true=>
  rw[hb]at h;simp only[eh]at h;simp only[aa]at hb;split at h
  .rename_i st1 Rp e1 e2;split at h
   .rename_i st2 R2 e3 e4;simp at h;obtain⟨rfl,rfl⟩:=h;obtain⟨h1,h2,S,ρ,h3,h4⟩:=hs.sub (Qp e1);have hid:∀(i j:Nat) x,D4 pi i=some j->ρ[i]?=some x->(Dr ρ pi)[j]?=some x:=(h3.start hb.1 e2 e4).2.1;refine⟨h1,h2,S,Dr ρ pi,h3.pick hb.1 e2 e4 λi v hv=>?_,λe he=>?_⟩
    .have hi:i<C.h.length:=(ac.1 hv).1;have:=Sk hb.2 i (by omega);simp only[aJ]at this;have hp:=h3.pre i v hv;simp[Dr,this,List.getD_eq_getElem?_getD,hp]
    .obtain⟨e0,g1,g2,g3,g4⟩:=yP e3 e he;have hp0:=Cu g1;obtain⟨k1,_⟩:=h4 e0 g1;obtain⟨v,hv,hr⟩:=k1 (by rw[hp0];exact Bz);refine⟨λ_=>⟨v,by rw[←g2];exact hv,hr.norm.ren hid _ g4⟩,λhn=>absurd (by rw[g3];exact Bz) hn⟩
   .cases h
  .cases h
def D.frz(i:Nat)(sz:Nat)(rows:List (List Pd)):D->D
 |.os j=>bif Nat.beq i j then .p (.s rows) else .os j
 |.osb j lo n s=>bif Nat.beq i j&&Nat.beq s sz then .p (.s ((rows.drop lo).take n)) else .osb j lo n s
 |d=>d
def AV.frz(i:Nat)(sz:Nat)(rows:List (List Pd)):AV->AV
 |.d x=>.d (x.frz i sz rows)
 |.agg ds=>.agg (ds.map (D.frz i sz rows))
 |.tup l=>.tup l
def Res.frz(i:Nat)(sz:Nat)(rows:List (List Pd)):Res->Res
 |.box t cells=>.box t (cells.map (D.frz i sz rows))
 |.vec t s cells=>.vec t s (cells.map (D.frz i sz rows))
 |r=>r
def Aj9(i:Nat)(st:St)(R:List Res):Option (St×List Res):=
 match R[i]? with
 |some (.sl _ sz rows)=>some (st.map λx=>(x.1,x.2.frz i sz rows),(R.set i .non).map (Res.frz i sz rows))
 |_=>none
theorem Qw{f:AV->AV}:∀{st:St}{e:Ent},e∈mkL (st.map λx=>(x.1,f x.2))->∃e0,e0∈mkL st/\e0.t=e.t/\e.p=[]/\e.v=f e0.v
 | [],e,h=>by cases h
 | (t,v)::r,e,h=>by
  rcases ah.1 h with rfl|h
  .exact⟨⟨t,[],v⟩,an,rfl,rfl,rfl⟩
  .obtain⟨e0,g1,g2⟩:=Qw h;exact⟨e0,am _ g1,g2⟩
theorem Inv.frz{rows:List (List Pd)}(h3:Inv C S w ρ R)(hi:R[i]?=some (.sl e size rows)) :
  ∃S',(∀b,S b->S' b)/\Inv C S' w ρ ((R.set i .non).map (Res.frz i size rows))/\∀v d,RdA S w ρ v d->RdA S' w ρ v (d.frz i size rows):=by
 have hil:i<ρ.length:=by rw[h3.len];exact(ac.1 hi).1
 have hρ:ρ[i]?=some ρ[i]:=ak hil;have hF:=h3.freeze hi hρ;have hrow:ρ[i].oneCell'=true->RdP (λb=>S b\/(Res.sl e size rows).foot ρ[i] b) w ρ[i] (.s rows):=λh1=>Res.ok0.frozen ((h3.ok i _ _ hi hρ).live h1)
 have hd : ∀v d, Rd S w ρ v d -> Rd (λb => S b \/ (Res.sl e size rows).foot ρ[i] b) w ρ v (d.frz i size rows) := by
  intro v d hr;have hm:=hr.mono (S':=λb=>S b\/(Res.sl e size rows).foot ρ[i] b) (w':=w) (ρ':=ρ) (λ_ h=>.inl h) (λ_ _=>rfl) (Pre.refl _);cases d with
  | os j=>
   simp only[D.frz];cases hb:Nat.beq i j with
   |false=>simpa using hm
   |true=>have:=af hb;subst this;have h1:=hr.one;have:=hr.os_inv;rw[hρ]at this;cases this;exact .p (hrow h1)
  | osb j lo m sz=>
   simp only[D.frz];cases hb:Nat.beq i j&&Nat.beq sz size with
   |false=>simpa using hm
   | true=>
    simp only[aa]at hb;have:=af hb.1;subst this;have:=af hb.2;subst this;cases hr with
    | @osb _ _ _ _ q ad len cap g1 hl hc hq hq2=>
     rw[hρ]at g1;have g3:ρ[i]=.slice ad len cap:=by simpa using g1
     have hF:=hrow (by rw[g3];rfl);have hkk:=(h3.ok i _ _ hi hρ).live (by rw[g3];rfl);have hz:∀row,row∈rows->row.length=sz:=by
      rcases hkk with⟨_,h0⟩|⟨b,o,cp,vs,_,_,_,_,_,h0,_⟩
      .subst h0;simp
      .exact h0
     have g2:ρ[i]=.slice ad len cap:=by simpa using g1
     rw[g2]at hF;have hcut:=RdP.cut hF (l:=lo) (h:=lo+m) (by omega) hl hz;rw[show (lo+m)-lo=m from by omega,List.drop_take,show (lo+m)-lo=m from by omega]at hcut;have hF0:=hF;rw[g2];simp only[eh];by_cases hlc:lo<cap
     .rw[em (by omega)]at hcut;rw[hq2 hlc];exact .p hcut
     .have hlc:cap=lo:=by omega
      subst hlc;have hn0:m=0:=by obtain⟨_,_,hsf,hle,_⟩:=hF0.slice_form;cases hsf;omega
      subst hn0;simp only[List.take_zero];exact .p (.s _ ⟨0,0,none⟩ _ 0 [] (λ_ _=>undef) (bi _) (by simp) (λ_=>by simp) (by simp) (by simp) (by simp))
  |_=>exact hm
 have ha:∀v d,RdA S w ρ v d->RdA (λb=>S b\/(Res.sl e size rows).foot ρ[i] b) w ρ v (d.frz i size rows):=by
  intro v d hr;cases hr with
  |d h=>exact .d (hd _ _ h)
  |agg h=>exact .agg (h.map_right λ_ _ h=>hd _ _ h)
  |tup hl h=>exact .tup hl λj x a hx ha=>(h j x a hx ha).mono (λ_ h=>.inl h) (λ_ _=>rfl) (Pre.refl _)
 have hget:∀(j:Nat) r,((R.set i .non).map (Res.frz i size rows))[j]?=some r->∃r0,(R.set i .non)[j]?=some r0/\r=r0.frz i size rows:=by intro j r hj;rw[au]at hj;obtain⟨r0,g1,g2⟩:=Cv hj;exact⟨r0,g1,g2.symm⟩
 have hfoot:∀(r0:Res) v,(r0.frz i size rows).foot v=r0.foot v:=by intro r0 v;cases r0 <;> rfl
 refine⟨_,λ_ h=>.inl h,⟨by rw[aq];exact hF.len,λj r v hj hv=>?_,λj k r r2 v v2 b hjk hj hk hv hv2 hf hf2=>?_,λj r v b hj hv hf=>?_,hF.sub,hF.sup,hF.frm,hF.size,hF.os,hF.tape,hF.output,hF.pre,hF.gl⟩,ha⟩
 .obtain⟨r0,g1,rfl⟩:=hget j r hj;have hok:=hF.ok j r0 v g1 hv;rw[aB]at g1;split at g1
  .split at g1
   .cases g1;exact .inr trivial
   .cases g1
  .have hok0:=h3.ok j r0 v g1 hv;cases r0 with
   |box t cells=>
    rcases hok0 with h0|⟨b,vs,rfl,hb,hc⟩
    .exact .inl h0
    .exact .inr ⟨b,vs,rfl,hb,hc.map_right λ_ _ h=>hd _ _ h⟩
   |vec t s cells=>
    rcases hok0 with h0|⟨b,o,len,cap,vs,rfl,hb,hk,hc⟩
    .exact .inl h0
    .exact .inr ⟨b,o,len,cap,vs,rfl,hb,by rw[aq];exact hk,hc.map_right λ_ _ h=>hd _ _ h⟩
   |_=>exact hok
 .obtain⟨r0,g1,rfl⟩:=hget j r hj;obtain⟨r1,g2,rfl⟩:=hget k r2 hk;rw[hfoot]at hf hf2;exact hF.dis j k r0 r1 v v2 b hjk g1 g2 hv hv2 hf hf2
 .obtain⟨r0,g1,rfl⟩:=hget j r hj;rw[hfoot]at hf;exact hF.own j r0 v b g1 hv hf
theorem Sat.frz(h:Aj9 i st R=some (st',R'))(hs:Sat n C (mkL st) R a w):Sat n C (mkL st') R' a w:=by
 unfold Aj9 at h;split at h
 .rename_i e size rows hi;simp only[ae,al]at h;obtain⟨rfl,rfl⟩:=h;obtain⟨h1,h2,S,ρ,h3,h4⟩:=hs;obtain⟨S',_,hI,ha⟩:=h3.frz hi;refine⟨h1,h2,S',ρ,hI,λe he=>?_⟩;obtain⟨e0,g1,g2,g3,g4⟩:=Qw he;have hp0:=Cu g1;obtain⟨k1,_⟩:=h4 e0 g1;obtain⟨v,hv,hr⟩:=k1 (by rw[hp0];exact Bz);refine⟨λ_=>⟨v,by rw[←g2];exact hv,by rw[g4];exact ha _ _ hr⟩,λhn=>absurd (by rw[g3];exact Bz) hn⟩
 .cases h
def Akl(i:Nat)(st:St)(R:List Res):Option (St×List Res):=
 match R[i]? with
 |some (.sl _ sz [])=>some (st.map λx=>(x.1,x.2.frz i sz []),R.map (Res.frz i sz []))
 |_=>none
theorem Inv.emp(h3:Inv C S w ρ R)(hi:R[i]?=some (.sl e size [])) :
  Inv C S w ρ (R.map (Res.frz i size []))/\∀v d,RdA S w ρ v d->RdA S w ρ v (d.frz i size []):=by
 have hil:i<ρ.length:=by rw[h3.len];exact(ac.1 hi).1
 have hρ:ρ[i]?=some ρ[i]:=ak hil;have nil:∀{a:Option Addr}{cap:Nat},cap<=maxLen->(a=none->cap=0)->RdP S w (.slice a 0 cap) (.s []):=λhm hz=>.s _ ⟨0,0,none⟩ _ 0 [] (λ_ _=>undef) (bi _) hm hz (by simp) (by simp) (by simp);have hsl:ρ[i].oneCell'=true->ρ[i]=.slice none 0 0\/∃b cap,ρ[i]=.slice (some b) 0 cap/\cap<=maxLen:=λh1=>by
  rcases(h3.ok i _ _ hi hρ).live h1 with⟨h,_⟩|⟨b,o,cap,vs,h,_,_,h2,_⟩
  .exact .inl h
  .exact .inr ⟨_,_,h,h2⟩
 have hd : ∀v d, Rd S w ρ v d -> Rd S w ρ v (d.frz i size []) := by
  intro v d hr;cases d with
  | os j=>
   simp only[D.frz];cases hb:Nat.beq i j with
   |false=>simpa using hr
   |true=>
    have:=af hb;subst this;have h1:=hr.one;have:=hr.os_inv;rw[hρ]at this;cases this;rcases hsl h1 with h|⟨b,cap,h,h2⟩
    .rw[h];exact .p (nil (bi _) λ_=>rfl)
    .rw[h];exact .p (nil h2 λh=>by cases h)
  | osb j lo m sz=>
   simp only[D.frz];cases hb:Nat.beq i j&&Nat.beq sz size with
   |false=>simpa using hr
   | true=>
    simp only[aa]at hb;have:=af hb.1;subst this;cases hr with
    | @osb _ _ _ _ q ad len cap g1 hl hc hq hq2=>
     rw[hρ]at g1;have g3:ρ[i]=.slice ad len cap:=by simpa using g1
     rcases hsl (by rw[g3];rfl) with h|⟨b,cap',h,h2⟩
     .rw[h]at g3;cases g3;have hm:m=0:=by omega
      have hlo:lo=0:=by omega
      subst hm;subst hlo;exact .p (nil (bi _) λ_=>rfl)
     .rw[h]at g3;cases g3;have hm:m=0:=by omega
      subst hm;exact .p (by simpa using nil (a:=some (b.add q)) (cap:=cap-lo) (by omega) (by simp))
  |_=>exact hr
 have ha:∀v d,RdA S w ρ v d->RdA S w ρ v (d.frz i size []):=by
  intro v d hr;cases hr with
  |d h=>exact .d (hd _ _ h)
  |agg h=>exact .agg (h.map_right λ_ _ h=>hd _ _ h)
  |tup hl h=>exact .tup hl h
 have hget:∀(j:Nat) r,(R.map (Res.frz i size []))[j]?=some r->∃r0,R[j]?=some r0/\r=r0.frz i size []:=by intro j r hj;rw[au]at hj;obtain⟨r0,g1,g2⟩:=Cv hj;exact⟨r0,g1,g2.symm⟩
 have hfoot:∀(r0:Res) v,(r0.frz i size []).foot v=r0.foot v:=by intro r0 v;cases r0 <;> rfl
 refine⟨⟨by rw[aq];exact h3.len,λj r v hj hv=>?_,λj k r r2 v v2 b hjk hj hk hv hv2 hf hf2=>?_,λj r v b hj hv hf=>?_,h3.sub,h3.sup,h3.frm,h3.size,h3.os,h3.tape,h3.output,h3.pre,h3.gl⟩,ha⟩
 .obtain⟨r0,g1,rfl⟩:=hget j r hj;have hok:=h3.ok j r0 v g1 hv;cases r0 with
  |box t cells=>
   rcases hok with h0|⟨b,vs,rfl,hb,hc⟩
   .exact .inl h0
   .exact .inr ⟨b,vs,rfl,hb,hc.map_right λ_ _ h=>hd _ _ h⟩
  |vec t s cells=>
   rcases hok with h0|⟨b,o,len,cap,vs,rfl,hb,hk,hc⟩
   .exact .inl h0
   .exact .inr ⟨b,o,len,cap,vs,rfl,hb,by rw[aq];exact hk,hc.map_right λ_ _ h=>hd _ _ h⟩
  |_=>exact hok
 .obtain⟨r0,g1,rfl⟩:=hget j r hj;obtain⟨r1,g2,rfl⟩:=hget k r2 hk;rw[hfoot]at hf hf2;exact h3.dis j k r0 r1 v v2 b hjk g1 g2 hv hv2 hf hf2
 .obtain⟨r0,g1,rfl⟩:=hget j r hj;rw[hfoot]at hf;exact h3.own j r0 v b g1 hv hf
theorem Sat.emp(h:Akl i st R=some (st',R'))(hs:Sat n C (mkL st) R a w):Sat n C (mkL st') R' a w:=by
 unfold Akl at h;split at h
 .rename_i e size hi;simp only[ae,al]at h;obtain⟨rfl,rfl⟩:=h;obtain⟨h1,h2,S,ρ,h3,h4⟩:=hs;obtain⟨hI,ha⟩:=h3.emp hi;refine⟨h1,h2,S,ρ,hI,λe he=>?_⟩;obtain⟨e0,g1,g2,g3,g4⟩:=Qw he;have hp0:=Cu g1;obtain⟨k1,_⟩:=h4 e0 g1;obtain⟨v,hv,hr⟩:=k1 (by rw[hp0];exact Bz);refine⟨λ_=>⟨v,by rw[←g2];exact hv,by rw[g4];exact ha _ _ hr⟩,λhn=>absurd (by rw[g3];exact Bz) hn⟩
 .cases h
def Ai3(i:Nat)(st:St)(R:List Res):Option (St×List Res):=
 match R[i]? with
 |some (.vec e s cells)=>(dPs cells).map λps=>(st,R.set i (.sl e s (Cm s (cells.length / s) ps)))
 |_=>none
theorem Sat.vsl(h:Ai3 i st R=some (st',R'))(hs:Sat n C (mkL st) R a w):Sat n C (mkL st') R' a w:=by
 unfold Ai3 at h;split at h
 .rename_i e s cells hi;obtain⟨ps,hp,h⟩:=Cv h;simp only[al]at h;obtain⟨rfl,rfl⟩:=h;obtain⟨h1,h2,S,ρ,h3,h4⟩:=hs;exact⟨h1,h2,S,ρ,h3.swapV hi (λv _ _ hv=>dL hv λxs hx=>O8 hp hx) (λv b hf=>Ko.2 hf),h4⟩
 .cases h
mutual
def D.bx(i:Nat)(ps:List Pd):D->D
 |.o j off=>bif Nat.beq i j then .ip (ps.drop off) else .o j off
 |.fn f a b=>.fn f (D.bxL i ps a) (D.bxL i ps b)
 |d=>d
def D.bxL(i:Nat)(ps:List Pd):List D->List D
 | []=>[]
 |d::r=>D.bx i ps d::D.bxL i ps r
end
theorem dH{i:Nat}{ps:List Pd}:∀{l:List D},D.bxL i ps l=l.map (D.bx i ps)
 | []=>rfl
 |d::r=>by simp only[D.bxL,bv,dH]
def AV.bx(i:Nat)(ps:List Pd):AV->AV
 |.d x=>.d (x.bx i ps)
 |.agg ds=>.agg (ds.map (D.bx i ps))
 |.tup l=>.tup l
def Res.bx(i:Nat)(ps:List Pd):Res->Res
 |.box t cells=>.box t (cells.map (D.bx i ps))
 |.vec t s cells=>.vec t s (cells.map (D.bx i ps))
 |r=>r
def Aum(i:Nat)(st:St)(R:List Res):Option (St×List Res):=
 match R[i]? with
 |some (.box _ cells)=>(dPs cells).map λps=>(st.map λx=>(x.1,x.2.bx i ps),(R.set i .non).map (Res.bx i ps))
 |_=>none
theorem Inv.bx{cells:List D}{ps:List Pd}(h3:Inv C S w ρ R)(hi:R[i]?=some (.box t cells))(hp:dPs cells=some ps) :
  ∃S',(∀b,S b->S' b)/\Inv C S' w ρ ((R.set i .non).map (Res.bx i ps))/\∀v d,RdA S w ρ v d->RdA S' w ρ v (d.bx i ps):=by
 have hil:i<ρ.length:=by rw[h3.len];exact(ac.1 hi).1
 have hρ:ρ[i]?=some ρ[i]:=ak hil;have hF:=h3.freeze hi hρ;have hcell:∀b off,ρ[i]=.pointer (some ⟨b,0,none⟩)->Fy (λk=>S k\/(Res.box t cells).foot ρ[i] k) w ⟨b,off,none⟩ (ps.drop off):=by intro b off hb j d hj;rw[hb]at hρ;obtain⟨vs,h1,h2⟩:=Kx h3 hi hρ;rw[ar]at hj;obtain⟨x,hx,hr⟩:=(O8 hp h2).get hj;refine⟨x,.inr (by rw[hb];rfl),?_,hr.mono (λ_ h=>.inl h) λ_ _=>rfl⟩;rw[Cn,Jn h1];simpa using hx
 have hd:∀v d,Rd S w ρ v d->Rd (λk=>S k\/(Res.box t cells).foot ρ[i] k) w ρ v (d.bx i ps):=by
  intro v d hr;induction hr with
  | @o j b off h=>
   simp only[D.bx];cases hb:Nat.beq i j with
   |false=>exact .o h
   |true=>have:=af hb;subst this;rw[hρ]at h;simp only[ae]at h;exact .ip (hcell b off h)
  | @fn f xs cs first caps hl hm _ _ ih1 ih2=>
   simp only[D.bx,dH];refine .fn (by rw[aq];exact hl) (by rw[aq];exact hm) (λj x d hx hd=>?_) (λj x d hx hd=>?_)
   .rw[au]at hd;obtain⟨d0,g1,rfl⟩:=Cv hd;exact ih1 j x d0 hx g1
   .rw[au]at hd;obtain⟨d0,g1,rfl⟩:=Cv hd;exact ih2 j x d0 hx g1
  |p h=>exact .p (h.mono (λ_ h=>.inl h) λ_ _=>rfl)
  |os h h1=>exact .os h h1
  |oe h=>exact .oe h
  |osb h a b c d=>exact .osb h a b c d
  |oi h a b=>exact .oi h a b
  |ip h=>exact .ip (h.mono (λ_ h=>.inl h) λ_ _=>rfl)
  |any h=>exact .any h
  |nq h=>exact .nq h
  |fb hl h=>exact .fb hl λj x d h1 h2=>(h j x d h1 h2).mono (λ_ h=>.inl h) λ_ _=>rfl
 have ha:∀v d,RdA S w ρ v d->RdA (λk=>S k\/(Res.box t cells).foot ρ[i] k) w ρ v (d.bx i ps):=by
  intro v d hr;cases hr with
  |d h=>exact .d (hd _ _ h)
  |agg h=>exact .agg (h.map_right λ_ _ h=>hd _ _ h)
  |tup hl h=>exact .tup hl λj x a hx ha=>(h j x a hx ha).mono (λ_ h=>.inl h) (λ_ _=>rfl) (Pre.refl _)
 have hget:∀(j:Nat) r,((R.set i .non).map (Res.bx i ps))[j]?=some r->∃r0,(R.set i .non)[j]?=some r0/\r=r0.bx i ps:=by intro j r hj;rw[au]at hj;obtain⟨r0,g1,g2⟩:=Cv hj;exact⟨r0,g1,g2.symm⟩
 have hfoot:∀(r0:Res) v,(r0.bx i ps).foot v=r0.foot v:=by intro r0 v;cases r0 <;> rfl
 refine⟨_,λ_ h=>.inl h,⟨by rw[aq];exact hF.len,λj r v hj hv=>?_,λj k r r2 v v2 b hjk hj hk hv hv2 hf hf2=>?_,λj r v b hj hv hf=>?_,hF.sub,hF.sup,hF.frm,hF.size,hF.os,hF.tape,hF.output,hF.pre,hF.gl⟩,ha⟩
 .obtain⟨r0,g1,rfl⟩:=hget j r hj;have hok:=hF.ok j r0 v g1 hv;rw[aB]at g1;split at g1
  .split at g1
   .cases g1;exact .inr trivial
   .cases g1
  .have hok0:=h3.ok j r0 v g1 hv;cases r0 with
   |box t cells=>
    rcases hok0 with h0|⟨b,vs,rfl,hb,hc⟩
    .exact .inl h0
    .exact .inr ⟨b,vs,rfl,hb,hc.map_right λ_ _ h=>hd _ _ h⟩
   |vec t s cells=>
    rcases hok0 with h0|⟨b,o,len,cap,vs,rfl,hb,hk,hc⟩
    .exact .inl h0
    .exact .inr ⟨b,o,len,cap,vs,rfl,hb,by rw[aq];exact hk,hc.map_right λ_ _ h=>hd _ _ h⟩
   |_=>exact hok
 .obtain⟨r0,g1,rfl⟩:=hget j r hj;obtain⟨r1,g2,rfl⟩:=hget k r2 hk;rw[hfoot]at hf hf2;exact hF.dis j k r0 r1 v v2 b hjk g1 g2 hv hv2 hf hf2
 .obtain⟨r0,g1,rfl⟩:=hget j r hj;rw[hfoot]at hf;exact hF.own j r0 v b g1 hv hf
theorem Sat.bx(h:Aum i st R=some (st',R'))(hs:Sat n C (mkL st) R a w):Sat n C (mkL st') R' a w:=by
 unfold Aum at h;split at h
 .rename_i t cells hi;obtain⟨ps,hp,h⟩:=Cv h;simp only[al]at h;obtain⟨rfl,rfl⟩:=h;obtain⟨h1,h2,S,ρ,h3,h4⟩:=hs;obtain⟨S',_,hI,ha⟩:=h3.bx hi hp;refine⟨h1,h2,S',ρ,hI,λe he=>?_⟩;obtain⟨e0,g1,g2,g3,g4⟩:=Qw he;have hp0:=Cu g1;obtain⟨k1,_⟩:=h4 e0 g1;obtain⟨v,hv,hr⟩:=k1 (by rw[hp0];exact Bz);refine⟨λ_=>⟨v,by rw[←g2];exact hv,by rw[g4];exact ha _ _ hr⟩,λhn=>absurd (by rw[g3];exact Bz) hn⟩
 .cases h
def Pl(t:Nat)(v:AV):St->St
 | []=>[]
 |(u,x)::r=>bif Nat.beq u t then (u,v)::Pl t v r else (u,x)::Pl t v r
def Lv(t:Nat):St->Bool
 | []=>true
 |(u,x)::r=>(!(Nat.beq u t) || match x with|.d (.p (.v (.slice none 0 0)))=>true|_=>false)&&Lv t r
def Ajh(t e size:Nat)(st:St)(R:List Res):Option (St×List Res):=
 bif Lv t st then some (Pl t (.d (.os R.length)) st,R++[.sl e size []]) else none
theorem Ue{t:Nat}{v:AV}:∀{st:St}{e:Ent},e∈mkL (Pl t v st)->(e.t=t/\e.p=[]/\e.v=v/\∃x,⟨t,[],x⟩∈mkL st/\(Lv t st=true->∃y,x=y/\(match y with|.d (.p (.v (.slice none 0 0)))=>true|_=>false)=true))\/e∈mkL st
 | [],e,h=>by cases h
 | (u, x) :: r, e, h => by
  simp only[Pl]at h;cases hb:Nat.beq u t with
  | true=>
   rw[hb]at h;simp only[eh]at h;have:=af hb;subst this;rcases ah.1 h with rfl|h
   .refine .inl ⟨rfl,rfl,rfl,x,an,λhn=>⟨x,rfl,?_⟩⟩;simp only[Lv,hb,bE,bU,aa]at hn;exact hn.1
   .rcases Ue h with⟨g1,g2,g3,y,g4,g5⟩|h
    .refine .inl ⟨g1,g2,g3,y,am _ g4,λhn=>g5 ?_⟩;simp only[Lv,aa]at hn;exact hn.2
    .exact .inr (am _ h)
  | false=>
   rw[hb]at h;simp only[eg]at h;rcases ah.1 h with rfl|h
   .exact .inr an
   .rcases Ue h with⟨g1,g2,g3,y,g4,g5⟩|h
    .refine .inl ⟨g1,g2,g3,y,am _ g4,λhn=>g5 ?_⟩;simp only[Lv,aa]at hn;exact hn.2
    .exact .inr (am _ h)
theorem Sat.own(h:Ajh t e size st R=some (st',R'))(hs:Sat n C (mkL st) R a w):Sat n C (mkL st') R' a w:=by
 unfold Ajh at h;cases hb:Lv t st with
 |false=>rw[hb]at h;simp at h
 | true=>
  rw[hb]at h;simp at h;obtain⟨rfl,rfl⟩:=h;obtain⟨h1,h2,S,ρ,h3,h4⟩:=hs;refine⟨h1,h2,S,ρ++[.slice none 0 0],h3.push (.sl e size []) (.slice none 0 0) (λ_ _=>rfl) (ai _) rfl ⟨rfl,λ_=>by grind⟩ rfl (.inr (.inl ⟨rfl,rfl⟩)) (by simp[Res.foot]),λx hx=>?_⟩;rcases Ue hx with⟨g1,g2,g3,y,g4,g5⟩|hx
  .obtain⟨z,rfl,hz⟩:=g5 hb;obtain⟨v,hv,hr⟩:=(h4 _ g4).1 Bz;split at hz
   .have:=hr.exact_inv;subst this;refine⟨λ_=>⟨.slice none 0 0,by rw[g1];exact hv,by rw[g3];exact .d (.os (by rw[←h3.len];simp) rfl)⟩,λhn=>absurd (by rw[g2];exact Bz) hn⟩
   .cases hz
  .obtain⟨k1,k2⟩:=h4 x hx;refine⟨λhp=>?_,k2⟩;obtain⟨v,hv,hr⟩:=k1 hp;exact⟨v,hv,hr.mono (λ_ h=>h) (λ_ _=>rfl) (Pre.append _ _)⟩
def AV.mapD(f:D->D):AV->AV
 |.d x=>.d (f x)
 |.agg ds=>.agg (ds.map f)
 |.tup l=>.tup l
def Res.mapD(f:D->D):Res->Res
 |.box t cells=>.box t (cells.map f)
 |r=>r
theorem dA(f:D->D)(r:Res)(v:Value):(r.mapD f).foot v=r.foot v:=by cases r <;> rfl
theorem Inv.mapD(h:Inv C S w ρ R)(hf:∀v d,Rd S w ρ v d->Rd S w ρ v (f d)):Inv C S w ρ (R.map (Res.mapD f)):=by
 have hget:∀(j:Nat) r,(R.map (Res.mapD f))[j]?=some r->∃r0,R[j]?=some r0/\r=r0.mapD f:=by grind
 refine⟨by rw[aq];exact h.len,λj r v hj hv=>?_,λj k r r2 v v2 b hjk hj hk hv hv2 hf hf2=>?_,λj r v b hj hv hf=>?_,h.sub,h.sup,h.frm,h.size,h.os,h.tape,h.output,h.pre,h.gl⟩
 .obtain⟨r0,g1,rfl⟩:=hget j r hj;have hok:=h.ok j r0 v g1 hv;cases r0 with
  |box t cells=>
   rcases hok with h0|⟨b,vs,rfl,hb,hc⟩
   .exact .inl h0
   .exact .inr ⟨b,vs,rfl,hb,hc.map_right λ_ _ h=>hf _ _ h⟩
  |_=>exact hok
 .obtain⟨r0,g1,rfl⟩:=hget j r hj;obtain⟨r1,g2,rfl⟩:=hget k r2 hk;rw[dA]at hf hf2;exact h.dis j k r0 r1 v v2 b hjk g1 g2 hv hv2 hf hf2
 .obtain⟨r0,g1,rfl⟩:=hget j r hj;rw[dA]at hf;exact h.own j r0 v b g1 hv hf
theorem RdA.mapD(hf:∀v d,Rd S w ρ v d->Rd S w ρ v (f d)){x:AV}(h:RdA S w ρ v x):RdA S w ρ v (x.mapD f):=by
 cases h with
 |d h=>exact .d (hf _ _ h)
 |agg h=>exact .agg (h.map_right λ_ _ h=>hf _ _ h)
 |tup hl h=>exact .tup hl h
def D.mv(i j:Nat):D->D
 |.os k=>bif Nat.beq i k then .os j else .os k
 |d=>d
def As2(i:Nat)(st:St)(R:List Res):Option (St×List Res):=
 match R[i]? with
 |some (.sl e size rows)=>some (st.map λx=>(x.1,x.2.mapD (D.mv i R.length)),(R.set i .non++[Res.sl e size rows]).map (Res.mapD (D.mv i R.length)))
 |_=>none
theorem Sat.mv(h:As2 i st R=some (st',R'))(hs:Sat n C (mkL st) R a w):Sat n C (mkL st') R' a w:=by
 unfold As2 at h;split at h
 .rename_i e size rows hi;simp only[ae,al]at h;obtain⟨rfl,rfl⟩:=h;obtain⟨h1,h2,S,ρ,h3,h4⟩:=hs;obtain⟨v,hv⟩:=h3.rho hi;have hM:Inv C S w (ρ++[v]) (R.set i .non++[Res.sl e size rows]):=h3.move (r':=.sl e size rows) (v':=v) hi hv (λ_ _ _=>rfl) (ai _) rfl ⟨rfl,λ_=>by grind⟩ rfl (λk hk=>.inl hk)
   ((h3.ok i _ v hi hv).mono (λ_ h=>h) (λ_ _=>rfl) (Pre.append _ _) (λ_ _=>rfl))
  have hd:∀x d,Rd S w (ρ++[v]) x d->Rd S w (ρ++[v]) x (d.mv i R.length):=by
   intro x d hr;cases d with
   | os k=>
    simp only[D.mv];cases hb:Nat.beq i k with
    |false=>exact hr
    | true=>
     have:=af hb;subst this;cases hr with
     |os g1 g2=>have:(ρ++[v])[i]?=some v:=Pre.append _ _ _ _ hv;rw[this]at g1;cases g1;exact .os (by rw[←h3.len];simp) g2
   |_=>exact hr
  refine⟨h1,h2,S,ρ++[v],hM.mapD hd,λx hx=>?_⟩;obtain⟨e0,g1,g2,g3,g4⟩:=Qw hx;have hp0:=Cu g1;obtain⟨k1,_⟩:=h4 e0 g1;obtain⟨y,hy,hr⟩:=k1 (by rw[hp0];exact Bz);refine⟨λ_=>⟨y,by rw[←g2];exact hy,by rw[g4];exact(hr.mono (λ_ h=>h) (λ_ _=>rfl) (Pre.append _ _)).mapD hd⟩,λhn=>absurd (by rw[g3];exact Bz) hn⟩
 .cases h
def Qx:D->Bool
 |.p (.v (.slice none 0 0))=>true
 |_=>false
def Acd(i j e size:Nat)(st:St)(R:List Res):Option (St×List Res):=
 match R[i]? with
 |some (.box t cells)=>match cells[j]? with
  |some d=>bif Qx d then some (st,R.set i (.box t (cells.set j (.os R.length)))++[.sl e size []]) else none
  |none=>none
 |_=>none
theorem Inv.swap{r r':Res}(h:Inv C S w ρ R)(hi:R[i]?=some r)(hok:∀v,r.ok S w ρ v->r'.ok S w ρ v)(hf:∀v,r'.foot v=r.foot v):Inv C S w ρ (R.set i r'):=by
 have key:∀(j:Nat) r1,(R.set i r')[j]?=some r1->∃r0,R[j]?=some r0/\(∀v,r0.ok S w ρ v->r1.ok S w ρ v)/\∀v,r1.foot v=r0.foot v:=by grind
 refine⟨by rw[bV];exact h.len,λj r1 v hj hv=>?_,λj k r1 r2 v v2 b hjk hj hk hv hv2 hf hf2=>?_,λj r1 v b hj hv hf=>?_,h.sub,h.sup,h.frm,h.size,h.os,h.tape,h.output,h.pre,h.gl⟩
 .obtain⟨r0,g1,g2,_⟩:=key j r1 hj;exact g2 v (h.ok j r0 v g1 hv)
 .obtain⟨r0,g1,_,g3⟩:=key j r1 hj;obtain⟨q0,m1,_,m3⟩:=key k r2 hk;rw[g3]at hf;rw[m3]at hf2;exact h.dis j k r0 q0 v v2 b hjk g1 m1 hv hv2 hf hf2
 .obtain⟨r0,g1,_,g3⟩:=key j r1 hj;rw[g3]at hf;exact h.own j r0 v b g1 hv hf
theorem Ajd{d:D}(hn:Qx d=true)(h:Rd S w ρ x d)(hl:ρ.length=R.length):Rd S w (ρ++[.slice none 0 0]) x (.os R.length):=by
 unfold Qx at hn;split at hn
 .cases h with
  |p h=>cases h;exact .os (by rw[←hl];simp) rfl
 .cases hn
theorem Sat.ownb(h : Acd i j e size st R = some (st', R'))(hs : Sat n C (mkL st) R a w) : Sat n C (mkL st') R' a w := by
 unfold Acd at h;split at h
 .rename_i t cells hi;split at h
  .rename_i d hj;cases hb:Qx d with
   |false=>rw[hb]at h;simp at h
   | true=>
    rw[hb]at h;simp at h;obtain⟨rfl,rfl⟩:=h;obtain⟨h1,h2,S,ρ,h3,h4⟩:=hs;have hP:=h3.push (w':=w) (.sl e size []) (.slice none 0 0) (λ_ _=>rfl) (ai _) rfl ⟨rfl,λ_=>by grind⟩ rfl (.inr (.inl ⟨rfl,rfl⟩)) (by simp[Res.foot]);have hil:i<R.length:=(ac.1 hi).1;have hi':(R++[Res.sl e size []])[i]?=some (.box t cells):=by rw[ax hil];exact hi
    have hlen:=h3.len
    have hQ := hP.swap (r' := .box t (cells.set j (.os R.length))) hi' (λv hv => by
     rcases hv with h0|⟨b,vs,rfl,hb',hc⟩
     .exact .inl h0
     .refine .inr ⟨b,vs,rfl,hb',da (by rw[bV];exact hc.length) λk x d' hx hd=>?_⟩;rw[aB]at hd;split at hd
      .rename_i e';subst e';split at hd
       .cases hd;have hr:=hc.both hx hj;unfold Qx at hb;split at hb
        .cases hr with
         |p hr=>cases hr;exact .os (by rw[←hlen];simp) rfl
        .cases hb
       .cases hd
      .exact hc.both hx hd) (λ_=>rfl)
    refine⟨h1,h2,S,ρ++[.slice none 0 0],by rw[List.set_append_left _ _ hil]at hQ;exact hQ,λx hx=>?_⟩;obtain⟨k1,k2⟩:=h4 x hx;refine⟨λhp=>?_,k2⟩;obtain⟨v,hv,hr⟩:=k1 hp;exact⟨v,hv,hr.mono (λ_ h=>h) (λ_ _=>rfl) (Pre.append _ _)⟩
  .cases h
 .cases h
def Aat(j:Nat):AV->Bool
 |.agg ds=>match ds[j]? with
  |some d=>Qx d
  |none=>false
 |_=>false
def Ai7(j:Nat)(d:D):AV->AV
 |.agg ds=>.agg (ds.set j d)
 |v=>v
def Acc(t j e size:Nat)(st:St)(R:List Res):Option (St×List Res):=
 bif st.all (λx=>!(Nat.beq x.1 t) || Aat j x.2)then some (st.map λx=>(x.1,bif Nat.beq x.1 t then Ai7 j (.os R.length) x.2 else x.2),R++[.sl e size []]) else none
theorem N6:∀{st:St}{e:Ent},e∈mkL st->(e.t,e.v)∈st/\e.p=[]
 | [],e,h=>by cases h
 |(t,v)::r,e,h=>by
  rcases ah.1 h with rfl|h
  .exact⟨an,rfl⟩
  .exact⟨am _ (N6 h).1,(N6 h).2⟩
theorem Acp{f:Nat×AV->Nat×AV}(hf:∀x,(f x).1=x.1):∀{st:St}{e:Ent},e∈mkL (st.map f)->∃v,(e.t,v)∈st/\(⟨e.t,[],v⟩:Ent)∈mkL st/\e.p=[]/\e.v=(f (e.t,v)).2
 | [],e,h=>by cases h
 | (t,v)::r,e,h=>by
  have h:e∈(⟨(f (t,v)).1,[],(f (t,v)).2⟩:Ent)::mkL (r.map f):=h;rcases ah.1 h with rfl|h
  .have:=hf (t,v);simp only at this;refine⟨v,?_,?_,rfl,?_⟩ <;> simp only[this]
   .exact an
   .exact an
  .obtain⟨u,g1,g2,g3,g4⟩:=Acp hf h;exact⟨u,am _ g1,am _ g2,g3,g4⟩
theorem Sat.ownt(h:Acc t j e size st R=some (st',R'))(hs:Sat n C (mkL st) R a w):Sat n C (mkL st') R' a w:=by
 unfold Acc at h;cases hb:(st.all λx=>!(Nat.beq x.1 t) || Aat j x.2) with
 |false=>rw[hb]at h;simp at h
 | true=>
  rw[hb]at h;simp only[eh,ae,al]at h;obtain⟨rfl,rfl⟩:=h;obtain⟨h1,h2,S,ρ,h3,h4⟩:=hs;refine⟨h1,h2,S,ρ++[.slice none 0 0],h3.push (.sl e size []) (.slice none 0 0) (λ_ _=>rfl) (ai _) rfl ⟨rfl,λ_=>by grind⟩ rfl (.inr (.inl ⟨rfl,rfl⟩)) (by simp[Res.foot]),λx hx=>?_⟩;obtain⟨u,g1,g2,g3,g4⟩:=Acp (f:=λx=>(x.1,bif Nat.beq x.1 t then Ai7 j (.os R.length) x.2 else x.2)) (λ_=>rfl) hx;obtain⟨v,hv,hr⟩:=(h4 _ g2).1 Bz;refine⟨λ_=>⟨v,hv,?_⟩,λhn=>absurd (by rw[g3];exact Bz) hn⟩;rw[g4];simp only at hr ⊢;cases hc:Nat.beq x.t t with
  |false=>simp only[eg];exact hr.mono (λ_ h=>h) (λ_ _=>rfl) (Pre.append _ _)
  | true=>
   simp only[eh];have hn:=(aD.1 hb) _ g1;simp only[hc,bE,bU]at hn;cases hr with
   | agg hr=>
    rename_i vs ds;simp only[Aat]at hn;simp only[Ai7];split at hn
    .rename_i d hj;refine .agg (da (by rw[bV];exact hr.length) λk y d' hy hd=>?_);rw[aB]at hd;split at hd
     .rename_i e';subst e';split at hd
      .cases hd;exact Ajd hn (hr.both hy hj) h3.len
      .cases hd
     .exact(hr.both hy hd).mono (λ_ h=>h) (λ_ _=>rfl) (Pre.append _ _)
    .cases hn
   |_=>simp[Aat]at hn
end
end Go.SL
