import Derived.Sort.LoopGhostIn
import Derived.Test.YtedojeimigneaaaGreatDoorSlZ
set_option linter.unusedVariables false
namespace Go.SL
variable{K:Act->World->Prop}{items:List It}{is js:ey}{i id t:Nat}{op:Op}{o:Oper}{d:Option Tmp}{v x:Value}
section
variable{P:Program}{C:Ctx}{ro:Option Nat}{n:Nat}{st st':St}{R R':List Res}{a a':Act}{w w':World}{Q:Exit->Act->World->Prop}
def Md(n:Nat)(C:Ctx)(st:St)(R:List Res)(a:Act)(w:World):Prop:=
 a.defers=[]/\a.tmps.size=n/\Mid C st C.w.heap.size (λ_=>False) a R w
theorem Md.of(hdf:C.df=[])(h:Sat n C (mkL st) R a w):Md n C st R a w:=by obtain⟨h1,h2,S,ρ,h3,h4⟩:=h;refine⟨h1.trans hdf,h2,λk=>S k/\(k<C.w.heap.size\/∃vs t f,w.heap[k]?=some (.cells vs t f)),ρ,h3.trim (λk hS hc=>⟨hS,.inr hc⟩) (λ_ h=>h.1) (λk hC=>⟨h3.sub k hC,.inl (h3.gl.2.1 k hC).1⟩),λe he=>?_,λ_ h=>h.elim,λk h=>h.2⟩;obtain⟨q1,q2⟩:=h4 e he;exact⟨λhp=>by obtain⟨x,hx,hr⟩:=q1 hp;exact⟨x,hx,hr.trim λk hS hc=>⟨hS,.inr hc⟩⟩,q2⟩
structure Kp(w w':World):Prop where
 obj:∀(k:Nat)(o:Obj),w.heap[k]?=some o->o.isCells=false->w'.heap[k]?=some o
 size:w.heap.size<=w'.heap.size
 tp:Tp w w'
theorem Md.run(hm:Md n C st R a w)
  (h:∀D:Ctx,D.h=C.h->D.df=[]->Up C D->(∀st' R' a' w',Sat n D (mkL st') R' a' w'->Md n C st' R' a' w'/\Kp w w')->WI ro P n D Q items st R):Qs ro P items Q .normal a w:=by
 obtain⟨h1,h2,S,ρ,i1,i2,_,i4⟩:=hm;have hseg:=i1.seg C.h i1.pre [] λd hd=>by cases hd
 refine h ⟨w,S,Ei ρ R,C.h,[]⟩ rfl rfl ⟨λS' w' ρ' R2 k=>i1.trans k k.pre,.inl rfl,ai _⟩ (λst' R' a' w' hs=>?_) a w ⟨h1,h2,S,ρ,hseg,i2⟩;obtain⟨k1,k2,S',ρ',k3,k4⟩:=hs;have hT:=i1.trans k3 k3.pre;refine⟨⟨k1,k2,λk=>S' k/\(k<C.w.heap.size\/∃vs t f,w'.heap[k]?=some (.cells vs t f)),ρ',hT.trim (λk hS hc=>⟨hS,.inr hc⟩) (λ_ h=>h.1) (λk hC=>⟨hT.sub k hC,.inl (i1.gl.2.1 k hC).1⟩),λe he=>?_,λ_ h=>h.elim,λk h=>h.2⟩,λk o ho hc=>?_,k3.size,k3.tape⟩
 .obtain⟨q1,q2⟩:=k4 e he;exact⟨λhp=>by obtain⟨x,hx,hr⟩:=q1 hp;exact⟨x,hx,hr.trim λk hS hc=>⟨hS,.inr hc⟩⟩,q2⟩
 .refine(k3.frm k (aL.1 ho).1 λ⟨i,r,v,g1,g2,g3⟩=>?_).trans ho;obtain⟨vs,t,f,q⟩:=Ic (i1.ok i r v g1 g2) g3;rw[ho]at q;cases q;cases hc
theorem Md.turn(h:Md n C st R a w){row:Option Nat}(hg:w.grownBy w' row)(hd:drw=true->w.drawn<=w'.drawn)(hr:∀r,row=some r->C.w.heap.size<=r/\∃o:Obj,w.heap[r]?=some o/\o.isCells=false):Md n C st R a w':=by obtain⟨h1,h2,S,ρ,i1,i2,_,i4⟩:=h;obtain⟨g1,g2,g3⟩:=i1.turn hg hd (ai _) hr i4;refine⟨h1,h2,S,ρ,g1,λe he=>?_,λ_ h=>h.elim,g3⟩;obtain⟨q1,q2⟩:=i2 e he;refine⟨λhp=>?_,q2⟩;obtain⟨x,hx,hrx⟩:=q1 hp;exact⟨x,hx,hrx.mono (λ_ h=>h) g2 (Pre.refl _)⟩
theorem Aco{st:St}{v:AV}(h:(t,v)∈st):(⟨t,[],v⟩:Ent)∈mkL st:=Iv h
theorem Md.put(h:Md n C st R a w)(v:Value)(av:AV)(ht:t<n)(hav:∀S ρ,RdA S w ρ v av):Md n C ((t,av)::st.filter λx=>!(Nat.beq x.1 t)) R (a.put (some t) v) w:=by
 obtain⟨h1,h2,S,ρ,i1,i2,i3,i4⟩:=h;refine⟨h1,by simp[Act.put,h2],S,ρ,i1,λe he=>?_,i3,i4⟩;rcases ah.1 he with rfl|he
 .exact⟨λ_=>⟨v,Jd (by rw[h2];exact ht),hav S ρ⟩,λhn=>absurd Bz hn⟩
 .obtain⟨m1,m2⟩:=N6 he;rw[aH]at m1;obtain⟨m3,m4⟩:=m1;have hne:t≠e.t:=by
   intro q;subst q;simp at m4
  have he':=Aco m3;obtain⟨q1,q2⟩:=i2 _ he';obtain⟨x,hx,hr⟩:=q1 Bz;refine⟨λ_=>⟨x,by rw[G7 hne];exact hx,hr⟩,λhn=>absurd (by rw[m2];exact Bz) hn⟩
theorem Md.put0(h:Md n C st R a w)(v:Value):Md n C (st.filter λx=>!(Nat.beq x.1 t)) R (a.put (some t) v) w:=by
 obtain⟨h1,h2,S,ρ,i1,i2,i3,i4⟩:=h;refine⟨h1,by simp[Act.put,h2],S,ρ,i1,λe he=>?_,i3,i4⟩;obtain⟨m1,m2⟩:=N6 he;rw[aH]at m1;obtain⟨m3,m4⟩:=m1;have hne:t≠e.t:=by intro q;subst q;simp at m4
 have he':=Aco m3;obtain⟨q1,q2⟩:=i2 _ he';obtain⟨x,hx,hr⟩:=q1 Bz;refine⟨λ_=>⟨x,by rw[G7 hne];exact hx,hr⟩,λhn=>absurd (by rw[m2];exact Bz) hn⟩
theorem Md.sub(h:Md n C st R a w)(ts:ey)(hs:sel (mkL st) ts=some st'):Md n C st' R a w:=by obtain⟨h1,h2,S,ρ,i1,i2,i3,i4⟩:=h;exact⟨h1,h2,S,ρ,i1,λe he=>i2 e (Qp hs e he),i3,i4⟩
theorem Md.get(h:Md n C st R a w){av:AV}(hc:(Ds (mkL st) t).map Ent.v=some av):∃v S ρ,a.eval (.tmp t)=v/\RdA S w ρ v av/\Inv C S w ρ R:=by
 obtain⟨h1,h2,S,ρ,i1,i2,i3,i4⟩:=h;cases he:Ds (mkL st) t with
 |none=>rw[he]at hc;cases hc
 |some e=>rw[he]at hc;simp only[aU,ae]at hc;obtain⟨hm,hte⟩:=C5 he;obtain⟨v,hv,hr⟩:=(i2 e hm).1 (by rw[Cu hm];exact Bz);rw[hc]at hr;rw[hte]at hv;exact⟨v,S,ρ,by simp[Act.eval,ef,hv],hr,i1⟩
theorem Md.exact(h:Md n C st R a w)(hc:(Ds (mkL st) t).map Ent.v=some (.d (.p (.v x)))):a.eval (.tmp t)=x:=by obtain⟨v,S,ρ,h1,h2,_⟩:=h.get hc;rw[h1];exact h2.exact_inv
theorem Rw{ops:Array Oper}{K:Act->World->Prop}:∀{is js:ey}{a:Act}{w:World},C4 P ops (C4 P ops K js) is a w->C4 P ops K (is++js) a w
 | [],_,_,_,h=>h
 | i::is,js,a,w,h=>by
  show Gp P ops i _ a w;have hk:∀a w,C4 P ops (C4 P ops K js) is a w->C4 P ops K (is++js) a w:=λ_ _ h=>Rw h;change Gp P ops i (C4 P ops (C4 P ops K js) is) a w at h;unfold Gp at h ⊢;split at h
  .exact hk _ _ h
  .rename_i o ho;split at h
   .rename_i hw;simp only[ei hw];exact⟨h.1,Abv hk h.2⟩
   .rename_i hw;simp only[em hw];exact hk _ _ h
def A35(P:Program)(n:Nat)(ops:Array Oper)(is:ey)(st:St)(R:List Res)(cls:List Cl)(ts:ey):Option (St×List Res×List Cl):=
 match Pw P n ops is (mkL st) R cls with
 |some (L,R',cs)=>match sel L ts with
  |some st'=>some (st',R',cs)
  |none=>none
 |none=>none
theorem Md.ops{ops:Array Oper}{cls:List Cl}(hm:Md n C st R a w)(ts:ey)(st':St)(R':List Res)(hok:Da P cls)(e:A35 P n ops is st R cls ts=some (st',R',cls))
  (hK:∀a' w',Md n C st' R' a' w'->Kp w w'->C4 P ops K js a' w'):C4 P ops K (is++js) a w:=by
 refine Rw ?_;obtain⟨h1,h2,S,ρ,i1,i2,i3,i4⟩:=hm;have hseg:=i1.seg C.h i1.pre [] λd hd=>by cases hd
 unfold A35 at e;split at e
 .rename_i L R1 cs e1;split at e
  .rename_i s1 e2;simp only[ae,al]at e;obtain⟨rfl,rfl,rfl⟩:=e;refine O5 (C:=⟨w,S,Ei ρ R,C.h,[]⟩) e1 hok ⟨h1,h2,S,ρ,hseg,i2⟩ λa' w' hs=>?_;obtain⟨k1,k2,S',ρ',k3,k4⟩:=hs;have hT:=i1.trans k3 k3.pre;refine hK a' w' ⟨k1,k2,λk=>S' k/\(k<C.w.heap.size\/∃vs t f,w'.heap[k]?=some (.cells vs t f)),ρ',hT.trim (λk hS hc=>⟨hS,.inr hc⟩) (λ_ h=>h.1) (λk hC=>⟨hT.sub k hC,.inl (i1.gl.2.1 k hC).1⟩),λe he=>?_,λ_ h=>h.elim,λk h=>h.2⟩ ⟨λk o ho hc=>?_,k3.size,k3.tape⟩
   .obtain⟨q1,q2⟩:=k4 e (Qp e2 e he);exact⟨λhp=>by obtain⟨x,hx,hr⟩:=q1 hp;exact⟨x,hx,hr.trim λk hS hc=>⟨hS,.inr hc⟩⟩,q2⟩
   .refine(k3.frm k (aL.1 ho).1 λ⟨i,r,v,g1,g2,g3⟩=>?_).trans ho;obtain⟨vs,t,f,q⟩:=Ic (i1.ok i r v g1 g2) g3;rw[ho]at q;cases q;cases hc
  .cases e
 .cases e
theorem Asy{ops:Array Oper}(v:Value)(ho:ops[i]?=some o)(hg:o.guard=none)(hd:Y4 o)(hr:(execOp a.eval o).run P w=.ok (.value v) w')(hK:C4 P ops K is (a.put o.dst v) w'):C4 P ops K (i::is) a w:=by show Gp P ops i _ a w;unfold Gp;rw[ho];simp only;rw[ei (by simp[Region.wanted,hg])];exact⟨hd,De hr hK⟩
theorem A1p{ops:Array Oper}(ho:ops[i]?=some o)(hg:o.guard=none)(hd:Y4 o)(hr:(execOp a.eval o).run P w=.ok .skip w')(hK:C4 P ops K is (a.put o.dst undef) w'):C4 P ops K (i::is) a w:=by show Gp P ops i _ a w;unfold Gp;rw[ho];simp only;rw[ei (by simp[Region.wanted,hg])];refine⟨hd,?_⟩;unfold wpv;rw[hr];exact hK
theorem A64{ops:Array Oper}{l:List It}(h:C4 P ops (λa w=>Qs ro P l Q .normal a w) (List.range ops.size) a w):Qs ro P (.c (.region id ops false)::l) Q .normal a w:=
 wpIn_region (Mp (Q:=Qs ro P l Q) h)
def A5f:List It->Bool
 |.c (.region _ _ false)::_=>true
 |_=>false
def A4g:List It->Array Oper
 |.c (.region _ ops false)::_=>ops
 |_=>#[]
theorem Me(hi:A5f items=true)(is:ey)(hr:List.range (A4g items).size=is)(h:C4 P (A4g items) (λa w=>Qs ro P (tlI items) Q .normal a w) is a w):Qs ro P items Q .normal a w:=by
 match items,hi with
 |.c (.region id ops false)::l,_=>exact A64 (by rw[←hr]at h;exact h)
theorem vN(hi:isB items=true)(h:Qs ro P (.c (Aur items) :: .b (Auq items)::tlI items) Q .normal a w):Qs ro P items Q .normal a w:=by
 match items,hi with
 |.c (.block i x)::l,_=>exact wpIn_block h
theorem Yj(hi:isL items=true)(I:Nat->Act->World->Prop)(m:Nat)(h0:I m a w)
  (round:∀m a w,I m a w->Qs ro P (.c (lpC items) :: .k (λa' w'=>∃m',m'<m/\I m' a' w')::tlI items) Q .normal a w):Qs ro P items Q .normal a w:=by
 match items,hi with
 |.c (.loop c)::l,_=>exact wpIn_loop_ghost I m h0 λm a w hI=>round m a w hI
theorem Kb{ops:Array Oper}(v:Value)(w':World)(ty:TypeId)(ho:(ops[i]?).map (λo=>(o.dst,o.op,o.type,o.guard))=some (d,op,ty,none))(hd:∀c,op ≠ .defer c)(hr:∀o:Oper,o.op=op->o.type=ty->(execOp a.eval o).run P w=.ok (.value v) w')(hK:C4 P ops K is (a.put d v) w'):C4 P ops K (i::is) a w:=by
 cases hq:ops[i]? with
 |none=>rw[hq]at ho;cases ho
 |some o=>rw[hq]at ho;simp only[aU,ae,al]at ho;obtain⟨h1,h2,h4,h3⟩:=ho;exact Asy v hq h3 (λc e=>hd c (h2 ▸ e)) (hr o h2 h4) (by rw[h1];exact hK)
theorem A4h{ops:Array Oper}(w':World)(ty:TypeId)(ho:(ops[i]?).map (λo=>(o.dst,o.op,o.type,o.guard))=some (d,op,ty,none))(hd:∀c,op ≠ .defer c)(hr:∀o:Oper,o.op=op->o.type=ty->(execOp a.eval o).run P w=.ok .skip w')(hK:C4 P ops K is (a.put d undef) w'):C4 P ops K (i::is) a w:=by
 cases hq:ops[i]? with
 |none=>rw[hq]at ho;cases ho
 |some o=>rw[hq]at ho;simp only[aU,ae,al]at ho;obtain⟨h1,h2,h4,h3⟩:=ho;exact A1p hq h3 (λc e=>hd c (h2 ▸ e)) (hr o h2 h4) (by rw[h1];exact hK)
theorem R_{s:Sem Value}(h:s.run P w=.ok v w'):Sem.run P (do pure (Next.value (←s))) w=.ok (Next.value v) w':=by rw[eo,h];rfl
theorem A7u{s:Sem Unit}(h:s.run P w=.ok () w'):Sem.run P (do s;pure Next.skip) w=.ok Next.skip w':=by rw[eo,h];rfl
theorem Vo{α:Type}:∀(k:Ask α)(w:World),w.drawn<=(w.ask k).2.drawn
 |.done a,w=>ai _
 | .ask what range k,w=>by
  unfold World.ask;simp only;split
  .exact Vo _ w
  .have:=Vo (k ((Question.extern what range).cut (w.tape w.drawn (Question.extern what range)))) {w with drawn:=w.drawn+1};exact ay (aC _) this
theorem Anb(w:World)(c:Sys):w.drawn<=(w.sys c).2.drawn:=by
 unfold World.sys;have h:=Vo (Kernel.perform c w.os) w;split
 .exact ai _
 .rename_i r os w1 e;rw[e]at h;exact h
theorem Aoq{w w1:World}{p:Program}{a:Addr}{b:Bool}{l:List Addr}(h:w.farStore p a v b=.ok (w1,l)):w1.drawn=w.drawn:=by
 unfold World.farStore at h;split at h
 .split at h
  .rename_i r e;cases h;unfold World.viewStore at e;revert e;simp only[bind,Except.bind,pure,Except.pure];intro e
   repeat' split at e
   all_goals (first|(cases e;done)|(cases e;rfl))
  .cases h
 .cases h
theorem yN{α:Type}:∀(s:Sem α)(w:World)(v:α)(w':World),s.run P w=.ok v w'->w.drawn<=w'.drawn:=by
 intro s;induction s with
 |pure a=>intro w v w' h;cases h;exact ai _
 | load m a k ih=>
  intro w v w' h;simp only[Sem.run]at h;split at h
  .exact ih _ _ _ _ h
  .split at h
   .exact ih _ _ _ _ h
   .cases h
 | store m a x k ih=>
  intro w v w' h;have key:(∀l,x ≠ .agg l)->(∀l,x ≠ .tuple l)->w.drawn<=w'.drawn:=λn1 n2=>by
   have e:Sem.run P (.store m a x k) w=match w.cell? a with
    | some _ => if w.frozen? a then .halt (.unsupported (.unsafePointer "a write to bytes that a string shares")) w else k.run P (w.setCell a x)
    |none=>match w.farStore P a x (m == .atomic) with
     |.ok (w,_)=>k.run P w
     |.error h=>.halt h w:=by
    cases x with
    |agg l=>exact absurd rfl (n1 l)
    |tuple l=>exact absurd rfl (n2 l)
    |_=>rfl
   rw[e]at h;split at h
   .split at h
    .cases h
    .have:=ih _ _ _ h;exact this
   .split at h
    .rename_i w1 l e2;have:=ih _ _ _ h;rw[Aoq e2]at this;exact this
    .cases h
  cases x with
  |agg l=>cases h
  |tuple l=>cases h
  |_=>exact key (λ_=>nofun) (λ_=>nofun)
 |new o k ih=>intro w v w' h;have:=ih _ _ _ _ h;exact this
 |shape r k ih=>intro w v w' h;exact ih _ _ _ _ h
 |freeze a m k ih=>intro w v w' h;have:=ih _ _ _ h;unfold World.freeze at this;split at this <;> exact this
 |frozen a k ih=>intro w v w' h;exact ih _ _ _ _ h
 |getObj r k ih=>
  intro w v w' h;simp only[Sem.run]at h;split at h
  .cases h
  .exact ih _ _ _ _ h
  .cases h
 | setObj r o k ih=>
  intro w v w' h;simp only[Sem.run]at h;split at h
  .cases h
  .have:=ih _ _ _ h;exact this
  .cases h
 | choose q k ih=>
  intro w v w' h;simp only[Sem.run]at h;split at h
  .exact ih _ _ _ _ h
  .have:=ih _ _ _ _ h;exact ay (aC _) this
 |sys c k ih=>intro w v w' h;exact ay (Anb w c) (ih _ _ _ _ h)
 |program k ih=>intro w v w' h;exact ih _ _ _ _ h
 |mark m k ih=>intro w v w' h;exact ih _ _ _ h
 |halt h0=>intro w v w' h;cases h
end
end Go.SL
