import Derived.Sort.LoopGhostIn
import Derived.Test.YtiaaaghdkhnonaaGreatSlZ
set_option linter.unusedVariables false
namespace Go.SL
variable{K:Act->World->Prop}{items:List It}{is js:List Nat}{i id t:Nat}{op:Op}{o:Oper}{d:Option Tmp}{v x:Value}
section
variable{P:Program}{C:Ctx}{ro:Option Nat}{n:Nat}{st st':St}{R R':List Res}{a a':Act}{w w':World}{Q:Exit->Act->World->Prop}
def Md(n:Nat)(C:Ctx)(st:St)(R:List Res)(a:Act)(w:World):Prop:=
 a.defers=[]/\a.tmps.size=n/\Mid C st C.w.heap.size (λ_=>False) a R w
theorem Md.of(hdf:C.df=[])(h:Sat n C (mkL st) R a w):Md n C st R a w:=by
 obtain⟨h1,h2,S,ρ,h3,h4⟩:=h;refine⟨h1.trans hdf,h2,λk=>S k/\(k<C.w.heap.size\/∃vs t f,w.heap[k]? = some (.cells vs t f)),ρ,h3.trim (λk hS hc=>⟨hS,.inr hc⟩) (λ_ h=>h.1) (λk hC=>⟨h3.sub k hC,.inl (h3.gl.2.1 k hC).1⟩),λe he=>?_,λ_ h=>h.elim,λk h=>h.2⟩;obtain⟨q1,q2⟩:=h4 e he;exact⟨λhp=>by obtain⟨x,hx,hr⟩:=q1 hp;exact⟨x,hx,hr.trim λk hS hc=>⟨hS,.inr hc⟩⟩,q2⟩
structure Kp(w w':World):Prop where
 obj:∀(k:Nat)(o:Obj),w.heap[k]? = some o->o.isCells=false->w'.heap[k]? = some o
 size:w.heap.size<=w'.heap.size
 tp:Tp w w'
theorem Md.run(hm:Md n C st R a w)
  (h:∀D:Ctx,D.h=C.h->D.df=[]->Up C D->(∀st' R' a' w',Sat n D (mkL st') R' a' w'->Md n C st' R' a' w'/\Kp w w')->WI ro P n D Q items st R):Qs ro P items Q .normal a w:=by
 obtain⟨h1,h2,S,ρ,i1,i2,_,i4⟩:=hm;have hseg:=i1.seg C.h i1.pre [] λd hd=>by cases hd
 refine h ⟨w,S,Dx ρ R,C.h,[]⟩ rfl rfl ⟨λS' w' ρ' R2 k=>i1.trans k k.pre,.inl rfl,ag _⟩ (λst' R' a' w' hs=>?_) a w ⟨h1,h2,S,ρ,hseg,i2⟩;obtain⟨k1,k2,S',ρ',k3,k4⟩:=hs;have hT:=i1.trans k3 k3.pre;refine⟨⟨k1,k2,λk=>S' k/\(k<C.w.heap.size\/∃vs t f,w'.heap[k]? = some (.cells vs t f)),ρ',hT.trim (λk hS hc=>⟨hS,.inr hc⟩) (λ_ h=>h.1) (λk hC=>⟨hT.sub k hC,.inl (i1.gl.2.1 k hC).1⟩),λe he=>?_,λ_ h=>h.elim,λk h=>h.2⟩,λk o ho hc=>?_,k3.size,k3.tape⟩
 ·obtain⟨q1,q2⟩:=k4 e he;exact⟨λhp=>by obtain⟨x,hx,hr⟩:=q1 hp;exact⟨x,hx,hr.trim λk hS hc=>⟨hS,.inr hc⟩⟩,q2⟩
 ·refine(k3.frm k (aN.1 ho).1 λ⟨i,r,v,g1,g2,g3⟩=>?_).trans ho;obtain⟨vs,t,f,q⟩:=Il (i1.ok i r v g1 g2) g3;rw[ho]at q;cases q;cases hc
theorem Md.turn(h:Md n C st R a w){row:Option Nat}(hg:w.grownBy w' row)(hd:drw=true->w.drawn<=w'.drawn)(hr:∀r,row=some r->C.w.heap.size<=r/\∃o:Obj,w.heap[r]? = some o/\o.isCells=false):Md n C st R a w':=by
 obtain⟨h1,h2,S,ρ,i1,i2,_,i4⟩:=h;obtain⟨g1,g2,g3⟩:=i1.turn hg hd (ag _) hr i4;refine⟨h1,h2,S,ρ,g1,λe he=>?_,λ_ h=>h.elim,g3⟩;obtain⟨q1,q2⟩:=i2 e he;refine⟨λhp=>?_,q2⟩;obtain⟨x,hx,hrx⟩:=q1 hp;exact⟨x,hx,hrx.mono (λ_ h=>h) g2 (Pre.refl _)⟩
theorem Nj{st:St}{v:AV}(h:(t,v)∈st):(⟨t,[],v⟩:Ent)∈mkL st:=Wo h
theorem Md.put(h:Md n C st R a w)(v:Value)(av:AV)(ht:t<n)(hav:∀S ρ,RdA S w ρ v av):Md n C ((t,av)::st.filter λx=>!(Nat.beq x.1 t)) R (a.put (some t) v) w:=by
 obtain⟨h1,h2,S,ρ,i1,i2,i3,i4⟩:=h;refine⟨h1,by simp[Act.put,h2],S,ρ,i1,λe he=>?_,i3,i4⟩;rcases ah.1 he with rfl|he
 ·exact⟨λ_=>⟨v,H4 (by rw[h2];exact ht),hav S ρ⟩,λhn=>absurd B9 hn⟩
 ·obtain⟨m1,m2⟩:=Jv he;rw[az]at m1;obtain⟨m3,m4⟩:=m1;have hne:t≠e.t:=by
   intro q;subst q;simp at m4
  have he':=Nj m3;obtain⟨q1,q2⟩:=i2 _ he';obtain⟨x,hx,hr⟩:=q1 B9;refine⟨λ_=>⟨x,by rw[Gi hne];exact hx,hr⟩,λhn=>absurd (by rw[m2];exact B9) hn⟩
theorem Md.put0(h:Md n C st R a w)(v:Value):Md n C (st.filter λx=>!(Nat.beq x.1 t)) R (a.put (some t) v) w:=by
 obtain⟨h1,h2,S,ρ,i1,i2,i3,i4⟩:=h;refine⟨h1,by simp[Act.put,h2],S,ρ,i1,λe he=>?_,i3,i4⟩;obtain⟨m1,m2⟩:=Jv he;rw[az]at m1;obtain⟨m3,m4⟩:=m1;have hne:t≠e.t:=by
  intro q;subst q;simp at m4
 have he':=Nj m3;obtain⟨q1,q2⟩:=i2 _ he';obtain⟨x,hx,hr⟩:=q1 B9;refine⟨λ_=>⟨x,by rw[Gi hne];exact hx,hr⟩,λhn=>absurd (by rw[m2];exact B9) hn⟩
theorem Md.sub(h:Md n C st R a w)(ts:List Nat)(hs:sel (mkL st) ts=some st'):Md n C st' R a w:=by
 obtain⟨h1,h2,S,ρ,i1,i2,i3,i4⟩:=h;exact⟨h1,h2,S,ρ,i1,λe he=>i2 e (M2 hs e he),i3,i4⟩
theorem Md.get(h:Md n C st R a w){av:AV}(hc:(D5 (mkL st) t).map Ent.v=some av):∃v S ρ,a.eval (.tmp t)=v/\RdA S w ρ v av/\Inv C S w ρ R:=by
 obtain⟨h1,h2,S,ρ,i1,i2,i3,i4⟩:=h;cases he:D5 (mkL st) t with
 |none=>rw[he]at hc;cases hc
 |some e=>
  rw[he]at hc;simp only[aT,ai]at hc;obtain⟨hm,hte⟩:=C5 he;obtain⟨v,hv,hr⟩:=(i2 e hm).1 (by rw[Dl hm];exact B9);rw[hc]at hr;rw[hte]at hv;exact⟨v,S,ρ,by simp[Act.eval,Array.getD_eq_getD_getElem?,hv],hr,i1⟩
theorem Md.exact(h:Md n C st R a w)(hc:(D5 (mkL st) t).map Ent.v=some (.d (.p (.v x)))):a.eval (.tmp t)=x:=by
 obtain⟨v,S,ρ,h1,h2,_⟩:=h.get hc;rw[h1];exact h2.exact_inv
theorem X1{ops:Array Oper}{K:Act->World->Prop}:∀{is js:List Nat}{a:Act}{w:World},Dc P ops (Dc P ops K js) is a w->Dc P ops K (is++js) a w
 | [],_,_,_,h=>h
 | i::is,js,a,w,h=>by
  show Gm P ops i _ a w;have hk:∀a w,Dc P ops (Dc P ops K js) is a w->Dc P ops K (is++js) a w:=λ_ _ h=>X1 h;change Gm P ops i (Dc P ops (Dc P ops K js) is) a w at h;unfold Gm at h ⊢;split at h
  ·exact hk _ _ h
  ·rename_i o ho;split at h
   ·rename_i hw;simp only[if_pos hw];exact⟨h.1,Abf hk h.2⟩
   ·rename_i hw;simp only[if_neg hw];exact hk _ _ h
def Ayw(P:Program)(n:Nat)(ops:Array Oper)(is:List Nat)(st:St)(R:List Res)(cls:List Cl)(ts:List Nat):Option (St×List Res×List Cl):=
 match Ro P n ops is (mkL st) R cls with
 |some (L,R',cs)=>match sel L ts with
  |some st'=>some (st',R',cs)
  |none=>none
 |none=>none
theorem Md.ops{ops:Array Oper}{cls:List Cl}(hm:Md n C st R a w)(ts:List Nat)(st':St)(R':List Res)(hok:C3 P cls)(e:Ayw P n ops is st R cls ts=some (st',R',cls))
  (hK:∀a' w',Md n C st' R' a' w'->Kp w w'->Dc P ops K js a' w'):Dc P ops K (is++js) a w:=by
 refine X1 ?_;obtain⟨h1,h2,S,ρ,i1,i2,i3,i4⟩:=hm;have hseg:=i1.seg C.h i1.pre [] λd hd=>by cases hd
 unfold Ayw at e;split at e
 ·rename_i L R1 cs e1;split at e
  ·rename_i s1 e2;simp only[ai,ar]at e;obtain⟨rfl,rfl,rfl⟩:=e;refine Rn (C:=⟨w,S,Dx ρ R,C.h,[]⟩) e1 hok ⟨h1,h2,S,ρ,hseg,i2⟩ λa' w' hs=>?_;obtain⟨k1,k2,S',ρ',k3,k4⟩:=hs;have hT:=i1.trans k3 k3.pre;refine hK a' w' ⟨k1,k2,λk=>S' k/\(k<C.w.heap.size\/∃vs t f,w'.heap[k]? = some (.cells vs t f)),ρ',hT.trim (λk hS hc=>⟨hS,.inr hc⟩) (λ_ h=>h.1) (λk hC=>⟨hT.sub k hC,.inl (i1.gl.2.1 k hC).1⟩),λe he=>?_,λ_ h=>h.elim,λk h=>h.2⟩ ⟨λk o ho hc=>?_,k3.size,k3.tape⟩
   ·obtain⟨q1,q2⟩:=k4 e (M2 e2 e he);exact⟨λhp=>by obtain⟨x,hx,hr⟩:=q1 hp;exact⟨x,hx,hr.trim λk hS hc=>⟨hS,.inr hc⟩⟩,q2⟩
   ·refine(k3.frm k (aN.1 ho).1 λ⟨i,r,v,g1,g2,g3⟩=>?_).trans ho;obtain⟨vs,t,f,q⟩:=Il (i1.ok i r v g1 g2) g3;rw[ho]at q;cases q;cases hc
  ·cases e
 ·cases e
theorem Asj{ops:Array Oper}(v:Value)(ho:ops[i]? = some o)(hg:o.guard=none)(hd:Yc o)(hr:(execOp a.eval o).run P w=.ok (.value v) w')(hK:Dc P ops K is (a.put o.dst v) w'):Dc P ops K (i::is) a w:=by
 show Gm P ops i _ a w;unfold Gm;rw[ho];simp only;rw[if_pos (by simp[Region.wanted,hg])];exact⟨hd,Dq hr hK⟩
theorem Aws{ops:Array Oper}(ho:ops[i]? = some o)(hg:o.guard=none)(hd:Yc o)(hr:(execOp a.eval o).run P w=.ok .skip w')(hK:Dc P ops K is (a.put o.dst undef) w'):Dc P ops K (i::is) a w:=by
 show Gm P ops i _ a w;unfold Gm;rw[ho];simp only;rw[if_pos (by simp[Region.wanted,hg])];refine⟨hd,?_⟩;unfold wpv;rw[hr];exact hK
theorem A11{ops:Array Oper}{l:List It}(h:Dc P ops (λa w=>Qs ro P l Q .normal a w) (List.range ops.size) a w):Qs ro P (.c (.region id ops false)::l) Q .normal a w:=
 wpIn_region (Sp (Q:=Qs ro P l Q) h)
def Azl:List It->Bool
 |.c (.region _ _ false)::_=>true
 |_=>false
def Ay1:List It->Array Oper
 |.c (.region _ ops false)::_=>ops
 |_=>#[]
theorem J4(hi:Azl items=true)(is:List Nat)(hr:List.range (Ay1 items).size=is)(h:Dc P (Ay1 items) (λa w=>Qs ro P (tlI items) Q .normal a w) is a w):Qs ro P items Q .normal a w:=by
 match items,hi with
 |.c (.region id ops false)::l,_=>exact A11 (by rw[←hr]at h;exact h)
theorem uL(hi:isB items=true)(h:Qs ro P (.c (At3 items) :: .b (At2 items)::tlI items) Q .normal a w):Qs ro P items Q .normal a w:=by
 match items,hi with
 |.c (.block i x)::l,_=>exact wpIn_block h
theorem Xr(hi:isL items=true)(I:Nat->Act->World->Prop)(m:Nat)(h0:I m a w)
  (round:∀m a w,I m a w->Qs ro P (.c (lpC items) :: .k (λa' w'=>∃m',m'<m/\I m' a' w')::tlI items) Q .normal a w):Qs ro P items Q .normal a w:=by
 match items,hi with
 |.c (.loop c)::l,_=>exact wpIn_loop_ghost I m h0 λm a w hI=>round m a w hI
def Ny(t:Nat)(d:Bool):Nat->List It->List It
 |0,items=>items
 |k+1,items=>match items with
  |.c .skip::l=>Ny t d k l
  |.b _::l=>Ny t d k l
  |.c (.seq x y)::l=>Ny t d k (.c x :: .c y::l)
  |.c (.block i x)::l=>Ny t d k (.c x :: .b i::l)
  |.c (.cond _ x y)::l=>Ny t d k (.c (bif d then x else y)::l)
  |_=>items
def Ry(t:Nat)(d:Bool):Nat->List It->Bool
 |0,_=>true
 |k+1,items=>match items with
  |.c .skip::l=>Ry t d k l
  |.b _::l=>Ry t d k l
  |.c (.seq x y)::l=>Ry t d k (.c x :: .c y::l)
  |.c (.block i x)::l=>Ry t d k (.c x :: .b i::l)
  |.c (.cond (.tmp u) x y)::l=>Nat.beq u t&&Ry t d k (.c (bif d then x else y)::l)
  |_=>false
theorem J5(t:Nat)(d:Bool)(he:a.eval (.tmp t)=.bool d):∀(k:Nat){items:List It},Ry t d k items=true->Qs ro P (Ny t d k items) Q .normal a w->Qs ro P items Q .normal a w
 |0,items,_,h=>h
 | k+1,items,hb,h=>by
  unfold Ry at hb;unfold Ny at h;split at hb
  ·exact wpIn_skip (J5 t d he k hb h)
  ·rename_i id l;exact J5 t d he k (items:=l) hb h
  ·exact wpIn_seq (J5 t d he k hb h)
  ·exact wpIn_block (J5 t d he k hb h)
  ·rename_i u x y l;obtain⟨h1,h2⟩:=cf.1 hb;have:=am h1;subst this;cases d with
   |true=>exact wpIn_cond_true he (J5 _ true he k h2 h)
   |false=>exact wpIn_cond_false he (J5 _ false he k h2 h)
  ·cases hb
def Azj:List It->Bool
 |.c (.seq _ _)::_=>true
 |_=>false
def sqI:List It->List It
 |.c (.seq x y)::l=>.c x :: .c y::l
 |l=>l
theorem Ax1(hi:Azj items=true)(h:Qs ro P (sqI items) Q .normal a w):Qs ro P items Q .normal a w:=by
 match items,hi with
 |.c (.seq x y)::l,_=>exact wpIn_seq h
theorem H5{ops:Array Oper}(v:Value)(w':World)(ty:TypeId)(ho:(ops[i]?).map (λo=>(o.dst,o.op,o.type,o.guard))=some (d,op,ty,none))(hd:∀c,op ≠ .defer c)(hr:∀o:Oper,o.op=op->o.type=ty->(execOp a.eval o).run P w=.ok (.value v) w')(hK:Dc P ops K is (a.put d v) w'):Dc P ops K (i::is) a w:=by
 cases hq:ops[i]? with
 |none=>rw[hq]at ho;cases ho
 |some o=>
  rw[hq]at ho;simp only[aT,ai,ar]at ho;obtain⟨h1,h2,h4,h3⟩:=ho;exact Asj v hq h3 (λc e=>hd c (h2 ▸ e)) (hr o h2 h4) (by rw[h1];exact hK)
theorem Ay3{ops:Array Oper}(w':World)(ty:TypeId)(ho:(ops[i]?).map (λo=>(o.dst,o.op,o.type,o.guard))=some (d,op,ty,none))(hd:∀c,op ≠ .defer c)(hr:∀o:Oper,o.op=op->o.type=ty->(execOp a.eval o).run P w=.ok .skip w')(hK:Dc P ops K is (a.put d undef) w'):Dc P ops K (i::is) a w:=by
 cases hq:ops[i]? with
 |none=>rw[hq]at ho;cases ho
 |some o=>
  rw[hq]at ho;simp only[aT,ai,ar]at ho;obtain⟨h1,h2,h4,h3⟩:=ho;exact Aws hq h3 (λc e=>hd c (h2 ▸ e)) (hr o h2 h4) (by rw[h1];exact hK)
theorem Md.push(h:Md n C st R a w){e s:Nat}(v:Value)(ht:t<n)(hw:∀k,k<w.heap.size->w'.heap[k]? = w.heap[k]?)(hsz:w.heap.size<=w'.heap.size)(ho:w'.os=w.os)(hT:Tp w w')(hp:w'.output=w.output)
  (h1:v.oneCell'=true)(hok:∀S,M8 S w' e s [] v)(hf:∀b,(Res.sl e s []).foot v b->w.heap.size<=b/\b<w'.heap.size):Md n C ((t,.d (.os R.length))::st.filter λx=>!(Nat.beq x.1 t)) (R++[.sl e s []]) (a.put (some t) v) w':=by
 obtain⟨g1,g2,S,ρ,i1,i2,i3,i4⟩:=h;have hI:=i1.push (.sl e s []) v hw hsz ho hT hp (.inr (hok S)) hf;have hS:∀k,S k->w'.heap[k]? = w.heap[k]?:=λk hk=>hw k (i1.sup k hk).1;refine⟨g1,by simp[Act.put,g2],S,_,hI,λx hx=>?_,i3,λk hk=>?_⟩
 ·rcases ah.1 hx with rfl|hx
  ·exact⟨λ_=>⟨v,H4 (by rw[g2];exact ht),.d (.os (by rw[←i1.len];simp) h1)⟩,λhn=>absurd B9 hn⟩
  ·obtain⟨m1,m2⟩:=Jv hx;rw[az]at m1;obtain⟨m3,m4⟩:=m1;have hne:t≠x.t:=by
    intro q;subst q;simp at m4
   obtain⟨q1,q2⟩:=i2 _ (Nj m3);obtain⟨y,hy,hr⟩:=q1 B9;exact⟨λ_=>⟨y,by rw[Gi hne];exact hy,hr.mono (λ_ h=>h) hS (Pre.append _ _)⟩,λhn=>absurd (by rw[m2];exact B9) hn⟩
 ·rcases i4 k hk with q|q
  ·exact .inl q
  ·rw[hS k hk];exact .inr q
theorem Ahp{ops:Array Oper}(f:FuncId)(args:Array Value)(ty:TypeId)(ho:(ops[i]?).map (λo=>(o.dst,o.op,o.type,o.guard))=some (d,op,ty,none))(hd:∀c,op ≠ .defer c)(hr:∀o:Oper,o.op=op->o.type=ty->(execOp a.eval o).run P w=.ok (.enter f args) w)(hK:Calls P f args w λe w'=>∃v,e=.returned v/\Dc P ops K is (a.put d v) w'):Dc P ops K (i::is) a w:=by
 cases hq:ops[i]? with
 |none=>rw[hq]at ho;cases ho
 |some o=>
  rw[hq]at ho;simp only[aT,ai,ar]at ho;obtain⟨h1,h2,h4,h3⟩:=ho;show Gm P ops i _ a w;unfold Gm;rw[hq];simp only;rw[if_pos (by simp[Region.wanted,h3])];refine⟨λc e=>hd c (h2 ▸ e),?_⟩;unfold wpv;rw[hr o h2 h4];refine Calls.mono hK λe w' ⟨v,hv,hk⟩=>⟨v,hv,?_⟩;rw[h1];exact hk
theorem Mn{s:Sem Value}(h:s.run P w=.ok v w'):Sem.run P (do pure (Next.value (←s))) w=.ok (Next.value v) w':=by
 rw[Sem.run_bind,h];rfl
theorem A27{s:Sem Unit}(h:s.run P w=.ok () w'):Sem.run P (do s;pure Next.skip) w=.ok Next.skip w':=by
 rw[Sem.run_bind,h];rfl
theorem Um{α:Type}:∀(k:Ask α)(w:World),w.drawn<=(w.ask k).2.drawn
 |.done a,w=>ag _
 | .ask what range k,w=>by
  unfold World.ask;simp only;split
  ·exact Um _ w
  ·have:=Um (k ((Question.extern what range).cut (w.tape w.drawn (Question.extern what range)))) {w with drawn:=w.drawn+1};exact ax (aJ _) this
theorem Ani(w:World)(c:Sys):w.drawn<=(w.sys c).2.drawn:=by
 unfold World.sys;have h:=Um (Kernel.perform c w.os) w;split
 ·exact ag _
 ·rename_i r os w1 e;rw[e]at h;exact h
theorem Aou{w w1:World}{p:Program}{a:Addr}{b:Bool}{l:List Addr}(h:w.farStore p a v b=.ok (w1,l)):w1.drawn=w.drawn:=by
 unfold World.farStore at h;split at h
 ·split at h
  ·rename_i r e;cases h;unfold World.viewStore at e;revert e;simp only[bind,Except.bind,pure,Except.pure];intro e
   repeat' split at e
   all_goals (first|(cases e;done)|(cases e;rfl))
  ·cases h
 ·cases h
theorem S_{α:Type}:∀(s:Sem α)(w:World)(v:α)(w':World),s.run P w=.ok v w'->w.drawn<=w'.drawn:=by
 intro s;induction s with
 |pure a=>intro w v w' h;cases h;exact ag _
 | load m a k ih=>
  intro w v w' h;simp only[Sem.run]at h;split at h
  ·exact ih _ _ _ _ h
  ·split at h
   ·exact ih _ _ _ _ h
   ·cases h
 | store m a x k ih=>
  intro w v w' h;have key:(∀l,x ≠ .agg l)->(∀l,x ≠ .tuple l)->w.drawn<=w'.drawn:=λn1 n2=>by
   have e:Sem.run P (.store m a x k) w=match w.cell? a with
    | some _ => if w.frozen? a then .halt (.unsupported (.unsafePointer "a write to bytes that a string shares")) w else k.run P (w.setCell a x)
    |none=>match w.farStore P a x (m == .atomic) with
     |.ok (w,_)=>k.run P w
     |.error h=>.halt h w:=by
    cases x with
    |agg l=>exact absurd rfl (n1 l)
    |tuple l=>exact absurd rfl (n2 l)
    |_=>rfl
   rw[e]at h;split at h
   ·split at h
    ·cases h
    ·have:=ih _ _ _ h;exact this
   ·split at h
    ·rename_i w1 l e2;have:=ih _ _ _ h;rw[Aou e2]at this;exact this
    ·cases h
  cases x with
  |agg l=>cases h
  |tuple l=>cases h
  |_=>exact key (λ_=>nofun) (λ_=>nofun)
 |new o k ih=>intro w v w' h;have:=ih _ _ _ _ h;exact this
 |shape r k ih=>intro w v w' h;exact ih _ _ _ _ h
 |freeze a m k ih=>
  intro w v w' h;have:=ih _ _ _ h;unfold World.freeze at this;split at this <;> exact this
 |frozen a k ih=>intro w v w' h;exact ih _ _ _ _ h
 |getObj r k ih=>
  intro w v w' h;simp only[Sem.run]at h;split at h
  ·cases h
  ·exact ih _ _ _ _ h
  ·cases h
 | setObj r o k ih=>
  intro w v w' h;simp only[Sem.run]at h;split at h
  ·cases h
  ·have:=ih _ _ _ h;exact this
  ·cases h
 | choose q k ih=>
  intro w v w' h;simp only[Sem.run]at h;split at h
  ·exact ih _ _ _ _ h
  ·have:=ih _ _ _ _ h;exact ax (aJ _) this
 |sys c k ih=>intro w v w' h;exact ax (Ani w c) (ih _ _ _ _ h)
 |program k ih=>intro w v w' h;exact ih _ _ _ _ h
 |mark m k ih=>intro w v w' h;exact ih _ _ _ h
 |halt h0=>intro w v w' h;cases h
end
end Go.SL
