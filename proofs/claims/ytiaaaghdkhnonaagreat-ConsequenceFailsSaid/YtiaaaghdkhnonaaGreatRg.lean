import Derived.Test.YtiaaaghdkhnonaaGreatSg
set_option linter.unusedVariables false
namespace Go.SL
variable{B kp:Nat}{S1 S2 T':Nat->Prop}{W W':World}
def Awx:D->Bool
 |.ip _=>true
 |_=>false
theorem A1d{S S':Nat->Prop}{w w':World}{ρ ρ':eU}{x:Value}{d:D}(hi:Awx d=true)(h:Rd S w ρ x d)(hS:∀b,S b->S' b)(hw:∀b,S b->w'.heap[b]?=w.heap[b]?):Rd S' w' ρ' x d:=by
 cases h with
 |ip h=>exact .ip (h.mono hS hw)
 |_=>cases hi
theorem Aeg{S S':Nat->Prop}{w w':World}{ρ ρ':eU}(hS:∀b,S b->S' b)(hw:∀b,S b->w'.heap[b]?=w.heap[b]?):∀{xs:eU}{ds:List D},ds.all Awx=true->A9 (Rd S w ρ) xs ds->A9 (Rd S' w' ρ') xs ds
 | [],[],_,_=>trivial
 |x::xs,d::ds,hi,h=>by simp only[List.all_cons,ac]at hi;exact⟨A1d hi.1 h.1 hS hw,Aeg hS hw hi.2 h.2⟩
 | [],_::_,_,h=>h.elim
 |_::_,[],_,h=>h.elim
def R7(P:Program)(g:FuncId)(ips:List D){α:Type}(encs:α->Array Value)(xs:List α):Prop:=
 Fe P g/\∀(S:Nat->Prop)(caps:eU)(l:Nat)(J:List α->(Nat->Prop)->World->Prop)(Jx:World->Prop)(W:World),
  Qu S W->(∀k,S k->k<W.heap.size)->A9 (Rd S W []) caps ips ->
  (∀pre T T' A A',J pre T A->A.grownBy A' none->(drw=true->A.drawn<=A'.drawn)->(∀k,T' k->T k\/A.heap.size<=k/\∃vs t f,A'.heap[k]?=some (.cells vs t f))->J pre T' A') ->
  (∀pre x rest T W1,J pre T W1->xs=pre++x::rest->YieldAt Fence.wide 1 P l (encs x) W1 λe W'=>(e=.returned (.bool true)/\J (pre++[x]) T W'/\(∀k,S k\/T k->W'.heap[k]?=W1.heap[k]?)/\W1.heap.size<=W'.heap.size)\/(e=.returned (.bool false)/\Jx W')) ->
  J [] (λ_=>False) W->CallsIn Fence.wide 2 P g (#[.func (.yield l) #[] #[]]++caps.toArray) W λe W'=>(∃v,e=.returned v)/\((∃T,J xs T W')\/Jx W')
section
variable{P:Program}{n:Nat}{C:Ctx}{S S':Nat->Prop}{w w':World}{ρ ρ':eU}{R R':List Res}{a:Act}{st:St}
theorem Mid.turn2{row:Option Nat}(h:Mid C st B S1 a R W)(hg:W.grownBy W' row)(hd:drw=true->W.drawn<=W'.drawn)(hB:C.w.heap.size<=B)(hr:∀r,row=some r->B<=r/\∃o:Obj,W.heap[r]?=some o/\o.isCells=false):Mid C st B S1 a R W':=by obtain⟨S,ρ,h1,h2,h3,h4⟩:=h;obtain⟨g1,g2,g3⟩:=h1.turn hg hd hB hr h4;refine⟨S,ρ,g1,λe he=>?_,h3,g3⟩;obtain⟨q1,q2⟩:=h2 e he;refine⟨λhp=>?_,q2⟩;obtain⟨x,hx,hrx⟩:=q1 hp;exact⟨x,hx,hrx.mono (λ_ h=>h) g2 (Pre.refl _)⟩
theorem Mid.more(h:Mid C st B S1 a R W)(hg:W.grownBy W' none)(hd:drw=true->W.drawn<=W'.drawn)(hT:∀k,T' k->S1 k\/W.heap.size<=k/\∃vs t f,W'.heap[k]?=some (.cells vs t f)):Mid C st B T' a R W':=by
 obtain⟨S,ρ,h1,h2,h3,h4⟩:=h;have hw:∀b,b<W.heap.size->W'.heap[b]?=W.heap[b]?:=λb hb=>hg.block b hb (by simp);have hs:∀b,S b->W'.heap[b]?=W.heap[b]?:=λb hb=>hw b (h1.sup b hb).1;refine⟨λk=>S k\/(W.heap.size<=k/\∃vs t f,W'.heap[k]?=some (.cells vs t f)),ρ,h1.grow (λ_ h=>.inl h) (λb hb=>hb.imp id λ⟨g1,vs,t,f,g2⟩=>⟨g1,(aP.1 g2).1⟩) hw hg.size hg.os ⟨hg.tape,hd⟩ hg.output,λe he=>?_,λk hk=>?_,λk hk=>?_⟩
 .obtain⟨q1,q2⟩:=h2 e he;refine⟨λhp=>?_,q2⟩;obtain⟨x,hx,hrx⟩:=q1 hp;exact⟨x,hx,hrx.mono (λ_ h=>.inl h) hs (Pre.refl _)⟩
 .exact(hT k hk).imp (h3 k) id
 grind
theorem Mid.less(h:Mid C st B S1 a R W)(hS:∀k,S2 k->S1 k):Mid C st B S2 a R W:=by obtain⟨S,ρ,h1,h2,h3,h4⟩:=h;exact⟨S,ρ,h1,h2,λk hk=>h3 k (hS k hk),h4⟩
theorem dK(hB:C.w.heap.size<=B)(h1:Inv C S W ρ R)(h2:Co S W ρ a (mkL st))(h3:∀k,S1 k->S k)(h4:∀k,S k->k<B\/∃vs t f,W.heap[k]?=some (.cells vs t f))
  (hkp:Ol kp st=true)(hCk:C.h.length<=kp)(hk:Inv ⟨W,S,Em ρ R,ρ.take kp,[]⟩ S' W' ρ' R'){a2:Act}{st2:St}(h5:Co S' W' ρ' a2 (mkL st2)):∃S2,Inv C S2 W' ρ' R'/\Co S2 W' ρ' a (mkL st)/\(∀k,S1 k->S2 k)/\(∀k,S2 k->k<B\/∃vs t f,W'.heap[k]?=some (.cells vs t f))/\Co S2 W' ρ' a2 (mkL st2) /\
   (∀k,S1 k->W'.heap[k]?=W.heap[k]?)/\∀(k:Nat)(o:Obj),W.heap[k]?=some o->o.isCells=false->W'.heap[k]?=some o:=by
 have hpre:∀(i:Nat) v,i<kp->ρ[i]?=some v->ρ'[i]?=some v:=λi v hi hv=>hk.pre i v (by grind);have hT:=h1.trans hk (λi v hv=>hpre i v (aJ (aa.1 hv).1 hCk) (h1.pre i v hv));have hsame:∀k,S k->W'.heap[k]?=W.heap[k]?:=λk hS=>hk.frm k (h1.sup k hS).1 λ⟨i,r,v,g1,g2,g3⟩=>(h1.own i r v k g1 g2 g3).1 hS;refine⟨λk=>S' k/\(k<B\/∃vs t f,W'.heap[k]?=some (.cells vs t f)),hT.trim (λk hS hc=>⟨hS,.inr hc⟩) (λ_ h=>h.1) (λk hC=>⟨hT.sub k hC,.inl (aJ (h1.gl.2.1 k hC).1 hB)⟩),λe he=>?_,λk hS1=>⟨hk.sub k (h3 k hS1),?_⟩,λk h=>h.2,λe he=>?_,λk hS1=>hsame k (h3 k hS1),λk o ho hc=>?_⟩
 .obtain⟨q1,q2⟩:=h2 e he;refine⟨λhp=>?_,q2⟩;obtain⟨x,hx,hrx⟩:=q1 hp;have:=hrx.monoK (S':=S') (w':=W') (ρ':=ρ') (λk hS=>hk.sub k hS) hsame hpre (Ka hkp he);exact⟨x,hx,this.trim λk hS hc=>⟨hS,.inr hc⟩⟩
 .grind
 .obtain⟨q1,q2⟩:=h5 e he;refine⟨λhp=>?_,q2⟩;obtain⟨x,hx,hrx⟩:=q1 hp;exact⟨x,hx,hrx.trim λk hS hc=>⟨hS,.inr hc⟩⟩
 .refine(hk.frm k (aP.1 ho).1 λ⟨i,r,v,g1,g2,g3⟩=>?_).trans ho;obtain⟨vs,t,f,q⟩:=Jy (h1.ok i r v g1 g2) g3;rw[ho]at q;cases q;cases hc
theorem dD(w:World):w.grownBy w none:=⟨rfl,rfl,rfl,af _,λ_ _ _=>rfl⟩
theorem Ab4{α σ τ:Type}{Q:Exit->Act->World->Prop}{items:List It}(hi:A82 items=true){t gf:Nat}{ips:List D}(hip:ips.all Awx=true)(encs:α->Array Value)(xs:List α)(f:α->σ->Option (Ctl σ τ))(RF:σ->List Res)(Rr:τ->List Res)
  (r:Ctl σ τ)(s:σ)(prm stB:α->St)(RB:α->σ->List Res)(hm:Lm f xs s=some r)(hit:R7 P gf ips encs xs)
  (hgt:rgG items=.tmp t)(hg:(Eu (mkL st) t).map Ent.v=some (.d (.fn (.func gf) [] ips)))(h1:R=RF s)
  (stO:St)(hO:sel (mkL st) (Jj stO)=some stO)(hdis:(Jj stO).all (λu=>!(Nl (Av1 items).toList u))=true)
  (hps:∀x,(encs x).size=(Av1 items).size)(hav:∀(x:α)(tm:Array Value),tm.size=n->∀e,e∈mkL (prm x)->∃v,(Lb (Av1 items) (encs x) tm)[e.t]?=some v/\∀S w ρ,RdA S w ρ v e.v)
  (hC:C.df=[]){C0:Ctx}(hup:Up C0 C)(kp:Nat)(hkp:Ol kp st=true)(hCk:C.h.length<=kp)
  (hdone:∀(C2:Ctx) s',C2.h=C.h->Up C0 C2->r=.next s'->WI none P n C2 Q (tlI items) st (RF s'))
  (hret:∀(C2:Ctx) v,C2.h=C.h->Up C0 C2->r=.ret v->∀a w,Sat n C2 (mkL st) (Rr v) a w->Q .ret a w)
  (has:∀(l:Nat)(C':Ctx) x s,C'.h.length<=kp->C'.df=[]->WI (some l) P n C' (λ_ _ _=>False) [.c (A8o items),.k (Ex n C' (λ_:Unit=>True) (λ_=>stB x) (λ_=>RB x s))] (stO++prm x) (RF s))
  (hbody:∀(l:Nat)(C':Ctx) x s k,C'.h.length<=kp->C'.df=[]->f x s=some k->(∀v,k=.ret v->r=.ret v) ->
   WI (some l) P n C' (λe a w=>e=.ret/\∃v,k=.ret v/\Sat n C' (mkL []) (Rr v) a w) [.c (A8n items),.k (Ex n C' (λs'=>k=.next s') (λ_=>[]) RF)] (stB x) (RB x s)) :
  WI none P n C Q items st R:=by
 match items,hi,hgt,has,hdis,hps,hav,hdone,hbody with
 |.c (.rangeFunc g ps as bd)::l,_,hgt,has,hdis,hps,hav,hdone,hbody=>
 simp only[rgG]at hgt;subst hgt;intro a w hs;obtain⟨hdef,hsize,S0,ρ0,hI0,hL0⟩:=hs;show (Code.rangeFunc (.tmp t) ps as bd).wpIn (FR none) 0 P (Qs none P l Q) a w;rw[hC]at hdef;cases he:Eu (mkL st) t with
 |none=>rw[he]at hg;cases hg
 |some e0=>
 rw[he]at hg;simp only[be,ah]at hg;obtain⟨hm0,ht0⟩:=Dh he;obtain⟨fv,hfv,hfr⟩:=(hL0 e0 hm0).1 (by rw[D9 hm0];exact Cd);rw[ht0]at hfv;rw[hg]at hfr;obtain⟨xs0,cs0,hfe,hxs0,hcs0⟩:=hfr.d_inv.fn_inv;have hx0:xs0=[]:=by cases xs0 with|nil=>rfl|cons=>exact hxs0.elim
 subst hx0;have heval:a.eval (.tmp t)=.func (.func gf) #[] cs0.toArray:=by simp[Act.eval,eu,hfv,hfe]
 have hF:=hI0;rw[h1]at hF;obtain⟨B,hBd⟩:∃B,B=w.heap.size:=⟨_,rfl⟩;have hCB:C.w.heap.size<=B:=by rw[hBd];exact hI0.size
 have hmid0:Mid C st B S0 a (RF s) w:=⟨S0,ρ0,hF,hL0,λ_ h=>h,λk hk=>.inl (by rw[hBd];exact(hF.sup k hk).1)⟩;refine Sj (m:=3) rfl (wpIn_rangeFunc λfn _=>?_);obtain⟨rec,hrec⟩:∃rec:LoopState->Option Code->Loop,rec=λst pe=>{state:=st,pending:=pe,fn,tmps:=a.tmps,params:=ps,assign:=as,body:=bd,defers:=B}:=⟨_,rfl⟩;obtain⟨W1,hW1⟩:∃W1,(w.alloc (.deferred (some []))).alloc (.loop (rec .ready none))=W1:=⟨_,rfl⟩;have hsz1:W1.heap.size=B+2:=by rw[←hW1,hBd];simp
 have hl1:W1.heap[B+1]?=some (.loop (rec .ready none)):=by rw[←hW1];have:=Fz (w.alloc (.deferred (some []))) (.loop (rec .ready none));rw[World.size_alloc]at this;rw[hBd];exact this
 have hd1:W1.heap[B]?=some (.deferred (some [])):=by rw[←hW1,Cu _ _ _ (by rw[hBd];simp),hBd];exact Fz _ _
 have hg1:w.grownBy W1 none:=⟨by rw[←hW1];rfl,by rw[←hW1];rfl,by rw[←hW1];rfl,by rw[hsz1,hBd];omega,λk hk _=>by rw[←hW1,Cu _ _ _ (by simp;omega),Cu _ _ _ hk]⟩;have hmid1:Mid C st B S0 a (RF s) W1:=hmid0.turn2 hg1 (λ_=>by rw[←hW1];exact af _) hCB (λr e=>by cases e);refine⟨B+1,[{target:=.collected B,args:=#[]}],W1,{target:=.fn (.func gf) cs0.toArray,args:=#[.func (.yield (B+1)) #[] #[]]},W1,gf,
  #[.func (.yield (B+1)) #[] #[]]++cs0.toArray,W1,?_,?_,λ_ _=>trivial,?_,λh=>(by cases h),?_⟩
 .rw[←hW1,hrec,hBd];exact run_enterLoop_outer _ _ _ _ _
 .simp only[resolve,heval];simp[Deferred.ofValue,Act.eval]
 .have:=hit.1 (#[.func (.yield (B+1)) #[] #[]]++cs0.toArray) W1;simpa[invoke]using this
 .have hup':∀(W:World)(S:Nat->Prop)(ρ:eU)(R':List Res),Inv C S W ρ R'->Up C0 ⟨W,S,Em ρ R',C.h,[{target:=.collected B,args:=#[]}]⟩:=λW S ρ R' hi=>
   ⟨λS' w' ρ' R2 h2=>hup.up _ _ _ _ (hi.trans h2 h2.pre),.inr ⟨B,rfl,by rw[hBd];exact(hup.up _ _ _ _ hI0).size⟩,hup.hl⟩
  have hturn:∀(T:Nat->Prop)(hT:∀k,T k->k≠B+1)(W:World)(R':List Res)(o o':Obj),Mid C st B T a R' W->W.heap[B+1]?=some o->o.isCells=false->W.heap[B]?=some (.deferred (some [])) ->
    Mid C st B T a R' (W.putObj (B+1) o')/\(W.putObj (B+1) o').heap[B+1]?=some o'/\(W.putObj (B+1) o').heap[B]?=some (.deferred (some []))/\∀k,T k->(W.putObj (B+1) o').heap[k]?=W.heap[k]?:=λT hT W R' o o' hmd ho hc hd=>
   ⟨hmd.turn2 (grownBy_putObj' W (B+1) o') (λ_=>af _) hCB (λq e=>by cases e;exact⟨by omega,o,ho,hc⟩),World.putObj_heap_same (aP.1 ho).1,(World.putObj_heap_other (by omega)).trans hd,
    λk hk=>World.putObj_heap_other (hT k hk)⟩
  have hall:∀k,S0 k->k<B:=λk hk=>by rw[hBd];exact(hI0.sup k hk).1
  have hW1S:∀k,S0 k->W1.heap[k]?=w.heap[k]?:=λk hk=>hg1.block k (by rw[←hBd];exact hall k hk) (by simp);refine CallsIn.mono (F:=Fence.wide) (n:=2) (hit.2 S0 cs0 (B+1)
   (λpre T W=>(∃s,(∃rest,xs=pre++rest/\Lm f rest s=some r)/\Mid C st B (λk=>S0 k\/T k) a (RF s) W)/\(∀k,T k->B+2<=k)/\W.heap[B+1]?=some (.loop (rec .ready none))/\W.heap[B]?=some (.deferred (some [])))
   (λW=>(∃v,r=.ret v/\Mid C st B S0 a (Rr v) W)/\W.heap[B+1]?=some (.loop (rec .done (some .ret)))/\W.heap[B]?=some (.deferred (some [])))
   W1 (hI0.glOk.mono (λ_ h=>h) hW1S) (λk hk=>by have:=hall k hk;rw[hsz1];omega) (Aeg (λ_ h=>h) hW1S hip hcs0) ?_ ?_ ⟨⟨s,⟨xs,by simp,hm⟩,hmid1.more (dD _) (λ_=>af _) (λk hk=>.inl (hk.resolve_right id))⟩,(λk hk=>hk.elim),hl1,hd1⟩) ?_
  .rintro pre T T' A A' ⟨⟨s2,hre,hmid⟩,hTB,hl,hd⟩ hg hdr hT;have hBA:B+1<A.heap.size:=(aP.1 hl).1;refine⟨⟨s2,hre,hmid.more hg hdr λk hk=>?_⟩,λk hk=>?_,(hg.block _ hBA (by simp)).trans hl,(hg.block _ (by omega) (by simp)).trans hd⟩
   .rcases hk with hk|hk
    .exact .inl (.inl hk)
    .exact(hT k hk).imp .inr id
   .rcases hT k hk with q|q
    .exact hTB k q
    .omega
  .rintro pre x rest T W2 ⟨⟨s2,⟨rest2,hre2,hfo2⟩,hmid⟩,hTB,hl2,hd2⟩ hxs;have hTn:∀k,(S0 k\/T k)->k≠B+1:=λk hk=>by
    rcases hk with hk|hk
    .have:=hall k hk;omega
    .have:=hTB k hk;omega
   have hrr:rest2=x::rest:=List.append_cancel_left (hre2.symm.trans hxs);subst hrr;simp only[Lm]at hfo2;cases hk:f x s2 with
   |none=>rw[hk]at hfo2;cases hfo2
   |some k=>
   rw[hk]at hfo2;have hkret:∀v,k=.ret v->r=.ret v:=by intro v e;subst e;simp only[ah]at hfo2;exact hfo2.symm
   refine⟨fn,Lb ps (encs x) a.tmps,as,bd,?_,roundIn_of_wpIn trivial ?_⟩
   .have:=run_yield (P:=P) (args:=encs x) hl2 (by rw[hrec];exact hps x);rw[hrec]at this;exact this
   .show as.wpIn (FR (some (B+1))) 1 P _ _ W2;obtain⟨S,ρ,i1,i2,i3,i4⟩:=hmid;have htake:∀(ρ:eU),Pre (ρ.take kp) ρ:=λρ i v hv=>by
     rw[aq]at hv;split at hv
     .exact hv
     .cases hv
    have hseg:=i1.seg (ρ.take kp) (htake ρ) [] (λd hd=>by cases hd);have hsat:Sat n ⟨W2,S,Em ρ (RF s2),ρ.take kp,[]⟩ (mkL (stO++prm x)) (RF s2) ({tmps:=Lb ps (encs x) a.tmps,defers:=[]}:Act) W2:=by
     have hsz:(Lb ps (encs x) a.tmps).size=n:=by rw[Uz,yR];exact hsize
     refine⟨rfl,hsz,S,ρ,hseg,λe he=>?_⟩;rcases jO he with he|he
     .have hk1:=yJ he;have hdis':=(aG.1 hdis) e.t hk1;simp only[aW]at hdis';have hp0:=D9 he;obtain⟨q1,_⟩:=i2 e (On hO e he);obtain⟨y,hy,hry⟩:=q1 (by rw[hp0];exact Cd);refine⟨λ_=>⟨y,?_,hry⟩,λhn=>absurd (by rw[hp0];exact Cd) hn⟩;show (Lb ps (encs x) a.tmps)[e.t]?=some y;rw[Adr (ps:=ps) hdis'];exact hy
     .obtain⟨v,hv1,hv2⟩:=hav x a.tmps hsize e he;exact⟨λ_=>⟨v,hv1,hv2 _ _ _⟩,λhn=>absurd (by rw[D9 he];exact Cd) hn⟩
    have hA:=has (B+1) ⟨W2,S,Em ρ (RF s2),ρ.take kp,[]⟩ x s2 (by simp;omega) rfl _ W2 hsat;refine Sj (m:=0) rfl (wpIn_mono hA ?_);intro e a3 W2' hq;have hen:e=.normal:=by cases e with
     |normal=>rfl
     |_=>exact hq.elim
    subst hen;obtain⟨_,_,d3,z3,S3,ρ3,j1,j2⟩:=hq;obtain⟨S4,k1,k2,k3,k4,k5,m20,m30⟩:=dK hCB i1 i2 i3 i4 hkp hCk j1 j2;have hl2':=m30 _ _ hl2 rfl;have hd2':=m30 _ _ hd2 rfl;refine⟨_,run_beginRound hl2' (by rw[hrec]),?_⟩;obtain⟨W3,hW3⟩:∃W3,W3=W2'.putObj (B+1) (.loop {rec .ready none with state:=.busy}):=⟨_,rfl⟩;obtain⟨t1,t2,t3⟩:=k1.turn (grownBy_putObj' W2' (B+1) (.loop {rec .ready none with state:=.busy})) (λ_=>af _) hCB (λq e=>by cases e;exact⟨by omega,_,hl2',rfl⟩) k4;have hmt:∀{a:Act}{st:St},Co S4 W2' ρ3 a (mkL st)->Co S4 (W2'.putObj (B+1) (.loop {rec .ready none with state:=.busy})) ρ3 a (mkL st):=λh e he=>by obtain⟨q1,q2⟩:=h e he;refine⟨λhp=>?_,q2⟩;obtain⟨x,hx,hrx⟩:=q1 hp;exact⟨x,hx,hrx.mono (λ_ h=>h) t2 (Pre.refl _)⟩
    have k2':=hmt k2;have k5':=hmt k5;have hl3:(W2'.putObj (B+1) (.loop {rec .ready none with state:=.busy})).heap[B+1]?=some (.loop {rec .ready none with state:=.busy}):=World.putObj_heap_same (aP.1 hl2').1;have hd3:=(World.putObj_heap_other (w:=W2') (r:=B+1) (o:=.loop {rec .ready none with state:=.busy}) (by omega:B≠B+1)).trans hd2';have hs3:∀k,(S0 k\/T k)->(W2'.putObj (B+1) (.loop {rec .ready none with state:=.busy})).heap[k]?=W2.heap[k]?:=λk hk=>(t2 k (k3 k hk)).trans (m20 k hk);have hsz3:(W2'.putObj (B+1) (.loop {rec .ready none with state:=.busy})).heap.size=W2'.heap.size:=by simp[World.putObj]
    have hszj:=j1.size;generalize W2'.putObj (B+1) (.loop {rec .ready none with state:=.busy})=W3 at t1 t2 t3 k2' k5' hl3 hd3 hs3 hsz3 ⊢;have hseg3:=t1.seg (ρ3.take kp) (htake ρ3) [] (λd hd=>by cases hd);have hb:=hbody (B+1) ⟨W3,S4,Em ρ3 (RB x s2),ρ3.take kp,[]⟩ x s2 k (by simp;omega) rfl hk hkret a3 W3 ⟨d3,z3,S4,ρ3,hseg3,k5'⟩;show bd.wpIn (FR (some (B+1))) 1 P _ _ W3;refine Sj (m:=0) rfl (wpIn_mono hb ?_);intro e a3 W4 hq;cases e with
    | normal=>
     obtain⟨s',hks,_,_,S',ρ',hinv,_⟩:=hq;obtain⟨m1,m2,m3⟩:=Mid.back hCB t1 k2' k3 t3 hkp hCk hinv;have hl4:=m3 _ _ hl3 rfl;have hd4:=m3 _ _ hd3 rfl;obtain⟨n1,n2,n3,n4⟩:=hturn _ hTn W4 (RF s') _ (.loop (rec .ready none)) m1 hl4 rfl hd4;subst hks;refine⟨_,_,run_endRound none hl4,.inl ⟨rfl,⟨⟨s',⟨rest,by rw[hxs];simp,hfo2⟩,?_⟩,hTB,?_,?_⟩,λk hk=>?_,?_⟩⟩
     .rw[hrec]at n1 ⊢;exact n1
     .rw[hrec]at n2 ⊢;exact n2
     .rw[hrec]at n3 ⊢;exact n3
     .rw[hrec]at n4 ⊢;exact((n4 k hk).trans (m2 k hk)).trans (hs3 k hk)
     .have:=hinv.size;simp only[World.putObj,Array.size_setIfInBounds];have h9:W2.heap.size<=W2'.heap.size:=hszj;have h8:W3.heap.size<=W4.heap.size:=this;omega
    |ret=>
     obtain⟨_,v,hkv,_,_,S',ρ',hinv,_⟩:=hq;obtain⟨m1,m2,m3⟩:=Mid.back hCB t1 k2' k3 t3 hkp hCk hinv;have hl4:=m3 _ _ hl3 rfl;have hd4:=m3 _ _ hd3 rfl;obtain⟨n1,n2,n3,n4⟩:=hturn _ hTn W4 (Rr v) _ (.loop (rec .done (some .ret))) m1 hl4 rfl hd4;refine⟨_,_,run_endRound (some .ret) hl4,.inr ⟨rfl,⟨v,hkret v hkv,?_⟩,?_,?_⟩⟩
     .rw[hrec]at n1 ⊢;exact n1.less λk hk=>.inl hk
     .rw[hrec]at n2 ⊢;exact n2
     .rw[hrec]at n3 ⊢;exact n3
    |_=>cases hq.1
  .rintro e W2 ⟨⟨v,rfl⟩,(⟨T,⟨s2,⟨rest,hre,hfo⟩,hmid⟩,hTB,hl2,hd2⟩|⟨⟨v2,hr2,hmid⟩,hl2,hd2⟩)⟩
   .have hrest:rest=[]:=by
     have:=congrArg List.length hre;simp at this;exact this
    subst hrest;simp only[Lm,ah]at hfo;subst hrec;have hend:=run_endLoop (P:=P) hl2 (by simp);obtain⟨n1,n2,n3,n4⟩:=hturn _ (λk hk=>by have:=hall k hk;omega) W2 (RF s2) _ (.loop {state:=.exhausted,pending:=none,fn:=fn,tmps:=a.tmps,params:=ps,assign:=as,body:=bd,defers:=B}) (hmid.less (S2:=S0) λk hk=>.inl hk) hl2 rfl hd2;refine⟨none,W2.putObj (B+1) (.loop {state:=.exhausted,pending:=none,fn:=fn,tmps:=a.tmps,params:=ps,assign:=as,body:=bd,defers:=B}),hend,?_⟩;obtain⟨S,ρ,i1,i2,i3,_,_⟩:=n1.seg [{target:=.collected B,args:=#[]}] (λd hd=>by rw[aU]at hd;exact⟨B,hd,af _,n3⟩)
    exact hdone ⟨W2.putObj (B+1) (.loop {state:=.exhausted,pending:=none,fn:=fn,tmps:=a.tmps,params:=ps,assign:=as,body:=bd,defers:=B}),S,Em ρ (RF s2),C.h,[{target:=.collected B,args:=#[]}]⟩ s2 rfl (hup' _ S ρ _ i1) hfo.symm _ _ ⟨by show _++a.defers=_;rw[hdef];rfl,hsize,S,ρ,i2,λe he=>i3 e he⟩
   .subst hrec;have hend:=run_endLoop (P:=P) hl2 (by simp);obtain⟨n1,n2,n3,n4⟩:=hturn S0 (λk hk=>by have:=hall k hk;omega) W2 (Rr v2) _ (.loop {state:=.exhausted,pending:=some .ret,fn:=fn,tmps:=a.tmps,params:=ps,assign:=as,body:=bd,defers:=B}) hmid hl2 rfl hd2;refine⟨some .ret,W2.putObj (B+1) (.loop {state:=.exhausted,pending:=some .ret,fn:=fn,tmps:=a.tmps,params:=ps,assign:=as,body:=bd,defers:=B}),hend,?_⟩;obtain⟨S,ρ,i1,i2,i3,_,_⟩:=n1.seg [{target:=.collected B,args:=#[]}] (λd hd=>by
     rw[aU]at hd;exact⟨B,hd,af _,n3⟩)
    exact wpIn_ret (Po (hret ⟨W2.putObj (B+1) (.loop {state:=.exhausted,pending:=some .ret,fn:=fn,tmps:=a.tmps,params:=ps,assign:=as,body:=bd,defers:=B}),S,Em ρ (Rr v2),C.h,[{target:=.collected B,args:=#[]}]⟩ v2 rfl (hup' _ S ρ _ i1) hr2 _ _ ⟨by show _++a.defers=_;rw[hdef];rfl,hsize,S,ρ,i2,λe he=>i3 e he⟩))
end
end Go.SL
