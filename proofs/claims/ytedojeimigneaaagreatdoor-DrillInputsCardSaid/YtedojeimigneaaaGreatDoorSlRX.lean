import Derived.Test.YtedojeimigneaaaGreatDoorSlZ
set_option linter.unusedVariables false
namespace Go.SL
variable{ps:Array Tmp}{tm vs:Array Value}{ips:List D}{B kp:Nat}{S1 S2 T':Nat->Prop}{W W':World}
def Aj0:D->Bool
 |.ip _=>true
 |_=>false
theorem A1u{S S':Nat->Prop}{w w':World}{ρ ρ':eA}{x:Value}{d:D}(hi:Aj0 d=true)(h:Rd S w ρ x d)(hS:∀b,S b->S' b)(hw:∀b,S b->w'.heap[b]?=w.heap[b]?):Rd S' w' ρ' x d:=by
 cases h with
 |ip h=>exact .ip (h.mono hS hw)
 |_=>cases hi
theorem Ac1{S S':Nat->Prop}{w w':World}{ρ ρ':eA}(hS:∀b,S b->S' b)(hw:∀b,S b->w'.heap[b]?=w.heap[b]?):∀{xs:eA}{ds:List D},ds.all Aj0=true->Ay (Rd S w ρ) xs ds->Ay (Rd S' w' ρ') xs ds
 | [],[],_,_=>trivial
 |x::xs,d::ds,hi,h=>by simp only[List.all_cons,aa]at hi;exact⟨A1u hi.1 h.1 hS hw,Ac1 hS hw hi.2 h.2⟩
 | [],_::_,_,h=>h.elim
 |_::_,[],_,h=>h.elim
def J5(P:Program)(g:FuncId)(ips:List D)(xs:List (List AV)):Prop:=
 Dl P g/\∀(S:Nat->Prop)(caps:eA)(l:Nat)(J:List (List AV)->(Nat->Prop)->World->Prop)(Jx:World->Prop)(W:World),
  Tn S W->(∀k,S k->k<W.heap.size)->Ay (Rd S W []) caps ips ->
  (∀pre T T' A A',J pre T A->A.grownBy A' none->(drw=true->A.drawn<=A'.drawn)->(∀k,T' k->T k\/A.heap.size<=k/\∃vs t f,A'.heap[k]?=some (.cells vs t f))->J pre T' A') ->
  (∀pre x rest T W1(vs:Array Value),J pre T W1->xs=pre++x::rest->Ay (RdA (λk=>S k\/T k) W1 []) vs.toList x->YieldAt Fence.wide 1 P l vs W1 λe W'=>(e=.returned (.bool true)/\J (pre++[x]) T W'/\(∀k,S k\/T k->W'.heap[k]?=W1.heap[k]?)/\W1.heap.size<=W'.heap.size)\/(e=.returned (.bool false)/\Jx W')) ->
  J [] (λ_=>False) W->CallsIn Fence.wide 2 P g (#[.func (.yield l) #[] #[]]++caps.toArray) W λe W'=>(∃v,e=.returned v)/\((∃T,J xs T W')\/Jx W')
theorem yU{P:Program}{g:FuncId}{res:AV}(he:Dl P g)(h:CallOk P g (.d .any::ips.map AV.d) [] res []):J5 P g ips []:=by
 refine⟨he,λS caps l J Jx W hgl hS hc hJ hY h0=>callsIn_wide.2 ?_⟩;have hst:Start S W [] []:=⟨rfl,λi r h h1=>by simp at h1,λi j r r' h h' b _ h1=>by simp at h1,λi r h b h1=>by simp at h1,hS,hgl⟩;have hv:Ay (RdA S W []) (.func (.yield l) #[] #[]::caps) (.d .any::ips.map AV.d):=⟨.d (.any rfl),hc.map_right λ_ _ h=>.d h⟩;have:=h S W [] _ hst hv;rw[show (Value.func (Fn.yield l) #[] #[]::caps).toArray = #[.func (.yield l) #[] #[]]++caps.toArray from by simp]at this;refine Calls.mono this ?_;rintro e W' ⟨v,S',ρ',rfl,_,hI⟩;have hsame:∀k,k<W.heap.size->W'.heap[k]?=W.heap[k]?:=λk hk=>hI.frm k hk λ⟨i,r,h,h1,_⟩=>by simp at h1
 exact⟨⟨v,rfl⟩,.inl ⟨λ_=>False,hJ [] _ _ W W' h0 ⟨hI.os,hI.tape.1,hI.output,hI.size,λk hk _=>hsame k hk⟩ hI.tape.2 λk hk=>hk.elim⟩⟩
section
variable{P:Program}{n:Nat}{C:Ctx}{S S':Nat->Prop}{w w':World}{ρ ρ':eA}{R R':List Res}{a:Act}{st:St}
theorem Mid.turn2{row:Option Nat}(h:Mid C st B S1 a R W)(hg:W.grownBy W' row)(hd:drw=true->W.drawn<=W'.drawn)(hB:C.w.heap.size<=B)(hr:∀r,row=some r->B<=r/\∃o:Obj,W.heap[r]?=some o/\o.isCells=false):Mid C st B S1 a R W':=by obtain⟨S,ρ,h1,h2,h3,h4⟩:=h;obtain⟨g1,g2,g3⟩:=h1.turn hg hd hB hr h4;refine⟨S,ρ,g1,λe he=>?_,h3,g3⟩;obtain⟨q1,q2⟩:=h2 e he;refine⟨λhp=>?_,q2⟩;obtain⟨x,hx,hrx⟩:=q1 hp;exact⟨x,hx,hrx.mono (λ_ h=>h) g2 (Pre.refl _)⟩
theorem Mid.more(h:Mid C st B S1 a R W)(hg:W.grownBy W' none)(hd:drw=true->W.drawn<=W'.drawn)(hT:∀k,T' k->S1 k\/W.heap.size<=k/\∃vs t f,W'.heap[k]?=some (.cells vs t f)):Mid C st B T' a R W':=by
 obtain⟨S,ρ,h1,h2,h3,h4⟩:=h;have hw:∀b,b<W.heap.size->W'.heap[b]?=W.heap[b]?:=λb hb=>hg.block b hb (by simp);have hs:∀b,S b->W'.heap[b]?=W.heap[b]?:=λb hb=>hw b (h1.sup b hb).1;refine⟨λk=>S k\/(W.heap.size<=k/\∃vs t f,W'.heap[k]?=some (.cells vs t f)),ρ,h1.grow (λ_ h=>.inl h) (λb hb=>hb.imp id λ⟨g1,vs,t,f,g2⟩=>⟨g1,(aL.1 g2).1⟩) hw hg.size hg.os ⟨hg.tape,hd⟩ hg.output,λe he=>?_,λk hk=>?_,λk hk=>?_⟩
 .obtain⟨q1,q2⟩:=h2 e he;refine⟨λhp=>?_,q2⟩;obtain⟨x,hx,hrx⟩:=q1 hp;exact⟨x,hx,hrx.mono (λ_ h=>.inl h) hs (Pre.refl _)⟩
 .exact(hT k hk).imp (h3 k) id
 .rcases hk with hk|⟨_,hk⟩
  .rcases h4 k hk with q|q
   .exact .inl q
   .rw[hs k hk];exact .inr q
  .exact .inr hk
theorem Mid.less(h:Mid C st B S1 a R W)(hS:∀k,S2 k->S1 k):Mid C st B S2 a R W:=by obtain⟨S,ρ,h1,h2,h3,h4⟩:=h;exact⟨S,ρ,h1,h2,λk hk=>h3 k (hS k hk),h4⟩
theorem Mid.back2(hB:C.w.heap.size<=B)(h1:Inv C S W ρ R)(h2:Cd S W ρ a (mkL st))(h3:∀k,S1 k->S k)(h4:∀k,S k->k<B\/∃vs t f,W.heap[k]?=some (.cells vs t f))
  (hkp:N4 kp st=true)(hCk:C.h.length<=kp)(hk:Inv ⟨W,S,Ei ρ R,ρ.take kp,[]⟩ S' W' ρ' R'){a2:Act}{st2:St}(h5:Cd S' W' ρ' a2 (mkL st2)):∃S2,Inv C S2 W' ρ' R'/\Cd S2 W' ρ' a (mkL st)/\(∀k,S1 k->S2 k)/\(∀k,S2 k->k<B\/∃vs t f,W'.heap[k]?=some (.cells vs t f))/\Cd S2 W' ρ' a2 (mkL st2) /\
   (∀k,S1 k->W'.heap[k]?=W.heap[k]?)/\∀(k:Nat)(o:Obj),W.heap[k]?=some o->o.isCells=false->W'.heap[k]?=some o:=by
 have hpre:∀(i:Nat) v,i<kp->ρ[i]?=some v->ρ'[i]?=some v:=λi v hi hv=>hk.pre i v (by rw[ap,ei hi];exact hv);have hT:=h1.trans hk (λi v hv=>hpre i v (aE (ac.1 hv).1 hCk) (h1.pre i v hv));have hsame:∀k,S k->W'.heap[k]?=W.heap[k]?:=λk hS=>hk.frm k (h1.sup k hS).1 λ⟨i,r,v,g1,g2,g3⟩=>(h1.own i r v k g1 g2 g3).1 hS;refine⟨λk=>S' k/\(k<B\/∃vs t f,W'.heap[k]?=some (.cells vs t f)),hT.trim (λk hS hc=>⟨hS,.inr hc⟩) (λ_ h=>h.1) (λk hC=>⟨hT.sub k hC,.inl (aE (h1.gl.2.1 k hC).1 hB)⟩),λe he=>?_,λk hS1=>⟨hk.sub k (h3 k hS1),?_⟩,λk h=>h.2,λe he=>?_,λk hS1=>hsame k (h3 k hS1),λk o ho hc=>?_⟩
 .obtain⟨q1,q2⟩:=h2 e he;refine⟨λhp=>?_,q2⟩;obtain⟨x,hx,hrx⟩:=q1 hp;have:=hrx.monoK (S':=S') (w':=W') (ρ':=ρ') (λk hS=>hk.sub k hS) hsame hpre (Xb hkp he);exact⟨x,hx,this.trim λk hS hc=>⟨hS,.inr hc⟩⟩
 .rcases h4 k (h3 k hS1) with q|q
  .exact .inl q
  .rw[hsame k (h3 k hS1)];exact .inr q
 .obtain⟨q1,q2⟩:=h5 e he;refine⟨λhp=>?_,q2⟩;obtain⟨x,hx,hrx⟩:=q1 hp;exact⟨x,hx,hrx.trim λk hS hc=>⟨hS,.inr hc⟩⟩
 .refine(hk.frm k (aL.1 ho).1 λ⟨i,r,v,g1,g2,g3⟩=>?_).trans ho;obtain⟨vs,t,f,q⟩:=Ic (h1.ok i r v g1 g2) g3;rw[ho]at q;cases q;cases hc
theorem dC(w:World):w.grownBy w none:=⟨rfl,rfl,rfl,ai _,λ_ _ _=>rfl⟩
def uB:ey->Bool
 | []=>true
 |p::r=>!(Hc r p)&&uB r
def prm(ps:Array Tmp)(x:List AV):St:=ps.toList.zip x
theorem Y1{S:Nat->Prop}{w:World}{ρ:eA}:∀{ps:ey}{vs:eA}{x:List AV}{tm:Array Value},uB ps=true->(∀p,p∈ps->p<tm.size)->Ay (RdA S w ρ) vs x->∀e,e∈mkL (ps.zip x) ->
  ∃v,((ps.zip vs).foldl (λt(q:Nat×Value)=>t.setIfInBounds q.1 q.2) tm)[e.t]?=some v/\RdA S w ρ v e.v
 | [],vs,x,tm,_,_,_,e,he=>by simp[mkL]at he
 |p::ps,[],[],tm,_,_,_,e,he=>by simp[mkL]at he
 | p::ps,v::vs,y::x,tm,hn,hp,hv,e,he=>by
  simp only[uB,aa,aO]at hn;simp only[cd,mkL,ah]at he;simp only[cd,bq];rcases he with rfl|he
  .refine⟨v,?_,hv.1⟩;rw[T5]
   .simp[hp p (by simp)]
   .intro q hq e;have:q.1∈ps:=(bO hq).1;rw[←Ou,e]at this;rw[hn.1]at this;cases this
  .exact Y1 hn.2 (λq hq=>by simpa using hp q (by simp[hq])) hv.2 e he
 |p::ps,[],_::_,tm,_,_,h,e,he=>h.elim
 |p::ps,_::_,[],tm,_,_,h,e,he=>h.elim
theorem Aja{S:Nat->Prop}{w:World}{ρ:eA}{x:List AV}(hn:uB ps.toList=true)(hp:∀p,p∈ps.toList->p<tm.size)(_:vs.size=ps.size)(hv:Ay (RdA S w ρ) vs.toList x) :
  ∀e,e∈mkL (prm ps x)->∃v,(Gg ps vs tm)[e.t]?=some v/\RdA S w ρ v e.v:=by
 intro e he;rw[Ms,Array.toList_zip];exact Y1 hn hp hv e he
def Mc(P:Program)(n kp:Nat)(ps:Array Tmp)(asg bd:Code)(stO:St)(x:List AV)(R:List Res)(b:Bool)(R':List Res):Prop:=
 ∃(st1:St)(R1:List Res),
  (∀(l:Nat)(C':Ctx),C'.h.length<=kp->C'.df=[]->∀a w,Sat n C' (mkL (stO++prm ps x)) R a w->asg.wpIn (FR (some l)) 0 P (λe a w=>e=.normal/\Sat n C' (mkL st1) R1 a w) a w) /\
  (∀(l:Nat)(C':Ctx),C'.h.length<=kp->C'.df=[]->∀a w,Sat n C' (mkL st1) R1 a w->bd.wpIn (FR (some l)) 0 P (λe a w=>(e=.normal/\b=false\/e=.ret/\b=true)/\Sat n C' [] R' a w) a w)
inductive Ih(P:Program)(n kp:Nat)(ps:Array Tmp)(asg bd:Code)(stO:St):List (List AV)->List Res->Bool->List Res->Prop
 |nil {R:List Res}:Ih P n kp ps asg bd stO [] R false R
 |next {x:List AV} {xs:List (List AV)} {R R' R2:List Res} {b:Bool} (h:Mc P n kp ps asg bd stO x R false R') (k:Ih P n kp ps asg bd stO xs R' b R2):Ih P n kp ps asg bd stO (x::xs) R b R2
 |ret {x:List AV} {xs:List (List AV)} {R R2:List Res} (h:Mc P n kp ps asg bd stO x R true R2):Ih P n kp ps asg bd stO (x::xs) R true R2
theorem Sb{Q:Exit->Act->World->Prop}{l:List It}{t gf:Nat}(hip:ips.all Aj0=true){xs:List (List AV)}{b:Bool}{R2:List Res}(hit:J5 P gf ips xs){asg bd:Code}
  (hg:(Ds (mkL st) t).map Ent.v=some (.d (.fn (.func gf) [] ips)))
  (stO:St)(hO:∀e,e∈mkL stO->e∈mkL st)(hdis:(Hd stO).all (λu=>!(Hc ps.toList u))=true)
  (hnd:uB ps.toList=true)(hpn:ps.toList.all (λp=>Nat.blt p n)=true)(hps:∀x,x∈xs->x.length=ps.size)
  (hC:C.df=[]){C0:Ctx}(hup:Up C0 C)(kp:Nat)(hkp:N4 kp st=true)(hCk:C.h.length<=kp)
  (hrd:Ih P n kp ps asg bd stO xs R b R2)
  (hdone:∀(C2:Ctx),C2.h=C.h->Up C0 C2->b=false->∀a w,Sat n C2 (mkL st) R2 a w->Qs none P l Q .normal a w)
  (hret:∀(C2:Ctx),C2.h=C.h->Up C0 C2->b=true->∀a w,Sat n C2 (mkL st) R2 a w->Q .ret a w)
  (hs:Sat n C (mkL st) R a w):(Code.rangeFunc (.tmp t) ps asg bd).wpIn (FR none) 0 P (Qs none P l Q) a w:=by
 obtain⟨hdef,hsize,S0,ρ0,hI0,hL0⟩:=hs;rw[hC]at hdef;cases he:Ds (mkL st) t with
 |none=>rw[he]at hg;cases hg
 |some e0=>
 rw[he]at hg;simp only[aU,ae]at hg;obtain⟨hm0,ht0⟩:=C5 he;obtain⟨fv,hfv,hfr⟩:=(hL0 e0 hm0).1 (by rw[Cu hm0];exact Bz);rw[ht0]at hfv;rw[hg]at hfr;obtain⟨xs0,cs0,hfe,hxs0,hcs0⟩:=hfr.d_inv.fn_inv;have hx0:xs0=[]:=by cases xs0 with|nil=>rfl|cons=>exact hxs0.elim
 subst hx0;have heval:a.eval (.tmp t)=.func (.func gf) #[] cs0.toArray:=by simp[Act.eval,ef,hfv,hfe]
 obtain⟨B,hBd⟩:∃B,B=w.heap.size:=⟨_,rfl⟩;have hCB:C.w.heap.size<=B:=by rw[hBd];exact hI0.size
 have hmid0:Mid C st B S0 a R w:=⟨S0,ρ0,hI0,hL0,λ_ h=>h,λk hk=>.inl (by rw[hBd];exact(hI0.sup k hk).1)⟩;refine Lj (m:=3) rfl (wpIn_rangeFunc λfn _=>?_);obtain⟨rec,hrec⟩:∃rec:LoopState->Option Code->Loop,rec=λst pe=>{state:=st,pending:=pe,fn,tmps:=a.tmps,params:=ps,assign:=asg,body:=bd,defers:=B}:=⟨_,rfl⟩;obtain⟨W1,hW1⟩:∃W1,(w.alloc (.deferred (some []))).alloc (.loop (rec .ready none))=W1:=⟨_,rfl⟩;have hsz1:W1.heap.size=B+2:=by rw[←hW1,hBd];simp
 have hl1:W1.heap[B+1]?=some (.loop (rec .ready none)):=by rw[←hW1];have:=Fb (w.alloc (.deferred (some []))) (.loop (rec .ready none));rw[World.size_alloc]at this;rw[hBd];exact this
 have hd1:W1.heap[B]?=some (.deferred (some [])):=by rw[←hW1,B8 _ _ _ (by rw[hBd];simp),hBd];exact Fb _ _
 have hg1:w.grownBy W1 none:=⟨by rw[←hW1];rfl,by rw[←hW1];rfl,by rw[←hW1];rfl,by rw[hsz1,hBd];omega,λk hk _=>by rw[←hW1,B8 _ _ _ (by simp;omega),B8 _ _ _ hk]⟩;have hmid1:Mid C st B S0 a R W1:=hmid0.turn2 hg1 (λ_=>by rw[←hW1];exact ai _) hCB (λr e=>by cases e);refine⟨B+1,[{target:=.collected B,args:=#[]}],W1,{target:=.fn (.func gf) cs0.toArray,args:=#[.func (.yield (B+1)) #[] #[]]},W1,gf,
  #[.func (.yield (B+1)) #[] #[]]++cs0.toArray,W1,?_,?_,λ_ _=>trivial,?_,λh=>(by cases h),?_⟩
 .rw[←hW1,hrec,hBd];exact run_enterLoop_outer _ _ _ _ _
 .simp only[resolve,heval];simp[Deferred.ofValue,Act.eval]
 .have:=hit.1 (#[.func (.yield (B+1)) #[] #[]]++cs0.toArray) W1;simpa[invoke]using this
 .have hup':∀(W:World)(S:Nat->Prop)(ρ:eA)(R':List Res),Inv C S W ρ R'->Up C0 ⟨W,S,Ei ρ R',C.h,[{target:=.collected B,args:=#[]}]⟩:=λW S ρ R' hi=>
   ⟨λS' w' ρ' R2 h2=>hup.up _ _ _ _ (hi.trans h2 h2.pre),.inr ⟨B,rfl,by rw[hBd];exact(hup.up _ _ _ _ hI0).size⟩,hup.hl⟩
  have hturn:∀(T:Nat->Prop)(hT:∀k,T k->k≠B+1)(W:World)(R':List Res)(o o':Obj),Mid C st B T a R' W->W.heap[B+1]?=some o->o.isCells=false->W.heap[B]?=some (.deferred (some [])) ->
    Mid C st B T a R' (W.putObj (B+1) o')/\(W.putObj (B+1) o').heap[B+1]?=some o'/\(W.putObj (B+1) o').heap[B]?=some (.deferred (some []))/\∀k,T k->(W.putObj (B+1) o').heap[k]?=W.heap[k]?:=λT hT W R' o o' hmd ho hc hd=>
   ⟨hmd.turn2 (grownBy_putObj' W (B+1) o') (λ_=>ai _) hCB (λq e=>by cases e;exact⟨by omega,o,ho,hc⟩),World.putObj_heap_same (aL.1 ho).1,(World.putObj_heap_other (by omega)).trans hd,
    λk hk=>World.putObj_heap_other (hT k hk)⟩
  have hall:∀k,S0 k->k<B:=λk hk=>by rw[hBd];exact(hI0.sup k hk).1
  have hW1S:∀k,S0 k->W1.heap[k]?=w.heap[k]?:=λk hk=>hg1.block k (by rw[←hBd];exact hall k hk) (by simp);refine CallsIn.mono (F:=Fence.wide) (n:=2) (hit.2 S0 cs0 (B+1)
   (λpre T W=>(∃Rc,(∃rest,xs=pre++rest/\Ih P n kp ps asg bd stO rest Rc b R2)/\Mid C st B (λk=>S0 k\/T k) a Rc W)/\(∀k,T k->B+2<=k)/\W.heap[B+1]?=some (.loop (rec .ready none))/\W.heap[B]?=some (.deferred (some [])))
   (λW=>(b=true/\Mid C st B S0 a R2 W)/\W.heap[B+1]?=some (.loop (rec .done (some .ret)))/\W.heap[B]?=some (.deferred (some [])))
   W1 (hI0.glOk.mono (λ_ h=>h) hW1S) (λk hk=>by have:=hall k hk;rw[hsz1];omega) (Ac1 (λ_ h=>h) hW1S hip hcs0) ?_ ?_ ⟨⟨R,⟨xs,by simp,hrd⟩,hmid1.more (dC _) (λ_=>ai _) (λk hk=>.inl (hk.resolve_right id))⟩,(λk hk=>hk.elim),hl1,hd1⟩) ?_
  .rintro pre T T' A A' ⟨⟨s2,hre,hmid⟩,hTB,hl,hd⟩ hg hdr hT;have hBA:B+1<A.heap.size:=(aL.1 hl).1;refine⟨⟨s2,hre,hmid.more hg hdr λk hk=>?_⟩,λk hk=>?_,(hg.block _ hBA (by simp)).trans hl,(hg.block _ (by omega) (by simp)).trans hd⟩
   .rcases hk with hk|hk
    .exact .inl (.inl hk)
    .exact(hT k hk).imp .inr id
   .rcases hT k hk with q|q
    .exact hTB k q
    .omega
  .rintro pre x rest T W2 vs ⟨⟨s2,⟨rest2,hre2,hfo2⟩,hmid⟩,hTB,hl2,hd2⟩ hxs hvs;have hTn:∀k,(S0 k\/T k)->k≠B+1:=λk hk=>by
    rcases hk with hk|hk
    .have:=hall k hk;omega
    .have:=hTB k hk;omega
   have hrr:rest2=x::rest:=List.append_cancel_left (hre2.symm.trans hxs);subst hrr;have hxl:=hps x (by rw[hxs];simp);have hvl:vs.size=ps.size:=by have:=hvs.length;simpa[hxl]using this
   obtain⟨b1,R',hrnd,hnext⟩:∃b1 R',Mc P n kp ps asg bd stO x s2 b1 R'/\((b1=false/\Ih P n kp ps asg bd stO rest R' b R2)\/(b1=true/\b=true/\R'=R2)):=by
    cases hfo2 with
    |next h k=>exact⟨_,_,h,.inl ⟨rfl,k⟩⟩
    |ret h=>exact⟨_,_,h,.inr ⟨rfl,rfl,rfl⟩⟩
   obtain⟨st1,R1,has,hbody⟩:=hrnd;refine⟨fn,Gg ps (vs) a.tmps,asg,bd,?_,roundIn_of_wpIn trivial ?_⟩
   .have:=run_yield (P:=P) (args:=vs) hl2 (by rw[hrec];exact hvl);rw[hrec]at this;exact this
   .show asg.wpIn (FR (some (B+1))) 1 P _ _ W2;obtain⟨S,ρ,i1,i2,i3,i4⟩:=hmid;have htake:∀(ρ:eA),Pre (ρ.take kp) ρ:=λρ i v hv=>by
     rw[ap]at hv;split at hv
     .exact hv
     .cases hv
    have hseg:=i1.seg (ρ.take kp) (htake ρ) [] (λd hd=>by cases hd);have hsat:Sat n ⟨W2,S,Ei ρ s2,ρ.take kp,[]⟩ (mkL (stO++prm ps x)) s2 ({tmps:=Gg ps (vs) a.tmps,defers:=[]}:Act) W2:=by
     have hsz:(Gg ps (vs) a.tmps).size=n:=by rw[Ms,Q2];exact hsize
     refine⟨rfl,hsz,S,ρ,hseg,λe he=>?_⟩;rcases Sf he with he|he
     .have hk1:=uG he;have hdis':=(aD.1 hdis) e.t hk1;simp only[aO]at hdis';have hp0:=Cu he;obtain⟨q1,_⟩:=i2 e (hO e he);obtain⟨y,hy,hry⟩:=q1 (by rw[hp0];exact Bz);refine⟨λ_=>⟨y,?_,hry⟩,λhn=>absurd (by rw[hp0];exact Bz) hn⟩;show (Gg ps (vs) a.tmps)[e.t]?=some y;rw[Uh (ps:=ps) hdis'];exact hy
     .obtain⟨v,hv1,hv2⟩:=Aja hnd (λp hp=>by have:=(aD.1 hpn) p hp;rw[hsize];simpa[eu]using this) hvl hvs e he;exact⟨λ_=>⟨v,hv1,hv2.mono i3 (λ_ _=>rfl) (λi v h=>by simp at h)⟩,λhn=>absurd (by rw[Cu he];exact Bz) hn⟩
    have hA:=has (B+1) ⟨W2,S,Ei ρ s2,ρ.take kp,[]⟩ (by simp;omega) rfl _ W2 hsat;refine Lj (m:=0) rfl (wpIn_mono hA ?_);intro e a3 W2' hq;obtain⟨rfl,d3,z3,S3,ρ3,j1,j2⟩:=hq;obtain⟨S4,k1,k2,k3,k4,k5,m20,m30⟩:=Mid.back2 hCB i1 i2 i3 i4 hkp hCk j1 j2;have hl2':=m30 _ _ hl2 rfl;have hd2':=m30 _ _ hd2 rfl;refine⟨_,run_beginRound hl2' (by rw[hrec]),?_⟩;obtain⟨W3,hW3⟩:∃W3,W3=W2'.putObj (B+1) (.loop {rec .ready none with state:=.busy}):=⟨_,rfl⟩;obtain⟨t1,t2,t3⟩:=k1.turn (grownBy_putObj' W2' (B+1) (.loop {rec .ready none with state:=.busy})) (λ_=>ai _) hCB (λq e=>by cases e;exact⟨by omega,_,hl2',rfl⟩) k4;have hmt:∀{a:Act}{st:St},Cd S4 W2' ρ3 a (mkL st)->Cd S4 (W2'.putObj (B+1) (.loop {rec .ready none with state:=.busy})) ρ3 a (mkL st):=λh e he=>by obtain⟨q1,q2⟩:=h e he;refine⟨λhp=>?_,q2⟩;obtain⟨x,hx,hrx⟩:=q1 hp;exact⟨x,hx,hrx.mono (λ_ h=>h) t2 (Pre.refl _)⟩
    have k2':=hmt k2;have k5':=hmt k5;have hl3:(W2'.putObj (B+1) (.loop {rec .ready none with state:=.busy})).heap[B+1]?=some (.loop {rec .ready none with state:=.busy}):=World.putObj_heap_same (aL.1 hl2').1;have hd3:=(World.putObj_heap_other (w:=W2') (r:=B+1) (o:=.loop {rec .ready none with state:=.busy}) (by omega:B≠B+1)).trans hd2';have hs3:∀k,(S0 k\/T k)->(W2'.putObj (B+1) (.loop {rec .ready none with state:=.busy})).heap[k]?=W2.heap[k]?:=λk hk=>(t2 k (k3 k hk)).trans (m20 k hk);have hsz3:(W2'.putObj (B+1) (.loop {rec .ready none with state:=.busy})).heap.size=W2'.heap.size:=by simp[World.putObj]
    have hszj:=j1.size;generalize W2'.putObj (B+1) (.loop {rec .ready none with state:=.busy})=W3 at t1 t2 t3 k2' k5' hl3 hd3 hs3 hsz3 ⊢;have hseg3:=t1.seg (ρ3.take kp) (htake ρ3) [] (λd hd=>by cases hd);have hb:=hbody (B+1) ⟨W3,S4,Ei ρ3 R1,ρ3.take kp,[]⟩ (by simp;omega) rfl a3 W3 ⟨d3,z3,S4,ρ3,hseg3,k5'⟩;show bd.wpIn (FR (some (B+1))) 1 P _ _ W3;refine Lj (m:=0) rfl (wpIn_mono hb ?_);intro e a3 W4 hq;cases e with
    | normal=>
     obtain⟨hb1,_,_,S',ρ',hinv,_⟩:=hq;have hb1:b1=false:=by rcases hb1 with⟨_,h⟩|⟨h,_⟩;(exact h);(cases h)
     obtain⟨_,hnx⟩:=hnext.resolve_right (λh=>by rw[hb1]at h;cases h.1);obtain⟨m1,m2,m3⟩:=Mid.back hCB t1 k2' k3 t3 hkp hCk hinv;have hl4:=m3 _ _ hl3 rfl;have hd4:=m3 _ _ hd3 rfl;obtain⟨n1,n2,n3,n4⟩:=hturn _ hTn W4 R' _ (.loop (rec .ready none)) m1 hl4 rfl hd4;refine⟨_,_,run_endRound none hl4,.inl ⟨rfl,⟨⟨R',⟨rest,by rw[hxs];simp,hnx⟩,?_⟩,hTB,?_,?_⟩,λk hk=>?_,?_⟩⟩
     .rw[hrec]at n1 ⊢;exact n1
     .rw[hrec]at n2 ⊢;exact n2
     .rw[hrec]at n3 ⊢;exact n3
     .rw[hrec]at n4 ⊢;exact((n4 k hk).trans (m2 k hk)).trans (hs3 k hk)
     .have:=hinv.size;simp only[World.putObj,Array.size_setIfInBounds];have h9:W2.heap.size<=W2'.heap.size:=hszj;have h8:W3.heap.size<=W4.heap.size:=this;omega
    |ret=>
     obtain⟨hb1,_,_,S',ρ',hinv,_⟩:=hq;have hb1:b1=true:=by rcases hb1 with⟨h,_⟩|⟨_,h⟩;(cases h);(exact h)
     obtain⟨_,hbt,hR2⟩:=hnext.resolve_left (λh=>by rw[hb1]at h;cases h.1);subst hR2;obtain⟨m1,m2,m3⟩:=Mid.back hCB t1 k2' k3 t3 hkp hCk hinv;have hl4:=m3 _ _ hl3 rfl;have hd4:=m3 _ _ hd3 rfl;obtain⟨n1,n2,n3,n4⟩:=hturn _ hTn W4 R' _ (.loop (rec .done (some .ret))) m1 hl4 rfl hd4;refine⟨_,_,run_endRound (some .ret) hl4,.inr ⟨rfl,⟨hbt,?_⟩,?_,?_⟩⟩
     .rw[hrec]at n1 ⊢;exact n1.less λk hk=>.inl hk
     .rw[hrec]at n2 ⊢;exact n2
     .rw[hrec]at n3 ⊢;exact n3
    |_=>exact absurd hq.1 (by simp)
  .rintro e W2 ⟨⟨v,rfl⟩,(⟨T,⟨s2,⟨rest,hre,hfo⟩,hmid⟩,hTB,hl2,hd2⟩|⟨⟨hr2,hmid⟩,hl2,hd2⟩)⟩
   .have hrest:rest=[]:=by
     have:=congrArg List.length hre;simp at this;exact this
    subst hrest;obtain⟨hbf,hRf⟩:b=false/\s2=R2:=by cases hfo;exact⟨rfl,rfl⟩
    subst hRf;subst hrec;have hend:=run_endLoop (P:=P) hl2 (by simp);obtain⟨n1,n2,n3,n4⟩:=hturn _ (λk hk=>by have:=hall k hk;omega) W2 s2 _ (.loop {state:=.exhausted,pending:=none,fn:=fn,tmps:=a.tmps,params:=ps,assign:=asg,body:=bd,defers:=B}) (hmid.less (S2:=S0) λk hk=>.inl hk) hl2 rfl hd2;refine⟨none,W2.putObj (B+1) (.loop {state:=.exhausted,pending:=none,fn:=fn,tmps:=a.tmps,params:=ps,assign:=asg,body:=bd,defers:=B}),hend,?_⟩;obtain⟨S,ρ,i1,i2,i3,_,_⟩:=n1.seg [{target:=.collected B,args:=#[]}] (λd hd=>by rw[aM]at hd;exact⟨B,hd,ai _,n3⟩)
    exact hdone ⟨W2.putObj (B+1) (.loop {state:=.exhausted,pending:=none,fn:=fn,tmps:=a.tmps,params:=ps,assign:=asg,body:=bd,defers:=B}),S,Ei ρ s2,C.h,[{target:=.collected B,args:=#[]}]⟩ rfl (hup' _ S ρ _ i1) hbf _ _ ⟨by show _++a.defers=_;rw[hdef];rfl,hsize,S,ρ,i2,λe he=>i3 e he⟩
   .subst hrec;have hend:=run_endLoop (P:=P) hl2 (by simp);obtain⟨n1,n2,n3,n4⟩:=hturn S0 (λk hk=>by have:=hall k hk;omega) W2 R2 _ (.loop {state:=.exhausted,pending:=some .ret,fn:=fn,tmps:=a.tmps,params:=ps,assign:=asg,body:=bd,defers:=B}) hmid hl2 rfl hd2;refine⟨some .ret,W2.putObj (B+1) (.loop {state:=.exhausted,pending:=some .ret,fn:=fn,tmps:=a.tmps,params:=ps,assign:=asg,body:=bd,defers:=B}),hend,?_⟩;obtain⟨S,ρ,i1,i2,i3,_,_⟩:=n1.seg [{target:=.collected B,args:=#[]}] (λd hd=>by
     rw[aM]at hd;exact⟨B,hd,ai _,n3⟩)
    exact wpIn_ret (M_ (hret ⟨W2.putObj (B+1) (.loop {state:=.exhausted,pending:=some .ret,fn:=fn,tmps:=a.tmps,params:=ps,assign:=asg,body:=bd,defers:=B}),S,Ei ρ R2,C.h,[{target:=.collected B,args:=#[]}]⟩ rfl (hup' _ S ρ _ i1) hr2 _ _ ⟨by show _++a.defers=_;rw[hdef];rfl,hsize,S,ρ,i2,λe he=>i3 e he⟩))
end
end Go.SL
