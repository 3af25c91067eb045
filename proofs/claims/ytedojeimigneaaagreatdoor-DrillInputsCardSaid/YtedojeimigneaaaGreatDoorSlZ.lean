import Derived.Test.YtedojeimigneaaaGreatDoorSlY
namespace Go.SL
variable{σ τ:Type}{C0:Ctx}{Q:Exit->Act->World->Prop}{l:List (Nat×Value)}{items:List It}{B d k kp p u:Nat}{S1:Nat->Prop}{ro row:Option Nat}{x:Value}{W W':World}
def Aqh(P:Program)(g:FuncId)(rows:List (List Pd)){α:Type}(encs:α->Array Value)(xs:List α):Prop:=
 Dl P g/\∀(S:Nat->Prop)(b:Nat)(v:Value)(l:Nat)(J:List α->World->Prop)(Jx:World->Prop)(W:World),
  (∀k,S k->k<W.heap.size)->S b->W.cell? ⟨b,0,none⟩=some v->RdP S W v (.s rows)->AbidesFrom W.heap.size J ->
  (∀pre x rest W1,J pre W1->xs=pre++x::rest->(∀k,S k->W1.heap[k]?=W.heap[k]?)->YieldAt Fence.wide 1 P l (encs x) W1 λe W'=>(e=.returned (.bool true)/\J (pre++[x]) W'/\∀k,S k->W'.heap[k]?=W1.heap[k]?)\/(e=.returned (.bool false)/\Jx W')) ->
  J [] W->CallsIn Fence.wide 2 P g (#[.func (.yield l) #[] #[]] ++ #[.pointer (some ⟨b,0,none⟩)]) W λe W'=>(∃v,e=.returned v)/\(J xs W'\/Jx W')
def Bed:List It->Bool
 |.c (.rangeFunc _ _ _ _)::_=>true
 |_=>false
def rgG:List It->Operand
 |.c (.rangeFunc g _ _ _)::_=>g
 |_=>.const undef
def Asp:List It->Array Tmp
 |.c (.rangeFunc _ ps _ _)::_=>ps
 |_=>#[]
def Bcs:List It->Code
 |.c (.rangeFunc _ _ x _)::_=>x
 |_=>.skip
def Bcr:List It->Code
 |.c (.rangeFunc _ _ _ x)::_=>x
 |_=>.skip
def Auw:Code->Option (Nat×Nat)
 | .region _ ops false=>match ops.toList with
  | [o]=>match o.op,o.dst,o.guard with
   |.assign (.tmp p),some d,none=>some (d,p)
   |_,_,_=>none
  |_=>none
 |_=>none
section
variable{P:Program}{n:Nat}{C:Ctx}{S S':Nat->Prop}{w w':World}{ρ ρ':eA}{R R':List Res}{a:Act}{st:St}
theorem A2q{x:Code}(h:Auw x=some (d,p)){K:Act->World->Prop}(hK:K (a.put (some d) (a.eval (.tmp p))) w):x.wpIn (FR ro) 0 P (Exit.then K Q) a w:=by
 unfold Auw at h;split at h
 .rename_i id ops;split at h
  .rename_i o ho;split at h
   .rename_i p' d' h1 h2 h3;simp at h;obtain⟨rfl,rfl⟩:=h;have hops:ops = #[o]:=by apply bL;simpa using ho
    subst hops;refine wpIn_region (Mp ?_);show C4 P #[o] _ [0] a w;show Gp P #[o] 0 _ a w;unfold Gp;have hw:Region.wanted o (yielded #[o] a.tmps)=true:=by unfold Region.wanted;rw[h3]
    simp only[cJ,List.getElem?_cons_zero,hw,if_true];refine⟨λc hc=>(by rw[h1]at hc;cases hc),?_⟩;refine De (v:=a.eval (.tmp p')) (w':=w) ?_ (by rw[h2];exact hK);have he:execOp a.eval o=execOp a.eval {o with op:=.assign (.tmp p')}:=by rw[←h1]
    rw[he];rfl
   .cases h
  .cases h
 .cases h
theorem T5(hu:∀q,q∈l->q.1≠u):∀(tm:Array Value),(l.foldl (λt(q:Nat×Value)=>t.setIfInBounds q.1 q.2) tm)[u]?=tm[u]?:=by
 induction l with
 |nil=>intro tm;rfl
 |cons q l ih=>intro tm;simp only[bq];rw[ih (λq' hq'=>hu q' (am _ hq')),Array.getElem?_setIfInBounds_ne (hu q an)]
theorem Q2:∀(tm:Array Value),(l.foldl (λt(q:Nat×Value)=>t.setIfInBounds q.1 q.2) tm).size=tm.size:=by
 induction l with
 |nil=>intro tm;rfl
 |cons q l ih=>intro tm;simp only[bq];rw[ih];simp
def Gg(ps:Array Tmp)(vs:Array Value)(tm:Array Value):Array Value:=(ps.zip vs).foldl (λt (p,v)=>t.setIfInBounds p v) tm
theorem Ms(ps:Array Tmp)(vs tm:Array Value):Gg ps vs tm=((ps.zip vs).toList).foldl (λt(q:Nat×Value)=>t.setIfInBounds q.1 q.2) tm:=by unfold Gg;rw[←Array.foldl_toList]
theorem Uh{ps:Array Tmp}{vs tm:Array Value}(hu:Hc ps.toList u=false):(Gg ps vs tm)[u]?=tm[u]?:=by
 rw[Ms];refine T5 (λq hq e=>?_) tm;have:q.1∈ps.toList:=by rw[Array.toList_zip]at hq;exact(bO hq).1
 rw[←Ou,e]at this;rw[hu]at this;cases this
mutual
def D.ltK(k:Nat):D->Bool
 |.o i _=>Nat.blt i k
 |.os i=>Nat.blt i k
 |.oe i _ _ _=>Nat.blt i k
 |.osb i _ _ _=>Nat.blt i k
 |.oi i g _ _ _=>Nat.blt i k&&Nat.blt g k
 |.fn _ a b=>D.ltKL k a&&D.ltKL k b
 |_=>true
def D.ltKL(k:Nat):List D->Bool
 | []=>true
 |d::r=>D.ltK k d&&D.ltKL k r
end
mutual
def AV.ltK(k:Nat):AV->Bool
 |.d x=>x.ltK k
 |.agg ds=>D.ltKL k ds
 |.tup l=>AV.ltKL k l
def AV.ltKL(k:Nat):List AV->Bool
 | []=>true
 |a::r=>AV.ltK k a&&AV.ltKL k r
end
theorem N0{k:Nat}:∀{l:List D},D.ltKL k l=true->∀{j:Nat}{d:D},l[j]?=some d->d.ltK k=true
 | [],_,j,d,h=>by simp at h
 |a::l,hb,0,d,h=>by simp at h;subst h;simp only[D.ltKL,aa]at hb;exact hb.1
 |a::l,hb,j+1,d,h=>by simp at h;simp only[D.ltKL,aa]at hb;exact N0 hb.2 h
theorem Vn{k:Nat}:∀{l:List AV},AV.ltKL k l=true->∀{j:Nat}{d:AV},l[j]?=some d->d.ltK k=true
 | [],_,j,d,h=>by simp at h
 |a::l,hb,0,d,h=>by simp at h;subst h;simp only[AV.ltKL,aa]at hb;exact hb.1
 |a::l,hb,j+1,d,h=>by simp at h;simp only[AV.ltKL,aa]at hb;exact Vn hb.2 h
theorem Rd.monoK{d:D}(h:Rd S w ρ x d)(hS:∀b,S b->S' b)(hw:∀b,S b->w'.heap[b]?=w.heap[b]?)(hρ:∀(i:Nat) v,i<k->ρ[i]?=some v->ρ'[i]?=some v):d.ltK k=true->Rd S' w' ρ' x d:=by
 induction h with
 |p h=>intro _;exact .p (h.mono hS hw)
 |o h=>intro hb;exact .o (hρ _ _ (by simpa[D.ltK,eu]using hb) h)
 |os h h1=>intro hb;exact .os (hρ _ _ (by simpa[D.ltK,eu]using hb) h) h1
 |oe h=>intro hb;exact .oe (hρ _ _ (by simpa[D.ltK,eu]using hb) h)
 |osb h a b c d=>intro hb;exact .osb (hρ _ _ (by simpa[D.ltK,eu]using hb) h) a b c d
 |oi h a b=>intro hb;simp only[D.ltK,aa]at hb;exact .oi (hρ _ _ (by have:=hb.2;simpa[eu]using this) h) a b
 |ip h=>intro _;exact .ip (h.mono hS hw)
 |fn hl hm _ _ ih1 ih2=>intro hb;simp only[D.ltK,aa]at hb;exact .fn hl hm (λj x d h1 h2=>ih1 j x d h1 h2 (N0 hb.1 h2)) (λj x d h1 h2=>ih2 j x d h1 h2 (N0 hb.2 h2))
 |any h=>intro _;exact .any h
 |nq h=>intro _;exact .nq h
 |fb hl h=>intro _;exact .fb hl λj x d h1 h2=>(h j x d h1 h2).mono hS hw
theorem RdA.monoK{d:AV}(h:RdA S w ρ x d)(hS:∀b,S b->S' b)(hw:∀b,S b->w'.heap[b]?=w.heap[b]?)(hρ:∀(i:Nat) v,i<k->ρ[i]?=some v->ρ'[i]?=some v):d.ltK k=true->RdA S' w' ρ' x d:=by
 induction h with
 |d h=>intro hb;exact .d (h.monoK hS hw hρ hb)
 |agg h=>intro hb;exact .agg (da h.length λj x d hx hd=>(h.both hx hd).monoK hS hw hρ (N0 hb hd))
 |tup hl _ ih=>intro hb;exact .tup hl λj x a hx ha=>ih j x a hx ha (Vn hb ha)
def N4(k:Nat)(st:St):Bool:=st.all λx=>x.2.ltK k
theorem Xb{st:St}(h:N4 k st=true){e:Ent}(he:e∈mkL st):e.v.ltK k=true:=(aD.1 h) _ (N6 he).1
def Mid(C:Ctx)(st:St)(B:Nat)(S1:Nat->Prop)(a:Act)(R:List Res)(W:World):Prop:=
 ∃S ρ,Inv C S W ρ R/\Cd S W ρ a (mkL st)/\(∀k,S1 k->S k)/\∀k,S k->k<B\/∃vs t f,W.heap[k]?=some (.cells vs t f)
theorem Mid.turn(h:Mid C st B S1 a R W)(hdr:drw=false)(hg:W.grownBy W' row)(hB:C.w.heap.size<=B)(hr:∀r,row=some r->B<=r/\∃o:Obj,W.heap[r]?=some o/\o.isCells=false):Mid C st B S1 a R W':=by obtain⟨S,ρ,h1,h2,h3,h4⟩:=h;obtain⟨g1,g2,g3⟩:=h1.turn hg (λe=>by rw[hdr]at e;cases e) hB hr h4;refine⟨S,ρ,g1,λe he=>?_,h3,g3⟩;obtain⟨q1,q2⟩:=h2 e he;refine⟨λhp=>?_,q2⟩;obtain⟨x,hx,hrx⟩:=q1 hp;exact⟨x,hx,hrx.mono (λ_ h=>h) g2 (Pre.refl _)⟩
theorem Mid.seg(h:Mid C st B S1 a R W)(df:List Deferred)(hB:∀d,d∈df->∃D,d={target:=.collected D,args:=#[]}/\B<=D/\W.heap[D]?=some (.deferred (some []))) :
  ∃S ρ,Inv C S W ρ R/\Inv ⟨W,S,Ei ρ R,C.h,df⟩ S W ρ R/\Cd S W ρ a (mkL st)/\(∀k,S1 k->S k)/\∀k,S k->k<B\/∃vs t f,W.heap[k]?=some (.cells vs t f):=by
 obtain⟨S,ρ,h1,h2,h3,h4⟩:=h;refine⟨S,ρ,h1,h1.seg C.h h1.pre df λd hd=>?_,h2,h3,h4⟩;obtain⟨D,e,g1,g2⟩:=hB d hd;refine⟨D,e,(aL.1 g2).1,λ⟨i,r,v,k1,k2,k3⟩=>?_,λhS=>?_,g2⟩
 .obtain⟨vs,t,f,q⟩:=Ic (h1.ok i r v k1 k2) k3;rw[g2]at q;cases q
 .rcases h4 D hS with q|⟨vs,t,f,q⟩
  .omega
  .rw[g2]at q;cases q
theorem Mid.back(hB:C.w.heap.size<=B)(h1:Inv C S W ρ R)(h2:Cd S W ρ a (mkL st))(h3:∀k,S1 k->S k)(h4:∀k,S k->k<B\/∃vs t f,W.heap[k]?=some (.cells vs t f))
  (hkp:N4 kp st=true)(hCk:C.h.length<=kp)(hk:Inv ⟨W,S,Ei ρ R,ρ.take kp,[]⟩ S' W' ρ' R'):Mid C st B S1 a R' W'/\(∀k,S1 k->W'.heap[k]?=W.heap[k]?)/\∀(k:Nat)(o:Obj),W.heap[k]?=some o->o.isCells=false->W'.heap[k]?=some o:=by
 have hpre:∀(i:Nat) v,i<kp->ρ[i]?=some v->ρ'[i]?=some v:=λi v hi hv=>hk.pre i v (by rw[ap,ei hi];exact hv);have hT:=h1.trans hk (λi v hv=>hpre i v (aE (ac.1 hv).1 hCk) (h1.pre i v hv));have hsame:∀k,S k->W'.heap[k]?=W.heap[k]?:=λk hS=>hk.frm k (h1.sup k hS).1 λ⟨i,r,v,g1,g2,g3⟩=>(h1.own i r v k g1 g2 g3).1 hS;have hoth:∀(k:Nat)(o:Obj),W.heap[k]?=some o->o.isCells=false->W'.heap[k]?=some o:=λk o ho hc=>by refine(hk.frm k (aL.1 ho).1 λ⟨i,r,v,g1,g2,g3⟩=>?_).trans ho;obtain⟨vs,t,f,q⟩:=Ic (h1.ok i r v g1 g2) g3;rw[ho]at q;cases q;cases hc
 refine⟨⟨λk=>S' k/\(k<B\/∃vs t f,W'.heap[k]?=some (.cells vs t f)),ρ',hT.trim (λk hS hc=>⟨hS,.inr hc⟩) (λ_ h=>h.1) (λk hC=>⟨hT.sub k hC,.inl (aE (h1.gl.2.1 k hC).1 hB)⟩),λe he=>?_,λk hS1=>⟨hk.sub k (h3 k hS1),?_⟩,λk h=>h.2⟩,λk hS1=>hsame k (h3 k hS1),hoth⟩
 .obtain⟨q1,q2⟩:=h2 e he;refine⟨λhp=>?_,q2⟩;obtain⟨x,hx,hrx⟩:=q1 hp;have:=hrx.monoK (S':=S') (w':=W') (ρ':=ρ') (λk hS=>hk.sub k hS) hsame hpre (Xb hkp he);exact⟨x,hx,this.trim λk hS hc=>⟨hS,.inr hc⟩⟩
 .rcases h4 k (h3 k hS1) with q|q
  .exact .inl q
  .rw[hsame k (h3 k hS1)];exact .inr q
theorem Iv:∀{st:St}{u:Nat}{x:AV},(u,x)∈st->(⟨u,[],x⟩:Ent)∈mkL st
 | [],_,_,h=>by cases h
 |(t,v)::r,u,x,h=>by
  rcases ah.1 h with e|h
  .cases e;exact an
  .exact am _ (Iv h)
theorem Sf:∀{s1 s2:St}{e:Ent},e∈mkL (s1++s2)->e∈mkL s1\/e∈mkL s2
 | [],_,_,h=>.inr h
 | (t,v)::r,s2,e,h=>by
  rcases ah.1 h with h|h
  .exact .inl (ah.2 (.inl h))
  .rcases Sf h with h|h
   .exact .inl (am _ h)
   .exact .inr h
theorem uG:∀{st:St}{e:Ent},e∈mkL st->e.t∈Hd st
 | [],_,h=>by cases h
 |(t,v)::r,e,h=>by
  rcases ah.1 h with rfl|h
  .exact an
  .exact am _ (uG h)
theorem Au1{α:Type}(hdr:drw=false)(hi:Bed items=true){t gf j:Nat}{ty:TypeId}{rows:List (List Pd)}(encs:α->Array Value)(xs:List α)(f:α->σ->Option (Ctl σ τ))(RF:σ->List Res)(Rr:τ->List Res)
  (r:Ctl σ τ)(s:σ)(avd:α->AV)(hm:foldE f xs s=some r)(hit:Aqh P gf rows encs xs)
  (hgt:rgG items=.tmp t)(hg:(Ds (mkL st) t).map Ent.v=some (.d (.fn (.func gf) [] [.o j 0])))(hR:R[j]?=some (.box ty [.p (.s rows)]))(h1:R.set j .non=RF s)
  (has:Auw (Bcs items)=some (d,p))(stO:St)(hO:sel (mkL st) (Hd stO)=some stO)(hdis:(Hd stO).all (λu=>!(Hc (Asp items).toList u) && !(Nat.beq u d))=true)
  (hps:∀x,(encs x).size=(Asp items).size)(hav:∀(x:α)(tm:Array Value),tm.size=n->∃v,(Gg (Asp items) (encs x) tm)[p]?=some v/\∀S w ρ,RdA S w ρ v (avd x))(hdn:d<n)
  (hC:C.df=[])(hup:Up C0 C)(kp:Nat)(hkp:N4 kp st=true)(hCk:C.h.length<=kp)
  (hdone:∀(C2:Ctx) s',C2.h=C.h->Up C0 C2->r=.next s'->WI none P n C2 Q (tlI items) st (RF s'))
  (hret:∀(C2:Ctx) v,C2.h=C.h->Up C0 C2->r=.ret v->∀a w,Sat n C2 (mkL st) (Rr v) a w->Q .ret a w)
  (hbody:∀(l:Nat)(C':Ctx) x s k,C'.h.length<=kp->C'.df=[]->f x s=some k->(∀v,k=.ret v->r=.ret v) ->
   WI (some l) P n C' (λe a w=>e=.ret/\∃v,k=.ret v/\Sat n C' (mkL []) (Rr v) a w) [.c (Bcr items),.k (Ex n C' (λs'=>k=.next s') (λ_=>[]) RF)] (stO++[(d,avd x)]) (RF s)) :
  WI none P n C Q items st R:=by
 match items,hi,hgt,has,hdis,hps,hav,hdone,hbody with
 |.c (.rangeFunc g ps as bd)::l,_,hgt,has,hdis,hps,hav,hdone,hbody=>
 simp only[rgG]at hgt;subst hgt;intro a w hs;obtain⟨hdef,hsize,S0,ρ0,hI0,hL0⟩:=hs;show (Code.rangeFunc (.tmp t) ps as bd).wpIn (FR none) 0 P (Qs none P l Q) a w;rw[hC]at hdef;cases he:Ds (mkL st) t with
 |none=>rw[he]at hg;cases hg
 |some e0=>
 rw[he]at hg;simp only[aU,ae]at hg;obtain⟨hm0,ht0⟩:=C5 he;obtain⟨fv,hfv,hfr⟩:=(hL0 e0 hm0).1 (by rw[Cu hm0];exact Bz);rw[ht0]at hfv;rw[hg]at hfr;obtain⟨xs0,cs0,hfe,hxs0,hcs0⟩:=hfr.d_inv.fn_inv;obtain⟨b,hcb,hρb⟩:∃b,cs0=[.pointer (some ⟨b,0,none⟩)]/\ρ0[j]?=some (.pointer (some ⟨b,0,none⟩)):=by
  match cs0,hcs0 with
  | [c],h=>obtain⟨b,e,h2⟩:=h.1.o_inv;exact⟨b,by rw[e],h2⟩
  | [],h=>exact h.elim
  |_::_::_,h=>exact h.2.elim
 have hx0:xs0=[]:=by cases xs0 with|nil=>rfl|cons=>exact hxs0.elim
 subst hcb;subst hx0;have heval:a.eval (.tmp t)=.func (.func gf) #[] #[.pointer (some ⟨b,0,none⟩)]:=by simp[Act.eval,ef,hfv,hfe]
 obtain⟨vs,hvb,hvc⟩:=Kx hI0 hR hρb;obtain⟨v0,hv0,hvr⟩:∃v,vs = #[v]/\RdP S0 w v (.s rows):=by
  obtain⟨vl⟩:=vs
  match vl,hvc with
  | [v],h=>exact⟨v,rfl,h.1.p_inv⟩
  | [],h=>exact h.elim
  |_::_::_,h=>exact h.2.elim
 subst hv0;have hF:=hI0.freeze hR hρb;rw[h1]at hF;generalize hS1:(λk=>S0 k\/(Res.box ty [.p (.s rows)]).foot (.pointer (some ⟨b,0,none⟩)) k)=S1 at hF;have hS01:∀k,S0 k->S1 k:=λk h=>by rw[←hS1];exact .inl h
 have hS1b:S1 b:=by rw[←hS1];exact .inr rfl
 obtain⟨B,hBd⟩:∃B,B=w.heap.size:=⟨_,rfl⟩;have hCB:C.w.heap.size<=B:=by rw[hBd];exact hI0.size
 have hmid0:Mid C st B S1 a (RF s) w:=⟨S1,ρ0,hF,λe he=>by obtain⟨q1,q2⟩:=hL0 e he;refine⟨λhp=>?_,q2⟩;obtain⟨x,hx,hrx⟩:=q1 hp;exact⟨x,hx,hrx.mono hS01 (λ_ _=>rfl) (Pre.refl _)⟩,λ_ h=>h,λk hk=>.inl (by rw[hBd];exact(hF.sup k hk).1)⟩
 refine Lj (m:=3) rfl (wpIn_rangeFunc λfn _=>?_);obtain⟨rec,hrec⟩:∃rec:LoopState->Option Code->Loop,rec=λst pe=>{state:=st,pending:=pe,fn,tmps:=a.tmps,params:=ps,assign:=as,body:=bd,defers:=B}:=⟨_,rfl⟩;obtain⟨W1,hW1⟩:∃W1,(w.alloc (.deferred (some []))).alloc (.loop (rec .ready none))=W1:=⟨_,rfl⟩;have hsz1:W1.heap.size=B+2:=by rw[←hW1,hBd];simp
 have hl1:W1.heap[B+1]?=some (.loop (rec .ready none)):=by rw[←hW1];have:=Fb (w.alloc (.deferred (some []))) (.loop (rec .ready none));rw[World.size_alloc]at this;rw[hBd];exact this
 have hd1:W1.heap[B]?=some (.deferred (some [])):=by rw[←hW1,B8 _ _ _ (by rw[hBd];simp),hBd];exact Fb _ _
 have hg1:w.grownBy W1 none:=⟨by rw[←hW1];rfl,by rw[←hW1];rfl,by rw[←hW1];rfl,by rw[hsz1,hBd];omega,λk hk _=>by rw[←hW1,B8 _ _ _ (by simp;omega),B8 _ _ _ hk]⟩;have hmid1:Mid C st B S1 a (RF s) W1:=hmid0.turn hdr hg1 hCB (λr e=>by cases e);refine⟨B+1,[{target:=.collected B,args:=#[]}],W1,{target:=.fn (.func gf) #[.pointer (some ⟨b,0,none⟩)],args:=#[.func (.yield (B+1)) #[] #[]]},W1,gf,
  #[.func (.yield (B+1)) #[] #[]] ++ #[.pointer (some ⟨b,0,none⟩)],W1,?_,?_,λ_ _=>trivial,?_,λh=>(by cases h),?_⟩
 .rw[←hW1,hrec,hBd];exact run_enterLoop_outer _ _ _ _ _
 .simp only[resolve,heval];simp[Deferred.ofValue,Act.eval]
 .have:=hit.1 (#[.func (.yield (B+1)) #[] #[]] ++ #[.pointer (some ⟨b,0,none⟩)]) W1;simpa[invoke]using this
 .have hold:∀k,S1 k->W1.heap[k]?=w.heap[k]?:=λk hk=>hg1.block k (hF.sup k hk).1 (by simp);have hup':∀(W:World)(S:Nat->Prop)(ρ:eA)(R':List Res),Inv C S W ρ R'->Up C0 ⟨W,S,Ei ρ R',C.h,[{target:=.collected B,args:=#[]}]⟩:=λW S ρ R' hi=>
   ⟨λS' w' ρ' R2 h2=>hup.up _ _ _ _ (hi.trans h2 h2.pre),.inr ⟨B,rfl,by rw[hBd];exact(hup.up _ _ _ _ hI0).size⟩,hup.hl⟩
  have hturn:∀(W:World)(R':List Res)(o o':Obj),Mid C st B S1 a R' W->W.heap[B+1]?=some o->o.isCells=false->W.heap[B]?=some (.deferred (some [])) ->
    Mid C st B S1 a R' (W.putObj (B+1) o')/\(W.putObj (B+1) o').heap[B+1]?=some o'/\(W.putObj (B+1) o').heap[B]?=some (.deferred (some []))/\∀k,S1 k->(W.putObj (B+1) o').heap[k]?=W.heap[k]?:=λW R' o o' hmd ho hc hd=>
   ⟨hmd.turn hdr (grownBy_putObj' W (B+1) o') hCB (λq e=>by cases e;exact⟨by omega,o,ho,hc⟩),World.putObj_heap_same (aL.1 ho).1,(World.putObj_heap_other (by omega)).trans hd,
    λk hk=>World.putObj_heap_other (by have:=(hF.sup k hk).1;omega)⟩
  refine CallsIn.mono (F:=Fence.wide) (n:=2) (hit.2 S1 b v0 (B+1)
   (λpre W=>(∃s,(∃rest,xs=pre++rest/\foldE f rest s=some r)/\Mid C st B S1 a (RF s) W)/\W.heap[B+1]?=some (.loop (rec .ready none))/\W.heap[B]?=some (.deferred (some [])))
   (λW=>(∃v,r=.ret v/\Mid C st B S1 a (Rr v) W)/\W.heap[B+1]?=some (.loop (rec .done (some .ret)))/\W.heap[B]?=some (.deferred (some [])))
   W1 (λk hk=>aE (hF.sup k hk).1 hg1.size) hS1b ?_ (hvr.mono hS01 λk hk=>hold k (hS01 k hk)) ?_ ?_ ⟨⟨s,⟨xs,by simp,hm⟩,hmid1⟩,hl1,hd1⟩) ?_
  .rw[Jn (w:=W1) (b:=b) (cs:=#[v0]) (t:=ty) (fr:=(0,0)) (by rw[hold b hS1b];exact hvb)];rfl
  .rintro pre A A' row ⟨⟨s2,hre,hmid⟩,hl,hd⟩ hg hr;have hne:∀k,k<B+2->some k≠row:=λk hk e=>by have:=(hr k e.symm).1;rw[hsz1]at this;omega
   refine⟨⟨s2,hre,hmid.turn hdr hg hCB λq e=>?_⟩,(hg.block _ (aL.1 hl).1 (hne _ (by omega))).trans hl,(hg.block _ (aL.1 hd).1 (hne _ (by omega))).trans hd⟩;obtain⟨g1,o,g2,g3⟩:=hr q e;exact⟨by rw[hsz1]at g1;omega,o,g2,Obj.not_cells_of_walk g3⟩
  .rintro pre x rest W2 ⟨⟨s2,⟨rest2,hre2,hfo2⟩,hmid⟩,hl2,hd2⟩ hxs _;have hrr:rest2=x::rest:=List.append_cancel_left (hre2.symm.trans hxs);subst hrr;simp only[foldE]at hfo2;cases hk:f x s2 with
   |none=>rw[hk]at hfo2;cases hfo2
   |some k=>
   rw[hk]at hfo2;have hkret:∀v,k=.ret v->r=.ret v:=by intro v e;subst e;simp only[ae]at hfo2;exact hfo2.symm
   refine⟨fn,Gg ps (encs x) a.tmps,as,bd,?_,roundIn_of_wpIn trivial ?_⟩
   .have:=run_yield (P:=P) (args:=encs x) hl2 (by rw[hrec];exact hps x);rw[hrec]at this;exact this
   .show as.wpIn (FR (some (B+1))) 1 P _ _ W2;refine Lj (m:=0) rfl (A2q has ?_);refine⟨_,run_beginRound hl2 (by rw[hrec]),?_⟩;obtain⟨hmid3,hl3,hd3,hs3⟩:=hturn W2 (RF s2) _ (.loop {rec .ready none with state:=.busy}) hmid hl2 rfl hd2;generalize hW3:W2.putObj (B+1) (.loop {rec .ready none with state:=.busy})=W3 at hmid3 hl3 hd3 hs3;obtain⟨S,ρ,i1,i2,i3,i4⟩:=hmid3;have htake:Pre (ρ.take kp) ρ:=λi v hv=>by
     rw[ap]at hv;split at hv
     .exact hv
     .cases hv
    have hseg:=i1.seg (ρ.take kp) htake [] (λd hd=>by cases hd);obtain⟨vp,hvp,hvr2⟩:=hav x a.tmps hsize;have hsat:Sat n ⟨W3,S,Ei ρ (RF s2),ρ.take kp,[]⟩ (mkL (stO++[(d,avd x)])) (RF s2) (({tmps:=Gg ps (encs x) a.tmps,defers:=[]}:Act).put (some d) (({tmps:=Gg ps (encs x) a.tmps,defers:=[]}:Act).eval (.tmp p))) W3:=by
     have hsz:(Gg ps (encs x) a.tmps).size=n:=by rw[Ms,Q2];exact hsize
     have hev:({tmps:=Gg ps (encs x) a.tmps,defers:=[]}:Act).eval (.tmp p)=vp:=by have hvp':(Gg ps (encs x) a.tmps)[p]?=some vp:=hvp;simp[Act.eval,ef,hvp']
     rw[hev];refine⟨rfl,by simp[Act.put,hsz],S,ρ,hseg,λe he=>?_⟩;rcases Sf he with he|he
     .have hk1:=uG he;have hdis':=(aD.1 hdis) e.t hk1;simp only[aa,aO]at hdis';have hne:d≠e.t:=by intro e';rw[e']at hdis';simp at hdis'
      have hp0:=Cu he;obtain⟨q1,_⟩:=i2 e (Qp hO e he);obtain⟨y,hy,hry⟩:=q1 (by rw[hp0];exact Bz);refine⟨λ_=>⟨y,?_,hry⟩,λhn=>absurd (by rw[hp0];exact Bz) hn⟩;rw[G7 hne];show (Gg ps (encs x) a.tmps)[e.t]?=some y;rw[Uh (ps:=ps) hdis'.1];exact hy
     .simp only[mkL,aM]at he;subst he;exact⟨λ_=>⟨vp,Jd (by rw[hsz];exact hdn),hvr2 _ _ _⟩,λhn=>absurd Bz hn⟩
    have hb:=hbody (B+1) ⟨W3,S,Ei ρ (RF s2),ρ.take kp,[]⟩ x s2 k (by simp;omega) rfl hk hkret _ W3 hsat;show bd.wpIn (FR (some (B+1))) 1 P _ _ W3;refine Lj (m:=0) rfl (wpIn_mono hb ?_);intro e a3 W4 hq;cases e with
    |normal=>
     obtain⟨s',hks,_,_,S',ρ',hinv,_⟩:=hq;obtain⟨m1,m2,m3⟩:=Mid.back hCB i1 i2 i3 i4 hkp hCk hinv;have hl4:=m3 _ _ hl3 rfl;have hd4:=m3 _ _ hd3 rfl;obtain⟨n1,n2,n3,n4⟩:=hturn W4 (RF s') _ (.loop (rec .ready none)) m1 hl4 rfl hd4;subst hks;refine⟨_,_,run_endRound none hl4,.inl ⟨rfl,⟨⟨s',⟨rest,by rw[hxs];simp,hfo2⟩,?_⟩,?_,?_⟩,λk hk=>?_⟩⟩
     .rw[hrec]at n1 ⊢;exact n1
     .rw[hrec]at n2 ⊢;exact n2
     .rw[hrec]at n3 ⊢;exact n3
     .rw[hrec]at n4 ⊢;exact((n4 k hk).trans (m2 k hk)).trans (hs3 k hk)
    |ret=>
     obtain⟨_,v,hkv,_,_,S',ρ',hinv,_⟩:=hq;obtain⟨m1,m2,m3⟩:=Mid.back hCB i1 i2 i3 i4 hkp hCk hinv;have hl4:=m3 _ _ hl3 rfl;have hd4:=m3 _ _ hd3 rfl;obtain⟨n1,n2,n3,n4⟩:=hturn W4 (Rr v) _ (.loop (rec .done (some .ret))) m1 hl4 rfl hd4;refine⟨_,_,run_endRound (some .ret) hl4,.inr ⟨rfl,⟨v,hkret v hkv,?_⟩,?_,?_⟩⟩
     .rw[hrec]at n1 ⊢;exact n1
     .rw[hrec]at n2 ⊢;exact n2
     .rw[hrec]at n3 ⊢;exact n3
    |_=>cases hq.1
  .rintro e W2 ⟨⟨v,rfl⟩,(⟨⟨s2,⟨rest,hre,hfo⟩,hmid⟩,hl2,hd2⟩|⟨⟨v2,hr2,hmid⟩,hl2,hd2⟩)⟩
   .have hrest:rest=[]:=by
     have:=congrArg List.length hre;simp at this;exact this
    subst hrest;simp only[foldE,ae]at hfo;subst hrec;have hend:=run_endLoop (P:=P) hl2 (by simp);obtain⟨n1,n2,n3,n4⟩:=hturn W2 (RF s2) _ (.loop {state:=.exhausted,pending:=none,fn:=fn,tmps:=a.tmps,params:=ps,assign:=as,body:=bd,defers:=B}) hmid hl2 rfl hd2;refine⟨none,W2.putObj (B+1) (.loop {state:=.exhausted,pending:=none,fn:=fn,tmps:=a.tmps,params:=ps,assign:=as,body:=bd,defers:=B}),hend,?_⟩;obtain⟨S,ρ,i1,i2,i3,_,_⟩:=n1.seg [{target:=.collected B,args:=#[]}] (λd hd=>by rw[aM]at hd;exact⟨B,hd,ai _,n3⟩)
    exact hdone ⟨W2.putObj (B+1) (.loop {state:=.exhausted,pending:=none,fn:=fn,tmps:=a.tmps,params:=ps,assign:=as,body:=bd,defers:=B}),S,Ei ρ (RF s2),C.h,[{target:=.collected B,args:=#[]}]⟩ s2 rfl (hup' _ S ρ _ i1) hfo.symm _ _ ⟨by show _++a.defers=_;rw[hdef];rfl,hsize,S,ρ,i2,λe he=>i3 e he⟩
   .subst hrec;have hend:=run_endLoop (P:=P) hl2 (by simp);obtain⟨n1,n2,n3,n4⟩:=hturn W2 (Rr v2) _ (.loop {state:=.exhausted,pending:=some .ret,fn:=fn,tmps:=a.tmps,params:=ps,assign:=as,body:=bd,defers:=B}) hmid hl2 rfl hd2;refine⟨some .ret,W2.putObj (B+1) (.loop {state:=.exhausted,pending:=some .ret,fn:=fn,tmps:=a.tmps,params:=ps,assign:=as,body:=bd,defers:=B}),hend,?_⟩;obtain⟨S,ρ,i1,i2,i3,_,_⟩:=n1.seg [{target:=.collected B,args:=#[]}] (λd hd=>by
     rw[aM]at hd;exact⟨B,hd,ai _,n3⟩)
    exact wpIn_ret (M_ (hret ⟨W2.putObj (B+1) (.loop {state:=.exhausted,pending:=some .ret,fn:=fn,tmps:=a.tmps,params:=ps,assign:=as,body:=bd,defers:=B}),S,Ei ρ (Rr v2),C.h,[{target:=.collected B,args:=#[]}]⟩ v2 rfl (hup' _ S ρ _ i1) hr2 _ _ ⟨by show _++a.defers=_;rw[hdef];rfl,hsize,S,ρ,i2,λe he=>i3 e he⟩))
def qO(P:Program)(n:Nat)(lv:ey)(fuel:Nat)(items:List It)(st:St)(R:List Res)(ds:eB)(cls:List Cl)(adj:List Adj)(k:Nat)(pi:ey):Option (List Res×List Cl×List (Bool×Bool)):=
 match Gz P n lv fuel items (mkL st) R ds cls with
 | some (.ret,L,R1,cs,bs)=>match Cy adj (J7 L) R1 with
  |some (st2,R2)=>match Xy k pi [] st2 R2 with
   |some (_,R3)=>some (R3,cs,bs)
   |none=>none
  |none=>none
 |_=>none
theorem Ass{pi:ey}{st st':St}{R R':List Res}(h:Xy k pi [] st R=some (st',R')):st'=[]:=by
 unfold Xy at h;generalize (Fw pi&&K9 k pi 0)=bb at h;cases bb with
 |false=>simp at h
 | true=>
  simp only[eh,sel]at h;split at h
  .rename_i st1 Rp h1 h2;simp at h1;subst h1;simp only[Wf]at h;split at h
   .rename_i h3 h4;simp at h3;subst h3;simp at h;exact h.1
   .cases h
  .cases h
theorem A2t(hm:P.follows .mixedOrders=true)(lv:ey)(fuel:Nat)(ds:eB)(cls:List Cl)(adj:List Adj)(k:Nat)(pi:ey){bs:List (Bool×Bool)}{Rr:τ->List Res}{kk:Ctl σ τ}(v:τ)
  (hk:C.h.length<=k)(hok:Da P cls)(hbs:Dd bs)(h:qO P n lv fuel items st R ds cls adj k pi=some (Rr v,cls,bs))(hv:kk=.ret v) :
  WI ro P n C (λe a w=>e=.ret/\∃v,kk=.ret v/\Sat n C (mkL []) (Rr v) a w) items st R:=by
 intro a w hs;unfold qO at h;split at h
 .rename_i L R1 cs bs1 e1;split at h
  .rename_i st2 R3 e2;split at h
   .rename_i st3 R4 e3;simp only[ae,al]at h;obtain⟨h1,rfl,rfl⟩:=h;have:=Ass e3;subst this;subst h1;exact We hm e1 hok hbs hs λa' w' hs'=>⟨rfl,v,hv,(((hs'.sub λe he=>Gu he).adj e2).re hk e3)⟩
   .cases h
  .cases h
 .cases h
def retM(P:Program)(st:St)(R:List Res)(adj:List Adj)(results:List ResultVar)(k:Nat)(pi:ey):Option (AV×List Res):=
 match Cy adj st R with
 |some (st2,R2)=>Ol P results k pi st2 R2
 |none=>none
theorem Sat.retM{fn:Func}{res:AV}{R2:List Res}(adj:List Adj)(results:List ResultVar)(k:Nat)(pi:ey)(hf:fn.results.toList=results)(hk:C.h.length<=k)(h:retM P st R adj results k pi=some (res,R2))(hup:Up C0 C)
  (hs:Sat n C (mkL st) R a w):Ks P fn C0 res R2 .ret a w:=by
 unfold SL.retM at h;split at h
 .rename_i st2 R3 e2;exact(hs.adj e2).post hup hf hk h
 .cases h
end
end Go.SL
