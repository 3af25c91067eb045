import Derived.Test.YtiaaaghdkhnonaaGreatSlY
namespace Go.SL
variable{l:List (Nat×Value)}{B k kp u:Nat}{S1:Nat->Prop}{x:Value}{W:World}
def A82:List It->Bool
 |.c (.rangeFunc _ _ _ _)::_=>true
 |_=>false
def rgG:List It->Operand
 |.c (.rangeFunc g _ _ _)::_=>g
 |_=>.const undef
def Av1:List It->Array Tmp
 |.c (.rangeFunc _ ps _ _)::_=>ps
 |_=>#[]
def A8o:List It->Code
 |.c (.rangeFunc _ _ x _)::_=>x
 |_=>.skip
def A8n:List It->Code
 |.c (.rangeFunc _ _ _ x)::_=>x
 |_=>.skip
section
variable{P:Program}{n:Nat}{C:Ctx}{S S':Nat->Prop}{w w':World}{ρ ρ':eU}{R R':List Res}{a:Act}{st:St}
theorem Ac3(hu:∀q,q∈l->q.1≠u):∀(tm:Array Value),(l.foldl (λt(q:Nat×Value)=>t.setIfInBounds q.1 q.2) tm)[u]?=tm[u]?:=by
 induction l with
 |nil=>intro tm;rfl
 |cons q l ih=>intro tm;simp only[bA];rw[ih (λq' hq'=>hu q' (al _ hq')),Array.getElem?_setIfInBounds_ne (hu q ai)]
theorem yR:∀(tm:Array Value),(l.foldl (λt(q:Nat×Value)=>t.setIfInBounds q.1 q.2) tm).size=tm.size:=by
 induction l with
 |nil=>intro tm;rfl
 |cons q l ih=>intro tm;simp only[bA];rw[ih];simp
def Lb(ps:Array Tmp)(vs:Array Value)(tm:Array Value):Array Value:=(ps.zip vs).foldl (λt (p,v)=>t.setIfInBounds p v) tm
theorem Uz(ps:Array Tmp)(vs tm:Array Value):Lb ps vs tm=((ps.zip vs).toList).foldl (λt(q:Nat×Value)=>t.setIfInBounds q.1 q.2) tm:=by unfold Lb;rw[←Array.foldl_toList]
theorem Adr{ps:Array Tmp}{vs tm:Array Value}(hu:Nl ps.toList u=false):(Lb ps vs tm)[u]?=tm[u]?:=by
 rw[Uz];refine Ac3 (λq hq e=>?_) tm;have:q.1∈ps.toList:=by rw[Array.toList_zip]at hq;exact(bX hq).1
 rw[←Sy,e]at this;rw[hu]at this;cases this
mutual
def D.ltK(k:Nat):D->Bool
 |.o i _=>Nat.blt i k
 |.os i=>Nat.blt i k
 |.oe i _ _ _=>Nat.blt i k
 |.osb i _ _ _=>Nat.blt i k
 |.oi i g _ _ _=>Nat.blt i k&&Nat.blt g k
 |.fn _ a b=>D.ltKL k a&&D.ltKL k b
 |_=>true
def D.ltKL(k:Nat):List D->Bool
 | []=>true
 |d::r=>D.ltK k d&&D.ltKL k r
end
mutual
def AV.ltK(k:Nat):AV->Bool
 |.d x=>x.ltK k
 |.agg ds=>D.ltKL k ds
 |.tup l=>AV.ltKL k l
def AV.ltKL(k:Nat):List AV->Bool
 | []=>true
 |a::r=>AV.ltK k a&&AV.ltKL k r
end
theorem Oe{k:Nat}:∀{l:List D},D.ltKL k l=true->∀{j:Nat}{d:D},l[j]?=some d->d.ltK k=true
 | [],_,j,d,h=>by simp at h
 |a::l,hb,0,d,h=>by simp at h;subst h;simp only[D.ltKL,ac]at hb;exact hb.1
 |a::l,hb,j+1,d,h=>by simp at h;simp only[D.ltKL,ac]at hb;exact Oe hb.2 h
theorem Wc{k:Nat}:∀{l:List AV},AV.ltKL k l=true->∀{j:Nat}{d:AV},l[j]?=some d->d.ltK k=true
 | [],_,j,d,h=>by simp at h
 |a::l,hb,0,d,h=>by simp at h;subst h;simp only[AV.ltKL,ac]at hb;exact hb.1
 |a::l,hb,j+1,d,h=>by simp at h;simp only[AV.ltKL,ac]at hb;exact Wc hb.2 h
theorem Rd.monoK{d:D}(h:Rd S w ρ x d)(hS:∀b,S b->S' b)(hw:∀b,S b->w'.heap[b]?=w.heap[b]?)(hρ:∀(i:Nat) v,i<k->ρ[i]?=some v->ρ'[i]?=some v):d.ltK k=true->Rd S' w' ρ' x d:=by
 induction h with
 |p h=>intro _;exact .p (h.mono hS hw)
 |o h=>intro hb;exact .o (hρ _ _ (by simpa[D.ltK,eN]using hb) h)
 |os h h1=>intro hb;exact .os (hρ _ _ (by simpa[D.ltK,eN]using hb) h) h1
 |oe h=>intro hb;exact .oe (hρ _ _ (by simpa[D.ltK,eN]using hb) h)
 |osb h a b c d=>intro hb;exact .osb (hρ _ _ (by simpa[D.ltK,eN]using hb) h) a b c d
 |oi h a b=>intro hb;simp only[D.ltK,ac]at hb;exact .oi (hρ _ _ (by have:=hb.2;simpa[eN]using this) h) a b
 |ip h=>intro _;exact .ip (h.mono hS hw)
 |fn hl hm _ _ ih1 ih2=>intro hb;simp only[D.ltK,ac]at hb;exact .fn hl hm (λj x d h1 h2=>ih1 j x d h1 h2 (Oe hb.1 h2)) (λj x d h1 h2=>ih2 j x d h1 h2 (Oe hb.2 h2))
 |any h=>intro _;exact .any h
 |nq h=>intro _;exact .nq h
theorem RdA.monoK{d:AV}(h:RdA S w ρ x d)(hS:∀b,S b->S' b)(hw:∀b,S b->w'.heap[b]?=w.heap[b]?)(hρ:∀(i:Nat) v,i<k->ρ[i]?=some v->ρ'[i]?=some v):d.ltK k=true->RdA S' w' ρ' x d:=by
 induction h with
 |d h=>intro hb;exact .d (h.monoK hS hw hρ hb)
 |agg h=>intro hb;exact .agg (de h.length λj x d hx hd=>(h.both hx hd).monoK hS hw hρ (Oe hb hd))
 |tup hl _ ih=>intro hb;exact .tup hl λj x a hx ha=>ih j x a hx ha (Wc hb ha)
def Ol(k:Nat)(st:St):Bool:=st.all λx=>x.2.ltK k
theorem Ka{st:St}(h:Ol k st=true){e:Ent}(he:e∈mkL st):e.v.ltK k=true:=(aG.1 h) _ (Ku he).1
def Mid(C:Ctx)(st:St)(B:Nat)(S1:Nat->Prop)(a:Act)(R:List Res)(W:World):Prop:=
 ∃S ρ,Inv C S W ρ R/\Co S W ρ a (mkL st)/\(∀k,S1 k->S k)/\∀k,S k->k<B\/∃vs t f,W.heap[k]?=some (.cells vs t f)
theorem Mid.seg(h:Mid C st B S1 a R W)(df:List Deferred)(hB:∀d,d∈df->∃D,d={target:=.collected D,args:=#[]}/\B<=D/\W.heap[D]?=some (.deferred (some []))) :
  ∃S ρ,Inv C S W ρ R/\Inv ⟨W,S,Em ρ R,C.h,df⟩ S W ρ R/\Co S W ρ a (mkL st)/\(∀k,S1 k->S k)/\∀k,S k->k<B\/∃vs t f,W.heap[k]?=some (.cells vs t f):=by
 obtain⟨S,ρ,h1,h2,h3,h4⟩:=h;refine⟨S,ρ,h1,h1.seg C.h h1.pre df λd hd=>?_,h2,h3,h4⟩;obtain⟨D,e,g1,g2⟩:=hB d hd;refine⟨D,e,(aP.1 g2).1,λ⟨i,r,v,k1,k2,k3⟩=>?_,λhS=>?_,g2⟩
 .obtain⟨vs,t,f,q⟩:=Jy (h1.ok i r v k1 k2) k3;rw[g2]at q;cases q
 .rcases h4 D hS with q|⟨vs,t,f,q⟩
  .omega
  .rw[g2]at q;cases q
theorem Mid.back{W':World}(hB:C.w.heap.size<=B)(h1:Inv C S W ρ R)(h2:Co S W ρ a (mkL st))(h3:∀k,S1 k->S k)(h4:∀k,S k->k<B\/∃vs t f,W.heap[k]?=some (.cells vs t f))
  (hkp:Ol kp st=true)(hCk:C.h.length<=kp)(hk:Inv ⟨W,S,Em ρ R,ρ.take kp,[]⟩ S' W' ρ' R'):Mid C st B S1 a R' W'/\(∀k,S1 k->W'.heap[k]?=W.heap[k]?)/\∀(k:Nat)(o:Obj),W.heap[k]?=some o->o.isCells=false->W'.heap[k]?=some o:=by
 have hpre:∀(i:Nat) v,i<kp->ρ[i]?=some v->ρ'[i]?=some v:=λi v hi hv=>hk.pre i v (by rw[aq,eC hi];exact hv);have hT:=h1.trans hk (λi v hv=>hpre i v (aJ (aa.1 hv).1 hCk) (h1.pre i v hv));have hsame:∀k,S k->W'.heap[k]?=W.heap[k]?:=λk hS=>hk.frm k (h1.sup k hS).1 λ⟨i,r,v,g1,g2,g3⟩=>(h1.own i r v k g1 g2 g3).1 hS;have hoth:∀(k:Nat)(o:Obj),W.heap[k]?=some o->o.isCells=false->W'.heap[k]?=some o:=λk o ho hc=>by refine(hk.frm k (aP.1 ho).1 λ⟨i,r,v,g1,g2,g3⟩=>?_).trans ho;obtain⟨vs,t,f,q⟩:=Jy (h1.ok i r v g1 g2) g3;rw[ho]at q;cases q;cases hc
 refine⟨⟨λk=>S' k/\(k<B\/∃vs t f,W'.heap[k]?=some (.cells vs t f)),ρ',hT.trim (λk hS hc=>⟨hS,.inr hc⟩) (λ_ h=>h.1) (λk hC=>⟨hT.sub k hC,.inl (aJ (h1.gl.2.1 k hC).1 hB)⟩),λe he=>?_,λk hS1=>⟨hk.sub k (h3 k hS1),?_⟩,λk h=>h.2⟩,λk hS1=>hsame k (h3 k hS1),hoth⟩
 .obtain⟨q1,q2⟩:=h2 e he;refine⟨λhp=>?_,q2⟩;obtain⟨x,hx,hrx⟩:=q1 hp;have:=hrx.monoK (S':=S') (w':=W') (ρ':=ρ') (λk hS=>hk.sub k hS) hsame hpre (Ka hkp he);exact⟨x,hx,this.trim λk hS hc=>⟨hS,.inr hc⟩⟩
 .rcases h4 k (h3 k hS1) with q|q
  .exact .inl q
  .rw[hsame k (h3 k hS1)];exact .inr q
theorem Ym:∀{st:St}{u:Nat}{x:AV},(u,x)∈st->(⟨u,[],x⟩:Ent)∈mkL st
 | [],_,_,h=>by cases h
 |(t,v)::r,u,x,h=>by
  rcases ag.1 h with e|h
  .cases e;exact ai
  .exact al _ (Ym h)
theorem jO:∀{s1 s2:St}{e:Ent},e∈mkL (s1++s2)->e∈mkL s1\/e∈mkL s2
 | [],_,_,h=>.inr h
 | (t,v)::r,s2,e,h=>by
  rcases ag.1 h with h|h
  .exact .inl (ag.2 (.inl h))
  .rcases jO h with h|h
   .exact .inl (al _ h)
   .exact .inr h
theorem yJ:∀{st:St}{e:Ent},e∈mkL st->e.t∈Jj st
 | [],_,h=>by cases h
 |(t,v)::r,e,h=>by
  rcases ag.1 h with rfl|h
  .exact ai
  .exact al _ (yJ h)
def Ajd(P:Program)(n:Nat)(lv:eR)(fuel:Nat)(items:List It)(st:St)(R:List Res)(ds:eT)(cls:List Cl)(adj:List Adj)(k:Nat)(pi:eR):Option (List Res×List Cl×List (Bool×Bool)):=
 match Gi P n lv fuel items (mkL st) R ds cls with
 | some (.ret,L,R1,cs,bs)=>match Et adj (Ur L) R1 with
  |some (st2,R2)=>match yA k pi [] st2 R2 with
   |some (_,R3)=>some (R3,cs,bs)
   |none=>none
  |none=>none
 |_=>none
theorem Av4{pi:eR}{st st':St}{R R':List Res}(h:yA k pi [] st R=some (st',R')):st'=[]:=by
 unfold yA at h;generalize (Gq pi&&Lk k pi 0)=bb at h;cases bb with
 |false=>simp at h
 | true=>
  simp only[ez,sel]at h;split at h
  .rename_i st1 Rp h1 h2;simp at h1;subst h1;simp only[Xr]at h;split at h
   .rename_i h3 h4;simp at h3;subst h3;simp at h;exact h.1
   .cases h
  .cases h
theorem A2a{τ σ:Type}{ro:Option Nat}{items:List It}(hm:P.follows .mixedOrders=true)(lv:eR)(fuel:Nat)(ds:eT)(cls:List Cl)(adj:List Adj)(k:Nat)(pi:eR){bs:List (Bool×Bool)}{Rr:τ->List Res}{kk:Ctl σ τ}(v:τ)
  (hk:C.h.length<=k)(hok:Dc P cls)(hbs:Dq bs)(h:Ajd P n lv fuel items st R ds cls adj k pi=some (Rr v,cls,bs))(hv:kk=.ret v) :
  WI ro P n C (λe a w=>e=.ret/\∃v,kk=.ret v/\Sat n C (mkL []) (Rr v) a w) items st R:=by
 intro a w hs;unfold Ajd at h;split at h
 .rename_i L R1 cs bs1 e1;split at h
  .rename_i st2 R3 e2;split at h
   .rename_i st3 R4 e3;simp only[ah,au]at h;obtain⟨h1,rfl,rfl⟩:=h;have:=Av4 e3;subst this;subst h1;exact Oo hm e1 hok hbs hs λa' w' hs'=>⟨rfl,v,hv,(((hs'.sub λe he=>Lx he).adj e2).re hk e3)⟩
   .cases h
  .cases h
 .cases h
end
end Go.SL
