import Derived.Test.YtedojeimigneaaaGreatDoorSlS
import Derived.RangeFuncNested
import Derived.RangeFuncLeaves
import Derived.KernelRfl
namespace Go.SL
variable{res v:AV}{c:Code}{C0:Ctx}{fn:Func}{pi:ey}{R2:List Res}{results:List ResultVar}{D k:Nat}
inductive Ctl(σ ρ:Type) where
 |next (s:σ)
 |brk (s:σ)
 |ret (r:ρ)
def whileN{σ ρ:Type}(f:σ->Option (Ctl σ ρ)):Nat->σ->Option (Ctl σ ρ)
 |0,_=>none
 |n+1,s=>match f s with
  |some (.next s')=>whileN f n s'
  |some (.brk s')=>some (.next s')
  |some (.ret r)=>some (.ret r)
  |none=>none
def foldE{α σ ρ:Type}(f:α->σ->Option (Ctl σ ρ)):List α->σ->Option (Ctl σ ρ)
 | [],s=>some (.next s)
 |x::xs,s=>match f x s with
  |some (.next s')=>foldE f xs s'
  |some (.brk s')=>some (.next s')
  |some (.ret r)=>some (.ret r)
  |none=>none
theorem Adk{p:Nat->Prop}(h:∃n,p n):∃n,p n/\∀m,m<n->¬p m:=by
 obtain⟨n,hn⟩:=h;induction n using Nat.strongRecOn with
 | _ n ih=>
  by_cases hx:∃m,m<n/\p m
  .obtain⟨m,h1,h2⟩:=hx;exact ih m h1 h2
  .exact⟨n,hn,λm hm hp=>hx ⟨m,hm,hp⟩⟩
section
variable{ro:Option Nat}{P:Program}{n:Nat}{C:Ctx}{Q:Exit->Act->World->Prop}{st st':St}{R R':List Res}{S S':Nat->Prop}{w w':World}{ρ ρ':eA}{a:Act}
theorem Ahw(I:Nat->Act->World->Prop)(h0:∃m,∀a w,Sat n C (mkL st) R a w->I m a w)
  (h:∀m a w,I m a w->c.wpIn (FR ro) 0 P (Exit.then (λa' w'=>∃k,k<m/\I k a' w') Q) a w):W ro P n C Q (.loop c) st R:=by
 intro a w hs;obtain⟨m0,h0⟩:=h0;have key:∀a w,(∃m,I m a w)->∃m,I m a w/\∀k,k<m->¬I k a w:=λa w h=>Adk h
 let μ:Act->World->Nat:=λa w=>@dite _ (∃m,I m a w) (Classical.propDecidable _) (λh=>Classical.choose (key a w h)) (λ_=>0)
 have hμ:∀a w(hx:∃m,I m a w),I (μ a w) a w/\∀k,k<μ a w->¬I k a w:=by
  intro a w hx;have:μ a w=Classical.choose (key a w hx):=by simp only[μ];rw[dif_pos hx]
  rw[this];exact Classical.choose_spec (key a w hx)
 refine wpIn_loop (λa w=>∃m,I m a w) μ ⟨m0,h0 a w hs⟩ λa w hI=>?_;obtain⟨h1,h2⟩:=hμ a w hI;refine wpIn_mono (h _ a w h1) λe a' w' hq=>?_;cases e with
 |normal=>
  obtain⟨k,hk,hIk⟩:=hq;refine⟨⟨k,hIk⟩,?_⟩;obtain⟨g1,g2⟩:=hμ a' w' ⟨k,hIk⟩;rcases aR k (μ a' w') with h|h
  .exact absurd hIk (g2 k h)
  .omega
 |_=>exact hq
theorem A2s{σ τ:Type}(f:σ->Option (Ctl σ τ))(stF:σ->St)(RF:σ->List Res)(r:Ctl σ τ)(fuel:Nat)(s:σ)(hm:whileN f fuel s=some r)
  (h0:st=stF s/\R=RF s)
  (h:∀s k,f s=some k->(∀s',k=.brk s'->r=.next s')->(∀v,k=.ret v->r=.ret v) ->
   W ro P n C (Exit.then (λa' w'=>∃s',k=.next s'/\Sat n C (mkL (stF s')) (RF s') a' w') Q) c (stF s) (RF s)):W ro P n C Q (.loop c) st R:=by
 refine Ahw (λm a w=>∃s,whileN f m s=some r/\Sat n C (mkL (stF s)) (RF s) a w) ⟨fuel,λa w hs=>⟨s,hm,by rw[h0.1,h0.2]at hs;exact hs⟩⟩ λm a w hI=>?_;obtain⟨s,hf,hs⟩:=hI;cases m with
 |zero=>simp[whileN]at hf
 | succ m=>
  simp only[whileN]at hf;cases hk:f s with
  |none=>rw[hk]at hf;cases hf
  | some k=>
   rw[hk]at hf;refine wpIn_mono (h s k hk ?_ ?_ a w hs) λe a' w' hq=>?_
   .intro s' e;subst e;simp only[ae]at hf;exact hf.symm
   .intro v e;subst e;simp only[ae]at hf;exact hf.symm
   .cases e with
    |normal=>obtain⟨s',e,hs'⟩:=hq;subst e;exact⟨m,Nat.lt_succ_self m,s',hf,hs'⟩
    |_=>exact hq
def Ab7(P : Program)(st : St)(R : List Res) : ResultVar -> Option AV
 |.tmp t=>match Ds (mkL st) t with
  |some e=>some e.v
  |none=>none
 | .cell t ty=>match Ds (mkL st) t,A8 P ty with
  | some e,some m=>match e.v with
   |.d (.o i off)=>match R[i]? with
    |some (.box _ cells)=>Gr P ty ((cells.drop off).take m)
    |_=>none
   |_=>none
  |_,_=>none
def Lo(P:Program)(st:St)(R:List Res):List ResultVar->Option (List AV)
 | []=>some []
 |r::l=>match Ab7 P st R r,Lo P st R l with
  |some v,some vs=>some (v.norm::vs)
  |_,_=>none
def Az1:List AV->AV
 | [v]=>v
 |l=>.tup l
def Ol(P:Program)(results:List ResultVar)(k:Nat)(pi:ey)(st:St)(R:List Res):Option (AV×List Res):=
 bif Fw pi&&K9 k pi 0 then
  match Lo P st R results,I2 R pi with
  |some vs,some Rp=>match (Az1 vs).ren (D4 pi),Ht (D4 pi) Rp with
   |some v,some R'=>some (v,R')
   |_,_=>none
  |_,_=>none
 else none
def Ks(P:Program)(fn:Func)(C:Ctx)(res:AV)(R2:List Res):Exit->Act->World->Prop:=
 bodyPostM (FR none) 0 P fn λe w'=>∃v S' ρ',e=.returned v/\RdA S' w' ρ' v res/\Inv C S' w' ρ' R2
structure Up(C0 C:Ctx):Prop where
 up:∀S w ρ R,Inv C S w ρ R->Inv C0 S w ρ R
 df:C.df=[]\/∃D,C.df=[{target:=.collected D,args:=#[]}]/\C0.w.heap.size<=D
 hl:C0.h.length<=C.h.length
theorem dp{C:Ctx}(h:C.df=[]):Up C C:=⟨λ_ _ _ _ h=>h,.inl h,ai _⟩
theorem Inv.shut(hI:Inv C0 S w ρ R)(h0:C0.w.heap.size<=D)(hS:¬S D)(hR:∀(i:Nat) r h,R[i]?=some r->ρ[i]?=some h->¬r.foot h D)(o:Obj):Inv C0 S (w.putObj D o) ρ R/\∀b,S b->(w.putObj D o).heap[b]?=w.heap[b]?:=by
 have hsame:∀b,b≠D->(w.putObj D o).heap[b]?=w.heap[b]?:=λb hb=>World.putObj_heap_other hb;have hSs:∀b,S b->(w.putObj D o).heap[b]?=w.heap[b]?:=λb hb=>hsame b (λe=>hS (e ▸ hb));have hsz:(w.putObj D o).heap.size=w.heap.size:=by simp[World.putObj]
 refine⟨⟨hI.len,λi r h h1 h2=>(hI.ok i r h h1 h2).mono (λ_ h=>h) hSs (Pre.refl _) (λb hb=>hsame b (λe=>hR i r h h1 h2 (e ▸ hb))),hI.dis,λi r h b h1 h2 h3=>?_,hI.sub,λb hb=>?_,λb hb hf=>?_,?_,hI.os,hI.tape,hI.output,hI.pre,hI.gl⟩,hSs⟩
 .rw[hsz];exact hI.own i r h b h1 h2 h3
 .rw[hsz];exact hI.sup b hb
 .exact(hsame b (by omega)).trans (hI.frm b hb hf)
 .rw[hsz];exact hI.size
theorem Ano(hI:Inv C S w ρ R)(hL:Cd S w ρ a (mkL st)){r:ResultVar}(h:Ab7 P st R r=some v) :
  ∃x,(match r with|.tmp t=>pure (a.tmps.getD t undef)|.cell t ty=>do loadVar ty (←asAddr (a.tmps.getD t undef)):Sem Value).run P w=.ok x w/\RdA S w ρ x v:=by
 have slot:∀t e,Ds (mkL st) t=some e->∃x,a.tmps.getD t undef=x/\RdA S w ρ x e.v:=by intro t e he;obtain⟨hm,ht⟩:=C5 he;obtain⟨x,hx,hr⟩:=(hL e hm).1 (by rw[Cu hm];exact Bz);rw[ht]at hx;exact⟨x,by simp[ef,hx],hr⟩
 unfold Ab7 at h;split at h
 .rename_i t;split at h
  .rename_i e he;simp at h;subst h;obtain⟨x,hx,hr⟩:=slot t e he;exact⟨x,by simp[hx],hr⟩
  .cases h
 .rename_i t ty;split at h
  .rename_i e m he hm;split at h
   .rename_i i off hv;split at h
    .rename_i u cells hi;obtain⟨x,hx,hr⟩:=slot t e he;rw[hv]at hr;obtain⟨b,hb,hρ⟩:=hr.d_inv.o_inv;obtain⟨y,hy,hry⟩:=Ha (P:=P) (S:=S) (w:=w) (ρ:=ρ) (ad:=⟨b,off,none⟩) h (λj d hd=>Aej hI hi hρ off m j d hd);refine⟨y,?_,hry⟩;simp only[hx,hb,asAddr,eo,eq,ep,hy]
    .cases h
   .cases h
  .cases h
theorem Y2(hI:Inv C S w ρ R)(hL:Cd S w ρ a (mkL st)):∀{l:List ResultVar}{vs:List AV},Lo P st R l=some vs ->
  ∃xs,(l.mapM fun|.tmp t=>pure (a.tmps.getD t undef)|.cell t ty=>do loadVar ty (←asAddr (a.tmps.getD t undef)):Sem eA).run P w=.ok xs w/\Ay (RdA S w ρ) xs vs
 | [],vs,h=>by simp[Lo]at h;subst h;exact⟨[],by simp,trivial⟩
 | r::l,vs,h=>by
  simp only[Lo]at h;split at h
  .rename_i v vs' h1 h2;simp at h;subst h;obtain⟨x,hx,hr⟩:=Ano hI hL h1;obtain⟨xs,hxs,hrs⟩:=Y2 hI hL h2;refine⟨x::xs,?_,hr.norm,hrs⟩;simp only[List.mapM_cons,eo];rw[hx];simp only[ep];rw[hxs];simp
  .cases h
theorem Az7(hf:fn.results.toList=results)(hk:C.h.length<=k)(h:Ol P results k pi st R=some (res,R2))
  (h3:Inv C S w ρ R)(h4:Cd S w ρ a (mkL st)):∃x,(Go.results fn a.tmps).run P w=.ok x w/\∃v S' ρ',Ending.returned x=.returned v/\RdA S' w ρ' v res/\Inv C S' w ρ' R2:=by
 unfold Ol at h;cases hb:(Fw pi&&K9 k pi 0) with
 |false=>rw[hb]at h;simp at h
 | true=>
  rw[hb]at h;simp only[eh]at h;simp only[aa]at hb;split at h
  .rename_i vs Rp e1 e2;split at h
   .rename_i v R3 e3 e4;simp at h;obtain⟨rfl,rfl⟩:=h;have hid:∀(i j:Nat) x,D4 pi i=some j->ρ[i]?=some x->(Dr ρ pi)[j]?=some x:=(h3.start hb.1 e2 e4).2.1;obtain⟨xs,hxs,hrs⟩:=Y2 (P:=P) h3 h4 e1;have hI2:=h3.pick hb.1 e2 e4 λi v hv=>by
     have hi:i<C.h.length:=(ac.1 hv).1;have:=Sk hb.2 i (by omega);simp only[aJ]at this;have hp:=h3.pre i v hv;simp[Dr,this,List.getD_eq_getElem?_getD,hp]
    have hrun:∃x,(Go.results fn a.tmps).run P w=.ok x w/\RdA S w ρ x (Az1 vs):=by
     have hm:∀g:ResultVar->Sem Value,(∀t,g (.tmp t)=pure (a.tmps.getD t undef))->(∀t ty,g (.cell t ty)=do loadVar ty (←asAddr (a.tmps.getD t undef)))->(fn.results.mapM g:Sem (Array Value)).run P w=.ok xs.toArray w:=by
      intro g g1 g2;have e:g=(fun|.tmp t=>pure (a.tmps.getD t undef)|.cell t ty=>do loadVar ty (←asAddr (a.tmps.getD t undef))):=by
       funext x;cases x with
       |tmp t=>exact g1 t
       |cell t ty=>exact g2 t ty
      rw[e,Uf,hf,hxs];rfl
     have hlen:=hrs.length
     match xs,vs,hrs,hlen,hm with
     | [x],[v],hrs,_,hm=>refine⟨x,?_,hrs.1⟩;unfold Go.results;simp only[eo];rw[hm _ (λ_=>rfl) (λ_ _=>rfl)];simp
     | [],[],hrs,_,hm=>refine⟨.tuple #[],?_,.tup (vs:=[]) rfl (by simp)⟩;unfold Go.results;simp only[eo];rw[hm _ (λ_=>rfl) (λ_ _=>rfl)];simp
     |x::y::l,v::u::l',hrs,hl,hm=>refine⟨.tuple (x::y::l).toArray,?_,.tup hl λj z b h1 h2=>hrs.both h1 h2⟩;unfold Go.results;simp only[eo];rw[hm _ (λ_=>rfl) (λ_ _=>rfl)];simp
     | [],_::_,hrs,_,_=>exact hrs.elim
     |_::_,[],hrs,_,_=>exact hrs.elim
     | [_],_::_::_,hrs,_,_=>exact hrs.2.elim
     |_::_::_,[_],hrs,_,_=>exact hrs.2.elim
    obtain⟨x,hx,hr⟩:=hrun;exact⟨x,hx,x,S,Dr ρ pi,rfl,hr.ren hid _ e3,hI2⟩
   .cases h
  .cases h
theorem Sat.post(hup:Up C0 C)(hf:fn.results.toList=results)(hk:C.h.length<=k)(h:Ol P results k pi st R=some (res,R2))
  (hs:Sat n C (mkL st) R a w):Ks P fn C0 res R2 .ret a w:=by
 obtain⟨h1,_,S,ρ,h3,h4⟩:=hs;have hk0:C0.h.length<=k:=ay hup.hl hk;show LeavesInM (FR none) 0 P fn a.tmps _ a.defers .returning w;rw[h1];rcases hup.df with hd|⟨D,hd,hD0⟩
 .rw[hd];exact Az7 hf hk0 h (hup.up _ _ _ _ h3) h4
 .rw[hd];obtain⟨D',e,m1,m2,m3,m4⟩:=h3.gl.2.2 _ (by rw[hd];exact aM.2 rfl);have:D'=D:=by injection e with e1 _;injection e1 with e1;exact e1.symm
  subst this;have hK:w.heap[D']?=some (.deferred (some [])):=(h3.frm D' m1 m2).trans m4;have hS:¬S D':=λhSD=>by
   rcases(h3.sup D' hSD).2 with q|q|q
   .exact m3 q
   .exact m2 q
   .omega
  have hR:∀(i:Nat) r h,R[i]?=some r->ρ[i]?=some h->¬r.foot h D':=λi r h g1 g2 g3=>by
   rcases(h3.own i r h D' g1 g2 g3).2.2 with q|q
   .exact m2 q
   .omega
  obtain⟨g1,g2⟩:=(hup.up _ _ _ _ h3).shut hD0 hS hR (.deferred none);refine⟨by simp,.inl ⟨D',_,rfl,run_takeDeferred hK,?_⟩⟩;refine Az7 hf hk0 h g1 λe he=>?_;obtain⟨q1,q2⟩:=h4 e he;refine⟨λhp=>?_,q2⟩;obtain⟨x,hx,hr⟩:=q1 hp;exact⟨x,hx,hr.mono (λ_ h=>h) g2 (Pre.refl _)⟩
def Tc:Nat->List AV->St
 |_,[]=>[]
 |i,v::l=>(i,v)::Tc (i+1) l
theorem zO:∀{l:List AV}{i:Nat}{e:Ent},e∈mkL (Tc i l)->∃j,e.t=i+j/\e.p=[]/\l[j]?=some e.v
 | [],i,e,h=>by cases h
 | v::l,i,e,h=>by
  rcases ah.1 h with rfl|h
  .exact⟨0,rfl,rfl,rfl⟩
  .obtain⟨j,h1,h2,h3⟩:=zO h;exact⟨j+1,by omega,h2,by simpa using h3⟩
theorem Ad5{f:FuncId}{args:List AV}(hf:P.funcs[f]?=some fn)(hb:fn.body=some c)(hn:fn.ntmps=n)(hl:args.length<=n)
  (h:∀C:Ctx,C.df=[]->C.h.length=R.length->W none P n C (Ks P fn C res R2) c (Tc 0 args) R):CallOk P f args R res R2:=by
 intro S w ρ vs hst hv;refine callsIn_wide.1 (callsIn_of_wp_marks (F:=Fence.wide) (n:=0) hf hb trivial ?_);have hlen:=hv.length;refine h ⟨w,S,Ei ρ R,ρ,[]⟩ rfl (by simp[hst.len]) _ _ ⟨rfl,?_,S,ρ,hst.inv,λe he=>?_⟩
 .simp;omega
 .obtain⟨j,h1,h2,h3⟩:=zO he;refine⟨λ_=>?_,λhnp=>absurd (by rw[h2];exact Bz) hnp⟩;obtain⟨x,hx,hr⟩:=hv.get h3;refine⟨x,?_,hr⟩;have hj:j<vs.length:=(ac.1 hx).1;simp only[aJ]at h1;rw[h1];simp[Array.getElem?_append,hj];rw[ak hj]at hx;simpa using hx
end
end Go.SL
namespace Go.SL
variable{α:Type}{d res:AV}{f:FuncId}{rows:List (List Pd)}{tys:List (TypeId×Nat)}{args args':List AV}{R2 R2':List Res}{ρ2:eA}{e i k size t:Nat}{v x:Value}
section
variable{P:Program}{n:Nat}{C:Ctx}{st st':St}{R R':List Res}{S S':Nat->Prop}{w w':World}{ρ ρ':eA}{a:Act}
theorem Aks{rows:List (List α)}(h1:∀row,row∈rows->row.length=size)(hk:k<rows.length*size):∃i j row d,k=i*size+j/\rows[i]?=some row/\row[j]?=some d/\j<size:=by
 have hs:0<size:=by grind
 have hkl:k / size<rows.length:=(Nat.div_lt_iff_lt_mul hs).2 hk;have hrow:=ak hkl;have hrl:=h1 _ (ag hrow);have hj:k % size<(rows[k / size]).length:=by rw[hrl];exact Nat.mod_lt _ hs
 refine⟨k / size,k % size,_,_,?_,hrow,ak hj,Nat.mod_lt _ hs⟩;rw[Nat.mul_comm];exact(Nat.div_add_mod k size).symm
theorem Ya{e:Ent}(h:Wz S w ρ a e)(hS:∀b,S b->S' b)(hρ:Pre ρ ρ'):Wz S' w ρ' a e:=by refine⟨λhp=>?_,h.2⟩;obtain⟨v,hv,hr⟩:=h.1 hp;exact⟨v,hv,hr.mono hS (λ_ _=>rfl) hρ⟩
theorem Inv.swap0{r r':Res}(h:Inv C S w ρ R)(hi:R[i]?=some r)(hρ:ρ[i]?=some v)(hok:r.ok S w ρ v->r'.ok S w ρ v)(hf:∀b,r'.foot v b=r.foot v b):Inv C S w ρ (R.set i r'):=by
 refine h.regroup (λj _=>j) (by simp[h.len]) (Pre.refl _) (λj r1 v1 h1 h2=>?_) (λj r1 v1 b h1 h2 h3=>?_) (λ_ _=>rfl) rfl rfl ⟨rfl,λ_=>by grind⟩ rfl
 .rw[aB]at h1;split at h1
  .rename_i hj;subst hj;split at h1
   .cases h1;rw[hρ]at h2;cases h2;exact hok (h.ok i r v hi hρ)
   .cases h1
  .exact h.ok j r1 v1 h1 h2
 grind
def Ad0(i:Nat)(tys:List (TypeId×Nat))(st:St)(R:List Res):Option (St×List Res):=
 match R[i]? with
 |some (.zsl e size rows)=>bif Nat.beq tys.length size then some (st,R.set i (.dsl e size R.length)++[.gh size tys rows none]) else none
 |_=>none
theorem Inv.deepen(h:Inv C S w ρ R)(hi:R[i]?=some (.zsl e size rows))(ht:tys.length=size) :
  ∃g,Inv C S w (ρ++[g]) (R.set i (.dsl e size R.length)++[.gh size tys rows none]):=by
 have hL:ρ.length=R.length:=h.len;have hil:i<ρ.length:=by rw[hL];exact(ac.1 hi).1
 have hρ:ρ[i]?=some ρ[i]:=ak hil;generalize ρ[i]=v at hρ;have nohole:∀q,¬H7 size none q:=λq ⟨p,hp,_⟩=>by cases hp
 have key : ∃g : Value, (∀(xs cs : Array Value)(f : Fn), g = Value.func f xs cs -> (∀(k : Nat)(x : Value), xs[k]?=some x -> ¬ ∃a n c, x = Value.slice (some a) n c)) /\ (g.oneCell' = false \/ ∃f xs cs, g=.func f xs cs /\ gOk S w size tys rows none xs) /\
   (∀ρ':eA,ρ'[R.length]?=some g->(Res.dsl e size R.length).ok S w ρ' v):=by
  rcases h.ok i _ _ hi hρ with hd|hk
  .exact⟨undef,(λxs cs f h=>by cases h),.inl rfl,λρ' _=>.inl hd⟩
  .rcases hk with⟨h1,h2⟩|⟨b,o,cap,vs,h1,hb,h3,h4,h5,h6,h7⟩
   .subst h1;subst h2;refine⟨.func (.func 0) #[] #[],(λxs cs f h=>by cases h;simp),.inr ⟨_,_,_,rfl,by simp,by simp,by simp,by simp⟩,λρ' hg=>.inr ⟨_,_,_,hg,.inl ⟨rfl,by simp⟩⟩⟩
   .subst h1;have hle:rows.length*size<=cap*size:=aX _ h3;have hsz:(vs.extract o (o+rows.length*size)).size=rows.length*size:=by simp;omega
    have hget:∀(k:Nat)(x:Value),(vs.extract o (o+rows.length*size))[k]?=some x->k<rows.length*size/\vs[o+k]?=some x:=by
     intro k x hx;have hkl:k<rows.length*size:=by rw[←hsz];exact(aL.1 hx).1
     refine⟨hkl,?_⟩;rw[Array.getElem?_extract]at hx;split at hx
     .exact hx
     .cases hx
    have hns:∀(k:Nat)(x:Value),(vs.extract o (o+rows.length*size))[k]?=some x->¬ ∃a n c,x=Value.slice (some a) n c:=by
     rintro k x hx ⟨a,n,c,rfl⟩;obtain⟨hk,hv⟩:=hget k _ hx;obtain⟨i2,j2,row,d,e1,e2,e3,_⟩:=Aks h6 hk;obtain⟨y,hy,hz⟩:=h7 i2 row e2 j2 d e3;subst e1;rw[←bg,hy]at hv;cases hv;cases d with
     |v z=>obtain⟨e1,_,hn⟩:=hz;subst e1;exact hn
     |s r=>cases hz.1
    refine⟨.func (.func 0) (vs.extract o (o+rows.length*size)) #[],(λxs cs f h=>by cases h;exact hns),.inr ⟨_,_,_,rfl,h6,hsz,λi2 row hi2 j2 d hj2=>?_,λk1 k2 a1 n1 c1 a2 n2 c2 _ _ _ h8 _=>absurd ⟨_,_,_,rfl⟩ (hns k1 _ h8)⟩,λρ' hg=>.inr ⟨_,_,_,hg,.inr ⟨b,o,rows.length,cap,vs,rfl,hb,h3,h4,h5,hsz,λk x hx=>(hget k x hx).2⟩⟩⟩;obtain⟨y,hy,hz⟩:=h7 i2 row hi2 j2 d hj2;have hil2:i2<rows.length:=(ac.1 hi2).1;have hjl:j2<size:=by rw[←h6 row (ag hi2)];exact(ac.1 hj2).1
    have hlt:i2*size+j2<rows.length*size:=by have:(i2+1)*size<=rows.length*size:=aX _ hil2;rw[az,cg]at this;omega
    refine⟨y,?_,?_⟩
    .rw[Array.getElem?_extract,ei (by omega),←bg];exact hy
    .cases d with
     |v z=>exact hz
     |s r=>obtain⟨rfl,rfl⟩:=hz;exact⟨rfl,λ_=>⟨_,_,ak (by rw[ht];exact hjl),.inl ⟨rfl,rfl⟩⟩⟩
 obtain⟨g,hnos,hgok,hdok⟩:=key;refine⟨g,?_⟩;have hnew:(ρ++[g])[R.length]?=some g:=by rw[←hL];simp
 refine h.regroup (λj _=>j) (by simp[hL]) (Pre.append _ _) (λj r v1 h1 h2=>?_) (λj r v1 b h1 h2 h3=>?_) (λ_ _=>rfl) rfl rfl ⟨rfl,λ_=>by first|exact ai _|exact aC _⟩ rfl
 .rcases D8 h1 with k1|⟨e1,rfl⟩
  .have hjl:j<R.length:=by have:=(ac.1 k1).1;simpa using this
   have h2:ρ[j]?=some v1:=by rw[ax (by omega)]at h2;exact h2
   rw[aB]at k1;split at k1
   .rename_i hj;subst hj;split at k1
    .cases k1;rw[hρ]at h2;cases h2;exact hdok _ hnew
    .omega
   .exact(h.ok j r v1 k1 h2).mono (λ_ h=>h) (λ_ _=>rfl) (Pre.append _ _) (λ_ _=>rfl)
  .have e2:j=R.length:=by simpa using e1
   subst e2;rw[hnew]at h2;cases h2;exact hgok
 .rcases D8 h1 with k1|⟨e1,rfl⟩
  .have hjl:j<R.length:=by have:=(ac.1 k1).1;simpa using this
   have h2:ρ[j]?=some v1:=by rw[ax (by omega)]at h2;exact h2
   rw[aB]at k1;split at k1
   .rename_i hj;subst hj;split at k1
    .cases k1;exact⟨_,_,_,rfl,hi,h2,h3⟩
    .omega
   .exact⟨j,r,v1,rfl,k1,h2,h3⟩
  .have e2:j=R.length:=by simpa using e1
   subst e2;rw[hnew]at h2;cases h2;exfalso
   match g,h3,hnos with
   |.func f xs cs,h3,hnos=>
    obtain⟨k,x,k1,_,k3⟩:=h3
    match x,k3,k1 with
    |.slice (some ad) m cp,k3,k1=>exact hnos _ _ _ rfl k _ k1 ⟨_,_,_,rfl⟩
theorem Sat.deep(h:Ad0 i tys st R=some (st',R'))(hs:Sat n C (mkL st) R a w):Sat n C (mkL st') R' a w:=by
 unfold Ad0 at h;split at h
 .rename_i e size rows hi;cases hb:Nat.beq tys.length size with
  |false=>rw[hb]at h;simp at h
  |true=>rw[hb]at h;simp only[eh,ae,al]at h;obtain⟨rfl,rfl⟩:=h;obtain⟨h1,h2,S,ρ,h3,h4⟩:=hs;obtain⟨g,hI⟩:=h3.deepen hi (af hb);exact⟨h1,h2,S,ρ++[g],hI,λe he=>Ya (h4 e he) (λ_ h=>h) (Pre.append _ _)⟩
 .cases h
def Adf(i:Nat)(st:St)(R:List Res):Option (St×List Res):=
 match R[i]? with
 |some (.dsl e size g)=>match R[g]? with
  |some (.gh s2 _ rows none)=>bif Nat.beq size s2&&Nat.blt 0 size then some (st,(R.set g .non).set i (.sl e size rows)) else none
  |_=>none
 |_=>none
theorem Sat.flat(h : Adf i st R = some (st', R'))(hs : Sat n C (mkL st) R a w) : Sat n C (mkL st') R' a w := by
 unfold Adf at h;split at h
 .rename_i e size g hi;split at h
  .rename_i s2 tys rows hg;cases hb:Nat.beq size s2&&Nat.blt 0 size with
   |false=>rw[hb]at h;simp at h
   | true=>
    rw[hb]at h;simp only[eh,ae,al]at h;obtain⟨rfl,rfl⟩:=h;simp only[aa]at hb;have:=af hb.1;subst this;have hs0:0<size:=by simpa[eu]using hb.2
    obtain⟨h1,h2,S,ρ,h3,h4⟩:=hs;have hig:i≠g:=λe=>by subst e;rw[hi]at hg;cases hg
    obtain⟨v,hρi⟩:=h3.rho hi;obtain⟨u,hρg⟩:=h3.rho hg;have hF:=h3.freeze hg hρg;have hi':(R.set g .non)[i]?=some (.dsl e size g):=by rw[bz (ba hig)];exact hi
    refine⟨h1,h2,_,ρ,hF.swap0 hi' hρi (λhok=>?_) (λ_=>rfl),λe he=>Ya (h4 e he) (λ_ h=>.inl h) (Pre.refl _)⟩;rcases h3.ok i _ v hi hρi with hd|hk
    .exact .inl hd
    .refine .inr ?_;by_cases hv1:v.oneCell'=true
     .obtain⟨f,xs,cs,hg1,hgo,hform⟩:=Py h3 hi hg hρi hv1 hs0;rw[hρg]at hg1;cases hg1;rcases hform with⟨k1,k2⟩|⟨b,o,cap,vs,k1,k2,k3,k4,k5,k6⟩
      .exact .inl ⟨k1,k2⟩
      .refine .inr ⟨b,o,cap,vs,k1,.of k2,k3,k4,k5,hgo.1,λi2 row hi2 j2 d hj2=>?_⟩;obtain⟨x,hx,hc⟩:=hgo.2.2.1 i2 row hi2 j2 d hj2;refine⟨x,by rw[bg];exact k6 _ x hx,?_⟩;cases d with
       |v y=>obtain⟨rfl,hy,_⟩:=hc;exact .v _ hy
       |s r=>
        have hno:¬H7 size none (i2*size+j2):=by rintro⟨p,hp,_⟩;cases hp
        obtain⟨e2,s3,_,hsl⟩:=hc.2 hno;have hfr:=Res.ok0.frozen (ρ:=ρ) (show (Res.sl e2 s3 r).ok0 S w ρ x from hsl);refine hfr.mono (λb hb=>?_) (λ_ _=>rfl);rcases hb with hb|hb
        .exact .inl hb
        .exact .inr ⟨_,x,hx,hno,hb⟩
     .exfalso;obtain⟨f,xs,cs,_,hk⟩:=hk;rcases hk with⟨rfl,_⟩|⟨b,o,len,cap,vs,rfl,_⟩ <;> exact hv1 rfl
  .cases h
 .cases h
def qR(t:Nat)(st:St)(R:List Res):Option (St×List Res):=
 match Ds (mkL st) t with
 | some en=>match en.v with
  |.d (.osb i lo m sz)=>match R[i]? with
   |some (.sl e s rows)=>bif Nat.beq sz s then some (Pl t (.d (.os R.length)) st,R.set i .non++[.sl e s ((rows.drop lo).take m)]) else none
   |_=>none
  |_=>none
 |none=>none
theorem R7{t:Nat}{v:AV}:∀{st:St}{e:Ent},e∈mkL (Pl t v st)->(e.t=t/\e.p=[]/\e.v=v)\/(e∈mkL st/\e.t≠t)
 | [],e,h=>by cases h
 | (u, x) :: r, e, h => by
  unfold Pl at h;cases hb:Nat.beq u t with
  | true=>
   rw[hb]at h;simp only[eh,mkL,ah]at h;rcases h with rfl|h
   .exact .inl ⟨af hb,rfl,rfl⟩
   .rcases R7 h with h|⟨h,h'⟩
    .exact .inl h
    .exact .inr ⟨am _ h,h'⟩
  | false=>
   rw[hb]at h;simp only[eg,mkL,ah]at h;rcases h with rfl|h
   .refine .inr ⟨an,λe=>?_⟩;simp only at e;subst e;simp at hb
   .rcases R7 h with h|⟨h,h'⟩
    .exact .inl h
    .exact .inr ⟨am _ h,h'⟩
theorem Sat.trunc(h : qR t st R = some (st', R'))(hs : Sat n C (mkL st) R a w) : Sat n C (mkL st') R' a w := by
 unfold qR at h;split at h
 .rename_i en hen;split at h
  .rename_i i lo m sz hev;split at h
   .rename_i e s rows hi;cases hb:Nat.beq sz s with
    |false=>rw[hb]at h;simp at h
    | true=>
     rw[hb]at h;simp only[eh,ae,al]at h;obtain⟨rfl,rfl⟩:=h;have:=af hb;subst this;obtain⟨h1,h2,S,ρ,h3,h4⟩:=hs;obtain⟨hmem,ht⟩:=C5 hen;obtain⟨v,hv,hr⟩:=(h4 en hmem).1 (by rw[Cu hmem];exact Bz);rw[hev]at hr;have hr':=hr.d_inv;cases hr' with
     | @osb _ _ _ _ q ad len cap hρ hl hc hq hq2=>
      have hfootsub:∀k,(Res.sl e sz ((rows.drop lo).take m)).foot (.slice (ad.map (·.add q)) m (cap-lo)) k->(Res.sl e sz rows).foot (.slice ad len cap) k:=λk hk=>by
       cases ad with
       |none=>exact hk
       |some ad=>exact(Dh ad q).symm.trans hk
      have hI:=h3.move (w':=w) (r':=.sl e sz ((rows.drop lo).take m)) (v':=.slice (ad.map (·.add q)) m (cap-lo)) hi hρ (λ_ _ _=>rfl) (ai _) rfl ⟨rfl,λ_=>by first|exact ai _|exact aC _⟩ rfl (λk hk=>.inl (hfootsub k hk)) (by
       refine .inr ?_;rcases(h3.ok i _ _ hi hρ).live rfl with⟨k1,k2⟩|⟨b,o,cp,vs,k1,k2,k3,k4,k5,k6,k7⟩
       .cases k1;subst k2;have:m=0:=by omega
        subst this;have:lo=0:=by omega
        subst this;exact .inl ⟨rfl,by simp⟩
       .cases k1;have hml:((rows.drop lo).take m).length=m:=by rw[aN,bJ];omega
        have hfit:o+q+(cap-lo)*sz<=vs.size:=by
         rcases aR lo cap with g|g
         .rw[hq2 g,bg,←az,Nat.add_sub_cancel' (Nat.le_of_lt g)];exact k5
         .have e0:lo=cap:=Nat.le_antisymm hc g;subst e0;rw[Nat.sub_self,Nat.zero_mul];omega
        refine .inr ⟨b,o+q,cap-lo,vs,by rw[hml];show Value.slice (some (Addr.add ⟨b,o,none⟩ q)) _ _=_;rw[Cn],k2,by rw[hml];omega,by omega,hfit,λrow hr=>k6 row (cx (bc hr)),λi2 row hi2 j d hj=>?_⟩;grind)
      have hnew:(ρ++[Value.slice (ad.map (·.add q)) m (cap-lo)])[R.length]?=some (.slice (ad.map (·.add q)) m (cap-lo)):=by rw[←h3.len];simp
      refine⟨h1,h2,S,_,hI,λx hx=>?_⟩;rcases R7 hx with⟨g1,g2,g3⟩|⟨g1,_⟩
      .exact⟨λ_=>⟨_,by rw[g1,←ht];exact hv,by rw[g3];exact .d (.os hnew rfl)⟩,λhn=>absurd (by rw[g2];exact Bz) hn⟩
      .exact Ya (h4 x g1) (λ_ h=>h) (Pre.append _ _)
   .cases h
  .cases h
 .cases h
theorem _root_.Go.SL.CallOk.frz(i:Nat)(h:CallOk P f args R res R2)(hi:R2[i]?=some (.sl e size rows)) :
  CallOk P f args R (res.frz i size rows) ((R2.set i .non).map (Res.frz i size rows)):=by
 intro S w ρ vs hs hv;refine Calls.mono (h S w ρ vs hs hv) λe w' hp=>?_;obtain⟨v,S',ρ',rfl,hr,hI⟩:=hp;obtain⟨S2,_,hI2,ha⟩:=hI.frz hi;grind
def D.own:D->Bool
 |.p (.v _)=>true
 |.os _=>true
 |.o _ _=>true
 |_=>false
mutual
def AV.own:AV->Bool
 |.d x=>x.own
 |.agg ds=>ds.all D.own
 |.tup l=>dG l
def dG:List AV->Bool
 | []=>true
 |a::r=>a.own&&dG r
end
def Wy:Res->Prop
 |.sl _ _ rows=>∀row,row∈rows->∀d,d∈row->∃v,d=.v v
 |.box _ cells=>cells.all D.own=true
 |.non=>True
 |_=>False
def Rl:List Res->Prop
 | []=>True
 |r::l=>Wy r/\Rl l
def Pd.isV:Pd->Bool
 |.v _=>true
 |_=>false
theorem Bh{enc:α->List Pd}(h:∀x,(enc x).all Pd.isV=true){z:Nat}{l:List α}:Wy (.sl e z (l.map enc)):=by
 intro row hr d hd;obtain⟨x,_,rfl⟩:=aA.1 hr;have:=(aD.1 (h x)) d hd;cases d with
 |v y=>exact⟨y,rfl⟩
 |s r=>cases this
theorem Rl.get:∀{l:List Res}{j:Nat}{r:Res},Rl l->l[j]?=some r->Wy r
 | [],j,r,_,h=>by simp at h
 |a::l,0,r,hf,h=>by simp at h;subst h;exact hf.1
 |a::l,j+1,r,hf,h=>by simp at h;exact Rl.get hf.2 h
theorem Rd.own_mv{d d':D}(h:Rd S w ρ x d)(ho:d.own=true)(he:d.ren (λj=>some (k+j))=some d')(hρ:∀(j:Nat) v,ρ[j]?=some v->ρ2[k+j]?=some v):Rd S' w' ρ2 x d':=by
 cases d with
 | p y=>
  cases y with
  |v z=>simp[D.ren]at he;subst he;have hp:=h.p_inv;cases hp with|v _ h1=>exact .p (.v _ h1)
  |s r=>cases ho
 |os i=>simp[D.ren]at he;subst he;exact .os (hρ _ _ h.os_inv) h.one
 |o i off=>simp[D.ren]at he;subst he;obtain⟨b,rfl,h2⟩:=h.o_inv;exact .o (hρ _ _ h2)
 |_=>cases ho
theorem RdA.own_mv(hρ:∀(j:Nat) v,ρ[j]?=some v->ρ2[k+j]?=some v)(h:RdA S w ρ x d):d.own=true->∀d',d.ren (λj=>some (k+j))=some d'->RdA S' w' ρ2 x d':=by
 induction h with
 | d h=>
  intro ho d' he;simp only[AV.ren]at he;split at he
  .rename_i y hy;simp at he;subst he;exact .d (h.own_mv ho hy hρ)
  .cases he
 | agg h=>
  intro ho d' he;simp only[AV.ren]at he;split at he
  .rename_i es hes;simp at he;subst he;obtain⟨g1,g2⟩:=Lp hes;refine .agg (da (by rw[h.length,g1]) λj x d hx hd=>?_);obtain⟨d0,k1,k2⟩:=g2 j d hd;exact(h.both hx k1).own_mv ((aD.1 ho) _ (ag k1)) k2 hρ
  .cases he
 | tup hl h ih=>
  intro ho d' he;simp only[AV.ren]at he;split at he
  .rename_i m hm;simp at he;subst he;obtain⟨g1,g2⟩:=N1 hm;refine .tup (by rw[hl,g1]) λj x a hx ha=>?_;obtain⟨a0,k1,k2⟩:=g2 j a ha;have hoj:∀{l:List AV},dG l=true->∀{j:Nat}{a:AV},l[j]?=some a->a.own=true:=by
    intro l;induction l with
    |nil=>intro _ j a h;simp at h
    |cons b l ih=>intro ho j a h;simp only[dG,aa]at ho;grind
   exact ih j x a0 hx k1 (hoj ho k1) a k2
  .cases he
def _root_.Go.SL.frzAll:ey->AV->List Res->Option (AV×List Res)
 | [],res,R2=>some (res,R2)
 |i::is,res,R2=>match R2[i]? with
  |some (.sl _ size rows)=>Go.SL.frzAll is (res.frz i size rows) ((R2.set i .non).map (Res.frz i size rows))
  |_=>none
theorem _root_.Go.SL.CallOk.frzAll:∀(is:ey){res res':AV}{R2 R2':List Res}(_:CallOk P f args R res R2)(_:Go.SL.frzAll is res R2=some (res',R2')),CallOk P f args R res' R2'
 | [],_,_,_,_,h,hq=>by simp only[Go.SL.frzAll,ae,al]at hq;obtain⟨rfl,rfl⟩:=hq;exact h
 | i::is,_,_,_,_,h,hq=>by
  simp only[Go.SL.frzAll]at hq;split at hq
  .rename_i e size rows hi;exact CallOk.frzAll is (h.frz i hi) hq
  .cases hq
theorem _root_.Go.SL.CallOk.lend{res':AV}(h:CallOk P f args' [] res R2)(hv:AV.viewL R [] args=some args':=by kernel_rfl)(ho:(oisL args).isEmpty=true:=by kernel_rfl)(hres:res.own=true:=by kernel_rfl)(hR:Rl R2:=by repeat first|exact trivial|refine ⟨Bh (λ_=>rfl),?_⟩)
  (e1:res.ren (λj=>some (R.length+j))=some res':=by kernel_rfl)(e2:Ht (λj=>some (R.length+j)) R2=some R2':=by kernel_rfl):CallOk P f args R res' (R++R2'):=by
 intro S w ρ vs hs hvs;have hI:=hs.inv;have hno:∀b,¬Ei [] [] b:=by rintro b ⟨i,r,h,h1,_⟩;simp at h1
 have hst:Start (I3 S ρ R) w [] []:=⟨rfl,by simp,by simp,by simp,λb hb=>by
  rcases hb with hb|⟨i,r,h,h1,h2,h3⟩
  .exact(hI.sup b hb).1
  .exact(hI.own i r h b h1 h2 h3).2.1,hI.glOk.mono (λ_ h=>.inl h) λ_ _=>rfl⟩
 have hargs:=Tz hI hvs (λg k s tys rows hm=>by rw[bu.1 ho]at hm;cases hm) hv;refine(h _ w [] vs hst hargs).mono λe w' hp=>?_;obtain⟨v,S1,ρ1,rfl,hr,hq⟩:=hp;have hsame:∀b,b<w.heap.size->w'.heap[b]?=w.heap[b]?:=λb hb=>hq.frm b hb (hno b);have hL:ρ.length=R.length:=hs.len;have hρ1:∀(j:Nat) u,ρ1[j]?=some u->(ρ++ρ1)[R.length+j]?=some u:=λj u hj=>by rw[aK (by omega),hL,show R.length+j-R.length=j from by omega];exact hj
 obtain⟨m1,m2⟩:=Jc e2;have foot_ren:∀{r r':Res}{u:Value}{b:Nat},Wy r->r.ren (λj=>some (R.length+j))=some r'->(r'.foot u b↔r.foot u b):=by
  intro r r' u b hf he;cases r with
  |box t cells=>
   simp only[Res.ren]at he;split at he
   .simp at he;subst he;rfl
   .cases he
  |sl e s rows=>simp[Res.ren]at he;subst he;rfl
  |non=>simp[Res.ren]at he;subst he;rfl
  |_=>exact hf.elim
 have key:∀(i:Nat) r u,(R++R2')[i]?=some r->(ρ++ρ1)[i]?=some u->(R[i]?=some r/\ρ[i]?=some u/\i<R.length)\/∃j r0,i=R.length+j/\R2[j]?=some r0/\r0.ren (λj=>some (R.length+j))=some r/\ρ1[j]?=some u:=by
  intro i r u h1 h2;rcases aR i R.length with hi|hi
  .rw[ax hi]at h1;rw[ax (by omega)]at h2;exact .inl ⟨h1,h2,hi⟩
  .rw[aK hi]at h1;rw[aK (by omega),hL]at h2;obtain⟨r0,g1,g2⟩:=m2 _ r h1;exact .inr ⟨i-R.length,r0,by omega,g1,g2,h2⟩
 have hsub:∀b,I3 S ρ R b->S1 b:=hq.sub;refine⟨v,S,ρ++ρ1,rfl,hr.own_mv hρ1 hres res' e1,⟨?_,?_,?_,?_,λ_ h=>h,?_,?_,hq.size,hq.os,hq.tape,hq.output,Pre.append _ _,hI.gl⟩⟩
 .rw[aP,aP,hL,m1,←hq.len]
 .intro i r u h1 h2;rcases key i r u h1 h2 with⟨g1,g2,_⟩|⟨j,r0,rfl,g1,g2,g3⟩
  .exact(hI.ok i r u g1 g2).mono (λ_ h=>h) (λb hb=>hsame b (hI.sup b hb).1) (Pre.append _ _) (λb hb=>hsame b (hI.own i r u b g1 g2 hb).2.1)
  .have hf:=hR.get g1;rcases hq.ok j r0 u g1 g3 with hd|hk
   .exact .inl hd
   .refine .inr ?_;cases r0 with
    | box t cells=>
     simp only[Res.ren]at g2;split at g2
     .rename_i cs hcs;simp at g2;subst g2;obtain⟨b,vs2,rfl,hb,hc⟩:=hk;obtain⟨q1,q2⟩:=Lp hcs;refine⟨b,vs2,rfl,hb,da (by rw[hc.length,q1]) λi x d hx hd=>?_⟩;obtain⟨d0,p1,p2⟩:=q2 i d hd;exact(hc.both hx p1).own_mv ((aD.1 hf) _ (ag p1)) p2 hρ1
     .cases g2
    | sl e s rows=>
     simp[Res.ren]at g2;subst g2;rcases hk with h0|⟨b,o,cap,vs2,rfl,hb,k1,k2,k3,k4,k5⟩
     .exact .inl h0
     .refine .inr ⟨b,o,cap,vs2,rfl,hb,k1,k2,k3,k4,λi row hi j d hj=>?_⟩;obtain⟨x,hx,hr⟩:=k5 i row hi j d hj;obtain⟨y,rfl⟩:=hf row (ag hi) d (ag hj);cases hr with|v _ h1=>exact⟨_,hx,.v _ h1⟩
    |non=>simp[Res.ren]at g2;subst g2;trivial
    |_=>exact hf.elim
 .intro i j r r' u u' b hij h1 h2 h3 h4 h5 h6;rcases key i r u h1 h3 with⟨g1,g2,g3⟩|⟨i0,r0,rfl,g1,g2,g3⟩ <;> rcases key j r' u' h2 h4 with⟨k1,k2,k3⟩|⟨j0,q0,rfl,k1,k2,k3⟩
  .exact hI.dis i j r r' u u' b hij g1 k1 g2 k2 h5 h6
  .rw[foot_ren (hR.get k1) k2]at h6;exact(hq.own j0 q0 u' b k1 k3 h6).1 (hsub b (.inr ⟨i,r,u,g1,g2,h5⟩))
  .rw[foot_ren (hR.get g1) g2]at h5;exact(hq.own i0 r0 u b g1 g3 h5).1 (hsub b (.inr ⟨j,r',u',k1,k2,h6⟩))
  .rw[foot_ren (hR.get g1) g2]at h5;rw[foot_ren (hR.get k1) k2]at h6;exact hq.dis i0 j0 r0 q0 u u' b (λe=>hij (by rw[e])) g1 k1 g3 k3 h5 h6
 .intro i r u b h1 h2 h3;rcases key i r u h1 h2 with⟨g1,g2,g3⟩|⟨i0,r0,rfl,g1,g2,g3⟩
  .obtain⟨o1,o2,o3⟩:=hI.own i r u b g1 g2 h3;exact⟨o1,aE o2 hq.size,o3⟩
  .rw[foot_ren (hR.get g1) g2]at h3;obtain⟨o1,o2,o3⟩:=hq.own i0 r0 u b g1 g3 h3;refine⟨λhb=>o1 (hsub b (.inl hb)),o2,?_⟩;rcases o3 with o3|o3
   .exact absurd o3 (hno b)
   .exact .inr o3
 .intro b hb;exact⟨aE (hI.sup b hb).1 hq.size,.inl hb⟩
 .intro b hb _;exact hsame b hb
end
end Go.SL
namespace Go.SL
variable{σ τ:Type}{res:AV}{ops:Array Oper}{b draw:Bool}{C0:Ctx}{fn:Func}{f:FuncId}{bs:List (Bool×Bool)}{rows:List (List Pd)}{cls cs:List Cl}{R2 fl:List Res}{i id:Nat}
inductive It where
 |c (x:Code)
 |b (id:Nat)
 |k (K:Act->World->Prop)
 |l (x:Code) (m:Nat)
def Qs(ro:Option Nat)(P:Program):List It->(Exit->Act->World->Prop)->Exit->Act->World->Prop
 | [],Q=>Q
 |.c x::l,Q=>Exit.then (x.wpIn (FR ro) 0 P (Qs ro P l Q)) (Qs ro P l Q)
 |.b id::l,Q=>Exit.inBlock id (Qs ro P l Q)
 |.k K::l,Q=>Exit.then K (Qs ro P l Q)
 |.l x m::l,Q=>Exit.then (Code.roundsIn (FR ro) 0 P x (Qs ro P l Q) m) (Qs ro P l Q)
def WI(ro:Option Nat)(P:Program)(n:Nat)(C:Ctx)(Q:Exit->Act->World->Prop)(l:List It)(st:St)(R:List Res):Prop:=
 ∀a w,Sat n C (mkL st) R a w->Qs ro P l Q .normal a w
def unw(id:Nat):List It->Option (List It)
 | []=>none
 |.c _::l=>unw id l
 |.k _::l=>unw id l
 |.l _ _::l=>unw id l
 |.b id'::l=>bif Nat.beq id' id then some l else unw id l
inductive All where
 |ret
 |stop
def Sj(lv:ey):List Ent->List Ent
 | []=>[]
 |e::r=>bif e.p.isEmpty&&(lv.isEmpty || Hc lv e.t)then e::Sj lv r else Sj lv r
def Wn(o:Oper):Bool:=
 match o.op with
 |.alloc _=>true
 |.makeSlice ..=>true
 |_=>false
def A5o(ops:Array Oper):List Cl->Option (List Res)
 |.flts l::_=>bif ops.toList.any Wn then some l else none
 |_=>none
def Ajc(P:Program)(n:Nat)(ops:Array Oper)(draw:Bool)(L:List Ent)(R:List Res)(cls:List Cl)(lv:ey):Option (List Ent×List Res×List Cl):=
 match draw with
 |false=>match Pw P n ops (List.range ops.size) L R cls with
  |some (L',R',cs)=>some (Sj lv L',R',cs)
  |none=>none
 | true=>match A5o ops cls with
  |some fl=>match P7 P n ops (List.range ops.size) L (R++fl) cls.tail with
   |some (rs,L',R',cs)=>bif Lg ops L rs&&L4 R.length (R.length+fl.length) rs then some (Sj lv L',R',.flts fl::cs) else none
   |none=>none
  |none=>match P7 P n ops (List.range ops.size) L R cls with
   |some (rs,L',R',cs)=>bif Lg ops L rs&&L4 0 0 rs then some (Sj lv L',R',cs) else none
   |none=>none
def Zf(L:List Ent)(c:Operand):Option Bool:=
 match c with
 |.const (.bool b)=>some b
 |.tmp t=>match Ds L t with
  |some e=>bif e.p.isEmpty then Mn e.v else none
  |none=>none
 |_=>none
def Atc:Code->Bool
 |.loop _=>true
 |_=>false
def Gz(P : Program)(n : Nat)(lv : ey) : Nat -> List It -> List Ent -> List Res -> eB -> List Cl -> Option (All × List Ent × List Res × List Cl × List (Bool × Bool))
 |0,_,L,R,_,_=>some (.stop,L,R,[],[])
 | fuel+1,items,L,R,ds,cls=>match items with
  | []=>some (.stop,L,R,[],[])
  |.k _::_=>some (.stop,L,R,[],[])
  |.b _::l=>Gz P n lv fuel l L R ds cls
  |.l x m::l=>match m with
   |0=>none
   |m+1=>Gz P n lv fuel (.c x :: .l x m::l) L R ds cls
  | .c x::l=>match x with
   |.skip=>Gz P n lv fuel l L R ds cls
   |.seq a b=>Gz P n lv fuel (.c a :: .c b::l) L R ds cls
   | .region _ ops draw=>match Ajc P n ops draw L R cls lv with
    |some (L',R',cs)=>match Gz P n lv fuel l L' R' ds (cls.drop cs.length) with
     |some (lf,L2,R2,cs2,bs)=>some (lf,L2,R2,cs++cs2,bs)
     |none=>none
    |none=>none
   | .cond c x y=>match ds with
    | []=>some (.stop,L,R,[],[])
    | d::ds=>match Zf L c with
     |some b=>match Gz P n lv fuel ((match d with|true=>.c x|false=>.c y)::l) L R ds cls with
      |some (lf,L2,R2,cs2,bs)=>some (lf,L2,R2,cs2,(b,d)::bs)
      |none=>none
     |none=>none
   |.block id c=>match Atc c,ds with
    |true,[]=>some (.stop,L,R,[],[])
    |true,_::ds=>Gz P n lv fuel (.c c :: .b id::l) L R ds cls
    |false,ds=>Gz P n lv fuel (.c c :: .b id::l) L R ds cls
   |.exit id=>match unw id l with
    |some l'=>Gz P n lv fuel l' L R ds cls
    |none=>none
   |.ret=>some (.ret,L,R,[],[])
   |.loop x=>match ds with
    | []=>some (.stop,L,R,[],[])
    |_::ds=>Gz P n lv fuel (.c x :: .l x 1000::l) L R ds cls
   |_=>some (.stop,L,R,[],[])
def Ba : Nat -> List It -> eB -> List It
 |0,items,_=>items
 | fuel+1,items,ds=>match items with
  | []=>[]
  |.k K::l=>.k K::l
  |.b _::l=>Ba fuel l ds
  |.l x m::l=>match m with
   |0=>.l x 0::l
   |m+1=>Ba fuel (.c x :: .l x m::l) ds
  | .c x::l=>match x with
   |.skip=>Ba fuel l ds
   |.seq a b=>Ba fuel (.c a :: .c b::l) ds
   |.region _ _ _=>Ba fuel l ds
   |.cond c x y=>match ds with
    | []=>.c (.cond c x y)::l
    |d::ds=>Ba fuel ((match d with|true=>.c x|false=>.c y)::l) ds
   |.block id c=>match Atc c,ds with
    |true,[]=>.c (.block id c)::l
    |true,_::ds=>Ba fuel (.c c :: .b id::l) ds
    |false,ds=>Ba fuel (.c c :: .b id::l) ds
   |.exit id=>match unw id l with
    |some l'=>Ba fuel l' ds
    |none=>.c (.exit id)::l
   |.loop x=>match ds with
    | []=>.c (.loop x)::l
    |_::ds=>Ba fuel (.c x :: .l x 1000::l) ds
   |y=>.c y::l
section
variable{ro:Option Nat}{P:Program}{n:Nat}{C:Ctx}{Q:Exit->Act->World->Prop}{st st':St}{R R':List Res}{L L':List Ent}{S S':Nat->Prop}{w w':World}{ρ ρ':eA}{a:Act}{lv:ey}
theorem M_:∀{l:List It},Q .ret a w->Qs ro P l Q .ret a w
 | [],h=>h
 |.c _::l,h=>M_ (l:=l) h
 |.b _::l,h=>M_ (l:=l) h
 |.k _::l,h=>M_ (l:=l) h
 |.l _ _::l,h=>M_ (l:=l) h
theorem Qo{id:Nat}:∀{l l':List It},unw id l=some l'->Qs ro P l' Q .normal a w->Qs ro P l Q (.exit id) a w
 | [],l',h,_=>by simp[unw]at h
 |.c _::l,l',h,hq=>Qo (l:=l) h hq
 |.k _::l,l',h,hq=>Qo (l:=l) h hq
 |.l _ _::l,l',h,hq=>Qo (l:=l) h hq
 | .b id'::l,l',h,hq=>by
  simp only[unw]at h;show (if id=id' then Qs ro P l Q .normal a w else Qs ro P l Q (.exit id) a w);cases hb:Nat.beq id' id with
  |true=>rw[hb]at h;simp at h;subst h;rw[ei (af hb).symm];exact hq
  |false=>
   rw[hb]at h;simp only[eg]at h;have:¬(id=id'):=by rintro rfl;simp at hb
   rw[em this];exact Qo h hq
theorem Jf:∀{L:List Ent}{e:Ent},e∈Sj lv L->e∈L/\e.p=[]
 | [],e,h=>by cases h
 | x::r,e,h=>by
  simp only[Sj]at h;cases hb:(x.p.isEmpty&&(lv.isEmpty || Hc lv x.t)) with
  | true=>
   rw[hb]at h;simp only[eh]at h;rcases ah.1 h with rfl|h
   .simp only[aa,bu]at hb;exact⟨an,hb.1⟩
   .exact⟨am _ (Jf h).1,(Jf h).2⟩
  |false=>rw[hb]at h;simp only[eg]at h;exact⟨am _ (Jf h).1,(Jf h).2⟩
theorem Sat.drew{L:List Ent}(hs:Sat n C L R a w):Sat n C L R a w.drew:=by obtain⟨h1,h2,S,ρ,h3,h4⟩:=hs;refine⟨h1,h2,S,ρ,h3.drew,λe he=>?_⟩;obtain⟨k1,k2⟩:=h4 e he;refine⟨λhp=>?_,k2⟩;obtain⟨v,hv,hr⟩:=k1 hp;exact⟨v,hv,hr.mono (λ_ h=>h) (λ_ _=>rfl) (Pre.refl _)⟩
theorem qT{rs:List Rec}{lo hi:Nat}(hs:Sat n C L R a w)(e1:P7 P n ops (List.range ops.size) L (R++fl) cls=some (rs,L',R',cs))(hok:Da P cs)
  (hb:Lg ops L rs=true)(hr:∀i,i∈Kj rs->R.length<=i/\i<R.length+fl.length)(hfl:L4 lo hi rs=true)(hK:∀a w,Sat n C L' R' a w->Q .normal a w) :
  wpAnyIn (FR ro) 0 P .any ops Q ops.size (Array.replicate ops.size false) a w.drew:=by
 obtain⟨c1,c2⟩:=Sa e1 hok;obtain⟨h1,h2,S,ρ,h3,h4⟩:=hs.drew;have hnd:Fw (Kj rs)=true:=by unfold L4 at hfl;simp only[aa]at hfl;exact hfl.1
 have hCl:C.h.length<=ρ.length:=by
  rcases aR ρ.length C.h.length with hlt|hge
  .have:=h3.pre _ _ (ak hlt);have:=(ac.1 this).1;omega
  .exact hge
 have hF:Au4 C rs:=⟨U3 hnd,λr i hrs hfi=>by have:=(hr i (Mx hrs hfi)).1;rw[h3.len]at hCl;omega⟩;obtain⟨ρ',h5,h6,h7⟩:=h3.dummies fl;refine A60 (C:=C) c1 c2 (Alg hb) hF hK ops.size _ a _ (by simp) ?_ ?_ ⟨h1,h2,S,ρ',?_,λe he=>?_,λr i hrs hfi _=>?_⟩
 .unfold unl;refine ay (bP _ _) (by simp)
 .intro j o hj;simp only[bt,Array.getElem?_replicate]at hj;split at hj <;> simp at hj
 .have:Fc (λi=>(Array.replicate ops.size false).getD i false) (R++fl) rs=R++fl:=G3 λr _ _=>by
   simp only[bt,Array.getElem?_replicate];split <;> simp
  rw[this];exact h5
 .rcases he with⟨g1,_⟩|⟨r,_,g2,_⟩
  .obtain⟨k1,k2⟩:=h4 e g1;refine⟨λhp=>?_,k2⟩;obtain⟨v,hv,hr⟩:=k1 hp;exact⟨v,hv,hr.mono (λ_ h=>h) (λ_ _=>rfl) h6⟩
  .simp only[bt,Array.getElem?_replicate]at g2;split at g2 <;> simp at g2
 .obtain⟨m1,m2⟩:=hr i (Mx hrs hfi);exact h7 i m1 m2
theorem A1k(hm:P.follows .mixedOrders=true)(h:Ajc P n ops draw L R cls lv=some (L',R',cs))(hok:Da P cs)
  (hs:Sat n C L R a w)(hK:∀a w,Sat n C L' R' a w->Q .normal a w):(Code.region id ops draw).wpIn (FR ro) 0 P Q a w:=by
 cases draw with
 | false=>
  refine wpIn_region ?_;simp only[Ajc]at h;split at h
  .rename_i L1 R1 cs1 e1;simp at h;obtain⟨rfl,rfl,rfl⟩:=h;exact Mp (O5 e1 hok hs λa' w' h'=>hK a' w' (h'.sub λe he=>(Jf he).1))
  .cases h
 | true=>
  refine wpIn_region_any hm ?_;simp only[Ajc]at h;split at h
  .rename_i fl _;split at h
   .rename_i rs L1 R1 cs1 e1;cases hb:(Lg ops L rs&&L4 R.length (R.length+fl.length) rs) with
    |false=>rw[hb]at h;simp at h
    |true=>rw[hb]at h;simp at h;obtain⟨rfl,rfl,rfl⟩:=h;simp only[aa]at hb;refine qT (fl:=fl) hs e1 hok.2 hb.1 (λi hi=>?_) hb.2 λa' w' h'=>hK a' w' (h'.sub λe he=>(Jf he).1);have:=(aD.1 (by unfold L4 at hb;simp only[aa]at hb;exact hb.2.2)) i hi;simp only[aa]at this;exact⟨aF this.1,by have:=this.2;simpa[eu]using this⟩
   .cases h
  .split at h
   .rename_i rs L1 R1 cs1 e1;cases hb:(Lg ops L rs&&L4 0 0 rs) with
    |false=>rw[hb]at h;simp at h
    |true=>rw[hb]at h;simp at h;obtain⟨rfl,rfl,rfl⟩:=h;simp only[aa]at hb;refine qT (fl:=[]) (lo:=0) (hi:=0) hs (by simpa using e1) hok hb.1 (λi hi=>?_) hb.2 λa' w' h'=>hK a' w' (h'.sub λe he=>(Jf he).1);have:=(aD.1 (by unfold L4 at hb;simp only[aa]at hb;exact hb.2.2)) i hi;simp[eu]at this
   .cases h
theorem Su{c:Operand}(hs:Sat n C L R a w)(hc:Zf L c=some b):a.eval c=.bool b:=by
 obtain⟨_,_,S,ρ,_,h4⟩:=hs;unfold Zf at hc;split at hc
 .simp at hc;subst hc;rfl
 .rename_i t;split at hc
  .rename_i e he;cases hp:e.p.isEmpty with
   |false=>rw[hp]at hc;simp at hc
   |true=>rw[hp]at hc;simp only[eh]at hc;have:=(Sz h4 he hc).1 (by rw[bu.1 hp];exact Bz);simp[Act.eval,ef,this]
  .cases hc
 .cases hc
theorem dx:∀{l m:List Cl},Da P (l++m)->Da P l
 | [],_,_=>trivial
 |_::_,_,h=>⟨h.1,dx h.2⟩
theorem dw:∀{l m:List Cl},Da P (l++m)->Da P m
 | [],_,h=>h
 |_::l,_,h=>dw (l:=l) h.2
def Aeu(ro:Option Nat)(P:Program)(n:Nat)(C:Ctx)(Q:Exit->Act->World->Prop)(lf:All)(L:List Ent)(R:List Res)(its:List It):Prop:=
 match lf with
 |.ret=>∀a w,Sat n C L R a w->Q .ret a w
 |.stop=>∀a w,Sat n C L R a w->Qs ro P its Q .normal a w
theorem We(hm : P.follows .mixedOrders = true) : ∀{fuel : Nat}{items : List It}{L : List Ent}{R : List Res}{ds : eB}{cls : List Cl}{lf : All}{L' : List Ent}{R' : List Res}{cs : List Cl}{bs : List (Bool × Bool)}{a : Act}{w : World},
  Gz P n lv fuel items L R ds cls=some (lf,L',R',cs,bs)->Da P cs->Dd bs->Sat n C L R a w ->
  Aeu ro P n C Q lf L' R' (Ba fuel items ds)->Qs ro P items Q .normal a w:=by
 intro fuel;induction fuel with
 |zero=>intro items L R ds cls lf L' R' cs bs a w h hok hbs hs hK;simp only[Gz,ae,al]at h;obtain⟨rfl,rfl,rfl,rfl,rfl⟩:=h;simp only[Ba]at hK;exact hK a w hs
 | succ fuel ih =>
  intro items L R ds cls lf L' R' cs bs a w h hok hbs hs hK;have stop:∀{items},Ba (fuel+1) items ds=items->some (All.stop,L,R,([]:List Cl),([]:List (Bool×Bool)))=some (lf,L',R',cs,bs) ->
    Aeu ro P n C Q lf L' R' (Ba (fuel+1) items ds)->Qs ro P items Q .normal a w:=by
   intro items hsk h hK;simp only[ae,al]at h;obtain⟨rfl,rfl,rfl,rfl,rfl⟩:=h;rw[hsk]at hK;exact hK a w hs
  cases items with
  |nil=>exact stop rfl h hK
  | cons it l=>
   cases it with
   |k K=>exact stop rfl h hK
   |b id=>exact ih (items:=l) h hok hbs hs hK
   |l x m=>
    cases m with
    |zero=>simp[Gz]at h
    |succ m=>exact ih (items:=.c x :: .l x m::l) h hok hbs hs hK
   | c x =>
    cases x with
    |skip=>exact wpIn_skip (ih (items:=l) h hok hbs hs hK)
    |seq x y=>exact wpIn_seq (ih (items:=.c x :: .c y::l) h hok hbs hs hK)
    | region id ops draw=>
     simp only[Gz]at h;split at h
     .rename_i L1 R1 cs1 e1;split at h
      .rename_i lf2 L2 R2 cs2 bs2 e2;simp only[ae,al]at h;obtain⟨rfl,rfl,rfl,rfl,rfl⟩:=h;exact A1k hm e1 (dx hok) hs λa' w' hs'=>ih (items:=l) e2 (dw hok) hbs hs' hK
      .cases h
     .cases h
    | cond c x y=>
     cases ds with
     |nil=>exact stop rfl h hK
     | cons d ds=>
      simp only[Gz]at h;split at h
      .rename_i b hb;split at h
       .rename_i lf2 L2 R2 cs2 bs2 e2;simp only[ae,al]at h;obtain⟨rfl,rfl,rfl,rfl,rfl⟩:=h;have he:=Su hs hb;have hd:b=d:=hbs.1;subst hd;cases b with
        |true=>exact wpIn_cond_true he (ih (items:=.c x::l) e2 hok hbs.2 hs hK)
        |false=>exact wpIn_cond_false he (ih (items:=.c y::l) e2 hok hbs.2 hs hK)
       .cases h
      .cases h
    | block id c=>
     cases hl:Atc c with
     | true=>
      cases ds with
      |nil=>simp only[Gz,hl]at h;exact stop (by simp only[Ba,hl]) h hK
      |cons d ds=>simp only[Gz,hl]at h;simp only[Ba,hl]at hK;exact wpIn_block (ih (items:=.c c :: .b id::l) h hok hbs hs hK)
     |false=>simp only[Gz,hl]at h;simp only[Ba,hl]at hK;exact wpIn_block (ih (items:=.c c :: .b id::l) h hok hbs hs hK)
    | exit id=>
     simp only[Gz]at h;split at h
     .rename_i l' hl';have hK':Aeu ro P n C Q lf L' R' (Ba fuel l' ds):=by
       cases lf with
       |ret=>exact hK
       |stop=>intro a w h2;have:=hK a w h2;simp only[Ba,hl']at this;exact this
      exact wpIn_exit (Qo hl' (ih (items:=l') h hok hbs hs hK'))
     .cases h
    |ret=>simp only[Gz,ae,al]at h;obtain⟨rfl,rfl,rfl,rfl,rfl⟩:=h;exact wpIn_ret (M_ (l:=l) (hK a w hs))
    |loop c=>
     cases ds with
     |nil=>exact stop rfl h hK
     |cons d ds=>exact wpIn_loop_rounds 1001 (ih (items:=.c c :: .l c 1000::l) h hok hbs hs hK)
    |rangeFunc f ps x y=>exact stop rfl h hK
    |scope c=>exact stop rfl h hK
    |label c=>exact stop rfl h hK
    |goto c=>exact stop rfl h hK
    |refuse c=>exact stop rfl h hK
inductive Adj where
 |frz (i:Nat)
 |own (t e size:Nat)
 |mv (i:Nat)
 |ownb (i j e size:Nat)
 |ownt (t j e size:Nat)
 |deep (i:Nat) (tys:List (TypeId×Nat))
 |flat (i:Nat)
 |trunc (t:Nat)
 |emp (i:Nat)
 |vsl (i:Nat)
 |bx (i:Nat)
def Cy:List Adj->St->List Res->Option (St×List Res)
 | [],st,R=>some (st,R)
 |.frz i::l,st,R=>match Aj9 i st R with
  |some (st',R')=>Cy l st' R'
  |none=>none
 |.own t e s::l,st,R=>match Ajh t e s st R with
  |some (st',R')=>Cy l st' R'
  |none=>none
 |.mv i::l,st,R=>match As2 i st R with
  |some (st',R')=>Cy l st' R'
  |none=>none
 |.ownb i j e s::l,st,R=>match Acd i j e s st R with
  |some (st',R')=>Cy l st' R'
  |none=>none
 |.ownt t j e s::l,st,R=>match Acc t j e s st R with
  |some (st',R')=>Cy l st' R'
  |none=>none
 |.deep i tys::l,st,R=>match Ad0 i tys st R with
  |some (st',R')=>Cy l st' R'
  |none=>none
 |.flat i::l,st,R=>match Adf i st R with
  |some (st',R')=>Cy l st' R'
  |none=>none
 |.trunc t::l,st,R=>match qR t st R with
  |some (st',R')=>Cy l st' R'
  |none=>none
 |.emp i::l,st,R=>match Akl i st R with
  |some (st',R')=>Cy l st' R'
  |none=>none
 |.vsl i::l,st,R=>match Ai3 i st R with
  |some (st',R')=>Cy l st' R'
  |none=>none
 |.bx i::l,st,R=>match Aum i st R with
  |some (st',R')=>Cy l st' R'
  |none=>none
theorem Sat.adj:∀{l:List Adj}{st:St}{R:List Res}{st':St}{R':List Res},Cy l st R=some (st',R')->Sat n C (mkL st) R a w->Sat n C (mkL st') R' a w
 | [],st,R,st',R',h,hs=>by simp only[Cy,ae,al]at h;obtain⟨rfl,rfl⟩:=h;exact hs
 | .frz i::l,st,R,st',R',h,hs=>by
  simp only[Cy]at h;split at h
  .rename_i s1 R1 e1;exact Sat.adj h (hs.frz e1)
  .cases h
 | .own t e s::l,st,R,st',R',h,hs=>by
  simp only[Cy]at h;split at h
  .rename_i s1 R1 e1;exact Sat.adj h (hs.own e1)
  .cases h
 | .mv i::l,st,R,st',R',h,hs=>by
  simp only[Cy]at h;split at h
  .rename_i s1 R1 e1;exact Sat.adj h (hs.mv e1)
  .cases h
 | .ownb i j e s::l,st,R,st',R',h,hs=>by
  simp only[Cy]at h;split at h
  .rename_i s1 R1 e1;exact Sat.adj h (hs.ownb e1)
  .cases h
 | .ownt t j e s::l,st,R,st',R',h,hs=>by
  simp only[Cy]at h;split at h
  .rename_i s1 R1 e1;exact Sat.adj h (hs.ownt e1)
  .cases h
 | .deep i tys::l,st,R,st',R',h,hs=>by
  simp only[Cy]at h;split at h
  .rename_i s1 R1 e1;exact Sat.adj h (hs.deep e1)
  .cases h
 | .flat i::l,st,R,st',R',h,hs=>by
  simp only[Cy]at h;split at h
  .rename_i s1 R1 e1;exact Sat.adj h (hs.flat e1)
  .cases h
 | .trunc t::l,st,R,st',R',h,hs=>by
  simp only[Cy]at h;split at h
  .rename_i s1 R1 e1;exact Sat.adj h (hs.trunc e1)
  .cases h
 | .emp i::l,st,R,st',R',h,hs=>by
  simp only[Cy]at h;split at h
  .rename_i s1 R1 e1;exact Sat.adj h (hs.emp e1)
  .cases h
 | .vsl i::l,st,R,st',R',h,hs=>by
  simp only[Cy]at h;split at h
  .rename_i s1 R1 e1;exact Sat.adj h (hs.vsl e1)
  .cases h
 | .bx i::l,st,R,st',R',h,hs=>by
  simp only[Cy]at h;split at h
  .rename_i s1 R1 e1;exact Sat.adj h (hs.bx e1)
  .cases h
def J7:List Ent->St
 | []=>[]
 |e::r=>bif e.p.isEmpty then (e.t,e.v)::J7 r else J7 r
theorem Gu:∀{L:List Ent}{e:Ent},e∈mkL (J7 L)->e∈L
 | [],e,h=>by cases h
 | x :: r, e, h => by
  simp only[J7]at h;cases hb:x.p.isEmpty with
  | true=>
   rw[hb]at h;simp only[eh]at h;rcases ah.1 h with rfl|h
   .have:(⟨x.t,[],x.v⟩:Ent)=x:=by
     obtain⟨xt,xp,xv⟩:=x;simp at hb ⊢;exact hb
    rw[this];exact an
   .exact am _ (Gu h)
  |false=>rw[hb]at h;exact am _ (Gu h)
def K2(P:Program)(n:Nat)(lv:ey)(fuel:Nat)(items:List It)(st:St)(R:List Res)(ds:eB)(cls:List Cl)(adj:List Adj)(results:List ResultVar)(k:Nat)(pi:ey):Option (AV×List Res×List Cl×List (Bool×Bool)):=
 match Gz P n lv fuel items (mkL st) R ds cls with
 | some (.ret,L,R1,cs,bs)=>match Cy adj (J7 L) R1 with
  |some (st2,R2)=>match Ol P results k pi st2 R2 with
   |some (v,R3)=>some (v,R3,cs,bs)
   |none=>none
  |none=>none
 |_=>none
def B7(P:Program)(n:Nat)(lv:ey)(fuel:Nat)(items:List It)(st:St)(R:List Res)(ds:eB)(cls:List Cl)(adj:List Adj)(k:Nat)(pi ts:ey):Option (St×List Res×List Cl×List (Bool×Bool)):=
 match Gz P n lv fuel items (mkL st) R ds cls with
 | some (.stop,L,R1,cs,bs)=>match Cy adj (J7 L) R1 with
  |some (st2,R2)=>match Xy k pi ts st2 R2 with
   |some (st3,R3)=>some (st3,R3,cs,bs)
   |none=>none
  |none=>none
 |_=>none
variable{items:List It}
theorem Rh(hm:P.follows .mixedOrders=true)(lv:ey)(fuel:Nat)(ds:eB)(cls:List Cl)(adj:List Adj)(results:List ResultVar)(k:Nat)(pi:ey) 
  (hf:fn.results.toList=results)(hk:C.h.length<=k)(hok:Da P cls)(hbs:Dd bs)(h:K2 P n lv fuel items st R ds cls adj results k pi=some (res,R2,cls,bs))(hup:Up C0 C):WI ro P n C (Ks P fn C0 res R2) items st R:=by
 intro a w hs;unfold K2 at h;split at h
 .rename_i L R1 cs bs1 e1;split at h
  .rename_i st2 R3 e2;split at h
   .rename_i v R4 e3;simp only[ae,al]at h;obtain⟨rfl,rfl,rfl,rfl⟩:=h;exact We hm e1 hok hbs hs λa' w' hs'=>((hs'.sub λe he=>Gu he).adj e2).post hup hf hk e3
   .cases h
  .cases h
 .cases h
def Ctx.z(C:Ctx):Ctx:={C with df:=[]}
theorem Ri(hm:P.follows .mixedOrders=true)(lv:ey)(fuel:Nat)(ds:eB)(cls:List Cl)(adj:List Adj)(results:List ResultVar)(k:Nat)(pi:ey) 
  (hf:fn.results.toList=results)(hk:C.h.length<=k)(hok:Da P cls)(hbs:Dd bs)(h:K2 P n lv fuel items st R ds cls adj results k pi=some (res,R2,cls,bs)):WI ro P n C.z (Ks P fn C.z res R2) items st R:=
 Rh (C:=C.z) hm lv fuel ds cls adj results k pi hf hk hok hbs h (dp rfl)
def Ua(P:Program)(n:Nat)(lv:ey)(fuel:Nat)(items:List It)(st:St)(R:List Res)(ds:eB)(cls:List Cl)(adj:List Adj)(results:List ResultVar)(k:Nat)(pi:ey):Option (AV×List Res×List Cl×List (Bool×Bool)):=
 match Gz P n lv fuel items (mkL st) R ds cls with
 | some (.stop,L,R1,cs,bs)=>match Cy adj (J7 L) R1 with
  |some (st2,R2)=>match Ol P results k pi st2 R2 with
   |some (v,R3)=>some (v,R3,cs,bs)
   |none=>none
  |none=>none
 |_=>none
def Ajl:List It->Bool
 | []=>true
 |_=>false
theorem Ahx(hm:P.follows .mixedOrders=true)(lv:ey)(fuel:Nat)(ds:eB)(cls:List Cl)(adj:List Adj)(results:List ResultVar)(k:Nat)(pi:ey) 
  (hf:fn.results.toList=results)(hk:C.h.length<=k)(hok:Da P cls)(hbs:Dd bs)(hn:Ajl (Ba fuel items ds)=true)(h:Ua P n lv fuel items st R ds cls adj results k pi=some (res,R2,cls,bs))(hup:Up C0 C):WI ro P n C (Ks P fn C0 res R2) items st R:=by
 intro a w hs;unfold Ua at h;split at h
 .rename_i L R1 cs bs1 e1;split at h
  .rename_i st2 R3 e2;split at h
   .rename_i v R4 e3;simp only[ae,al]at h;obtain⟨rfl,rfl,rfl,rfl⟩:=h;refine We hm e1 hok hbs hs λa' w' hs'=>?_;have hnil:Ba fuel items ds=[]:=by
     cases hh:Ba fuel items ds with
     |nil=>rfl
     |cons x l=>rw[hh]at hn;cases hn
    rw[hnil];exact((hs'.sub λe he=>Gu he).adj e2).post hup hf hk e3
   .cases h
  .cases h
 .cases h
theorem vK(hm:P.follows .mixedOrders=true)(lv:ey)(fuel:Nat)(ds:eB)(cls:List Cl)(adj:List Adj)(results:List ResultVar)(k:Nat)(pi:ey) 
  (hf:fn.results.toList=results)(hk:C.h.length<=k)(hok:Da P cls)(hbs:Dd bs)(hn:Ajl (Ba fuel items ds)=true)(h:Ua P n lv fuel items st R ds cls adj results k pi=some (res,R2,cls,bs)):WI ro P n C.z (Ks P fn C.z res R2) items st R:=
 Ahx (C:=C.z) hm lv fuel ds cls adj results k pi hf hk hok hbs hn h (dp rfl)
theorem Kr(hm:P.follows .mixedOrders=true)(lv:ey)(fuel:Nat)(ds:eB)(cls:List Cl)(adj:List Adj)(k:Nat)(pi ts:ey)(st':St)(R':List Res) 
  (hk:C.h.length<=k)(hok:Da P cls)(hbs:Dd bs)(h:B7 P n lv fuel items st R ds cls adj k pi ts=some (st',R',cls,bs))(hW:WI ro P n C Q (Ba fuel items ds) st' R'):WI ro P n C Q items st R:=by
 intro a w hs;unfold B7 at h;split at h
 .rename_i L R1 cs bs1 e1;split at h
  .rename_i st2 R3 e2;split at h
   .rename_i st3 R4 e3;simp only[ae,al]at h;obtain⟨rfl,rfl,rfl,rfl⟩:=h;exact We hm e1 hok hbs hs λa' w' hs'=>hW a' w' (((hs'.sub λe he=>Gu he).adj e2).re hk e3)
   .cases h
  .cases h
 .cases h
theorem Gt(hm:P.follows .mixedOrders=true)(lv:ey)(fuel:Nat)(ds:eB)(cls:List Cl)(adj:List Adj)(k:Nat)(pi:ey)(st':St)(R':List Res) 
  (hk:C.h.length<=k)(hok:Da P cls)(hbs:Dd bs)(h:B7 P n lv fuel items st R ds cls adj k pi (Hd st')=some (st',R',cls,bs))(hW:WI ro P n C Q (Ba fuel items ds) st' R'):WI ro P n C Q items st R:=Kr hm lv fuel ds cls adj k pi _ st' R' hk hok hbs h hW
def isC:List It->Bool
 |.c _::_=>true
 |_=>false
def hdC:List It->Code
 |.c x::_=>x
 |_=>.skip
def isL:List It->Bool
 |.c (.loop _)::_=>true
 |_=>false
def lpC:List It->Code
 |.c (.loop x)::_=>x
 |_=>.skip
def tlI:List It->List It
 |_::l=>l
 | []=>[]
theorem Z2(hi:isC items=true)(φ:σ->Prop)(st':σ->St)(R':σ->List Res)(h:WI ro P n C Q (.c (hdC items) :: .k (Ex n C φ st' R')::tlI items) st R)(hK:∀s,φ s->WI ro P n C Q (tlI items) (st' s) (R' s)):WI ro P n C Q items st R:=by
 match items,hi with
 | .c x::l,_=>
  intro a w hs;refine wpIn_mono (h a w hs) λe a w hq=>?_;cases e with
  |normal=>obtain⟨s,h1,h2⟩:=hq;exact hK s h1 a w h2
  |_=>exact hq
def hdK:List It->Act->World->Prop
 |.k K::_=>K
 |_=>λ_ _=>False
def isB:List It->Bool
 |.c (.block _ _)::_=>true
 |_=>false
def Aur:List It->Code
 |.c (.block _ x)::_=>x
 |_=>.skip
def Auq:List It->Nat
 |.c (.block i _)::_=>i
 |_=>0
def nqT:List It->List It
 |_::l=>l
 | []=>[]
def Bef:List It->Bool
 |.c (.cond _ _ _)::_=>true
 |_=>false
def cnO:List It->Operand
 |.c (.cond c _ _)::_=>c
 |_=>.const undef
def cnX:List It->Code
 |.c (.cond _ x _)::_=>x
 |_=>.skip
def cnY:List It->Code
 |.c (.cond _ _ y)::_=>y
 |_=>.skip
theorem Aa7(t:Nat)(hi:Bef items=true)(ho:cnO items=.tmp t)(hc:(Ds (mkL st) t).map Ent.v=some (.d (.nq rows)))
  (ht:rows=[]->WI ro P n C Q (.c (cnX items)::nqT items) st R)(hf:WI ro P n C Q (.c (cnY items)::nqT items) st R):WI ro P n C Q items st R:=by
 match items,hi with
 | .c (.cond c x y)::l,_=>
  simp only[cnO]at ho;subst ho;intro a w hs;cases he:Ds (mkL st) t with
  |none=>rw[he]at hc;cases hc
  | some e=>
   rw[he]at hc;simp only[aU,ae]at hc;obtain⟨hm,hte⟩:=C5 he;have hs2:=hs;obtain⟨_,_,S,ρ,_,h4⟩:=hs2;obtain⟨v,hv,hr⟩:=(h4 e hm).1 (by rw[Cu hm];exact Bz);rw[hc]at hr;rw[hte]at hv;have hr':=hr.d_inv;cases hr' with
   | @nq b _ h=>
    have hev:a.eval (.tmp t)=.bool b:=by simp[Act.eval,ef,hv]
    cases b with
    |true=>exact wpIn_cond_true hev (ht (h rfl) a w hs)
    |false=>exact wpIn_cond_false hev (hf a w hs)
theorem Z3(hi:isB items=true)(h:WI ro P n C Q (.c (Aur items) :: .b (Auq items)::tlI items) st R):WI ro P n C Q items st R:=by
 match items,hi with
 |.c (.block i x)::l,_=>exact λa w hs=>wpIn_block (h a w hs)
theorem A63{K:Act->World->Prop}(hi:hdK items=K)(h:∀a w,Sat n C (mkL st) R a w->K a w):WI ro P n C Q items st R:=by
 subst hi
 match items,h with
 |.k K::l,h=>exact h
 | [],h=>exact λa w hs=>(h a w hs).elim
 |.c _::_,h=>exact λa w hs=>(h a w hs).elim
 |.b _::_,h=>exact λa w hs=>(h a w hs).elim
 |.l _ _::_,h=>exact λa w hs=>(h a w hs).elim
theorem Rj{φ:σ->Prop}{st':σ->St}{R':σ->List Res}(hm:P.follows .mixedOrders=true)(lv:ey)(fuel:Nat)(ds:eB)(cls:List Cl)(adj:List Adj)(k:Nat)(pi:ey)(s:σ)
  (hk:C.h.length<=k)(hok:Da P cls)(hbs:Dd bs)(hi:hdK (Ba fuel items ds)=Ex n C φ st' R')(h:B7 P n lv fuel items st R ds cls adj k pi (Hd (st' s))=some (st' s,R' s,cls,bs))(h1:φ s):WI ro P n C Q items st R:=
 Gt hm lv fuel ds cls adj k pi (st' s) (R' s) hk hok hbs h (A63 hi λ_ _ hs=>⟨s,h1,hs⟩)
def foldI{α σ ρ:Type}(f:Nat->α->σ->Option (Ctl σ ρ)):List α->Nat->σ->Option (Ctl σ ρ)
 | [],_,s=>some (.next s)
 |x::xs,i,s=>match f i x s with
  |some (.next s')=>foldI f xs (i+1) s'
  |some (.brk s')=>some (.next s')
  |some (.ret r)=>some (.ret r)
  |none=>none
theorem Yi{α:Type}(hi:isL items=true)(f:Nat->α->σ->Option (Ctl σ τ))(stF:Nat->σ->St)(RF:Nat->σ->List Res)(r:Ctl σ τ)(xs:List α)(s:σ)(hm:foldI f xs 0 s=some r)
  (h0:st=stF 0 s)(h1:R=RF 0 s)
  (hnil:∀s,r=.next s->WI ro P n C Q (.c (lpC items) :: .k (λ_ _=>False)::tlI items) (stF xs.length s) (RF xs.length s))
  (hcons:∀i x s k,i<xs.length->xs[i]?=some x->f i x s=some k->(∀s',k=.brk s'->r=.next s')->(∀v,k=.ret v->r=.ret v) ->
   WI ro P n C Q (.c (lpC items) :: .k (Ex n C (λs'=>k=.next s') (stF (i+1)) (RF (i+1)))::tlI items) (stF i s) (RF i s)):WI ro P n C Q items st R:=by
 match items,hi with
 | .c (.loop c) :: l, _ =>
  refine Ahw (λm a w=>∃i s,i<=xs.length/\xs.length-i=m/\foldI f (xs.drop i) i s=some r/\Sat n C (mkL (stF i s)) (RF i s) a w) ⟨xs.length,λa w hs=>⟨0,s,bi _,rfl,hm,by rw[h0,h1]at hs;exact hs⟩⟩ λm a w hI=>?_;obtain⟨i,s,hle,hl,hf,hs⟩:=hI;rcases aR i xs.length with hlt|hge
  .have hd:xs.drop i=xs[i]::xs.drop (i+1):=cR hlt;rw[hd]at hf;simp only[foldI]at hf;cases hk:f i xs[i] s with
   |none=>rw[hk]at hf;cases hf
   | some k=>
    rw[hk]at hf;refine wpIn_mono (hcons i xs[i] s k hlt (ak hlt) hk ?_ ?_ a w hs) λe a' w' hq=>?_
    .intro s' e;subst e;simp only[ae]at hf;exact hf.symm
    .intro v e;subst e;simp only[ae]at hf;exact hf.symm
    .cases e with
     |normal=>obtain⟨s',e,hs'⟩:=hq;subst e;exact⟨xs.length-(i+1),by omega,i+1,s',by omega,rfl,hf,hs'⟩
     |_=>exact hq
  .have hii:i=xs.length:=Nat.le_antisymm hle hge;subst hii;rw[List.drop_length]at hf;simp only[foldI,ae]at hf;refine wpIn_mono (hnil s hf.symm a w hs) λe a' w' hq=>?_;cases e with
   |normal=>exact hq.elim
   |_=>exact hq
theorem Aep(hi:isL items=true)(f:σ->Option (Ctl σ τ))(stF:σ->St)(RF:σ->List Res)(r:Ctl σ τ)(fuel:Nat)(s:σ)(hm:whileN f fuel s=some r)
  (h0:st=stF s)(h1:R=RF s)
  (h:∀s k,f s=some k->(∀s',k=.brk s'->r=.next s')->(∀v,k=.ret v->r=.ret v) ->
   WI ro P n C Q (.c (lpC items) :: .k (Ex n C (λs'=>k=.next s') stF RF)::tlI items) (stF s) (RF s)):WI ro P n C Q items st R:=by
 match items,hi with
 |.c (.loop c)::l,_=>exact A2s (Q:=Qs ro P l Q) f stF RF r fuel s hm ⟨h0,h1⟩ λs k h1 h2 h3 a w hs=>h s k h1 h2 h3 a w hs
def cnt(c:Int):Nat->Int
 |0=>c
 |i+1=>IntKind.i64.wrap (cnt c i+1)
theorem Q9{c:Int}(h0:-9223372036854775808<=c)(h:c+i<=9223372036854775807:=by omega):cnt c i=c+i:=by
 induction i with
 |zero=>simp[cnt]
 |succ i ih=>simp only[cnt];rw[ih (by omega),IntWalk.i64_in _ (by omega)];omega
theorem Aeq(t:Nat)(h:(Ds (mkL st) t).map Ent.v=some (.d (.p (.s rows))))(hW:rows.length<=maxLen->WI ro P n C Q items st R):WI ro P n C Q items st R:=by
 intro a w hs;refine hW ?_ a w hs;obtain⟨_,_,S,ρ,h3,h4⟩:=hs;cases he:Ds (mkL st) t with
 |none=>rw[he]at h;cases h
 |some e=>rw[he]at h;simp at h;obtain⟨hm,_⟩:=C5 he;obtain⟨v,_,hr⟩:=(h4 e hm).1 (by rw[Cu hm];exact Bz);rw[h]at hr;obtain⟨a,cap,_,g1,g2⟩:=hr.d_inv.p_inv.slice_form;omega
theorem A2u{e sz:Nat}(t j:Nat)(h:(Ds (mkL st) t).map Ent.v=some (.d (.os j)))(hR:R[j]?=some (.sl e sz rows))(hW:rows.length<=maxLen->WI ro P n C Q items st R):WI ro P n C Q items st R:=by
 intro a w hs;refine hW ?_ a w hs;obtain⟨_,_,S,ρ,h3,h4⟩:=hs;cases he:Ds (mkL st) t with
 |none=>rw[he]at h;cases h
 |some e=>
  rw[he]at h;simp at h;obtain⟨hm,_⟩:=C5 he;obtain⟨v,_,hr⟩:=(h4 e hm).1 (by rw[Cu hm];exact Bz);rw[h]at hr;rcases(h3.ok j _ _ hR hr.d_inv.os_inv).live hr.d_inv.one with⟨_,h5⟩|⟨_,_,cap,_,_,_,h5,h6,_⟩
  .rw[h5];simp[maxLen]
  .omega
theorem Hu{c:Code}{args:List AV}(n:Nat)(hf:P.funcs[f]?=some fn)(hb:fn.body=some c)(hn:fn.ntmps=n)(hl:Nat.ble args.length n=true)
  (h:∀C:Ctx,C.h.length<=R.length->WI none P n C.z (Ks P fn C.z res R2) [.c c] (Tc 0 args) R):CallOk P f args R res R2:=
 Ad5 hf hb hn (aF hl) λC hd hC=>by
  have:=h C (by rw[hC];exact ai _);have e:C.z=C:=by unfold Ctx.z;cases C;simp at hd;subst hd;rfl
  rw[e]at this;exact this
theorem Ej(hf : P.funcs[f]? = some fn)(hb : fn.body.isNone = false)(hn : (fn.name == "runtime.NumGoroutine") = false) : Dl P f := λ args w => by
 have hb':fn.body≠none:=by intro e;rw[e]at hb;cases hb
 have hn' : fn.name ≠ "runtime.NumGoroutine" := by simpa using hn
 simp[callFunc,hf,hn',hb']
end
end Go.SL
namespace Go.SL
variable{res:AV}{c:Bool}{s y:ByteArray}{f:FuncId}{hi hi' lo n:Int}{l:List (Bool×Bool)}{src:List (List Pd)}{args:List AV}{B i k k' n' off:Nat}{u:Unit}
abbrev I(n:Int):D:=.p (.v (.int .i64 n))
abbrev Bo(b:Bool):D:=.p (.v (.bool b))
abbrev w64(n:Int):Int:=IntKind.i64.wrap n
variable{α:Type}
abbrev DS(f:α->List Pd)(x:List α):D:=.p (.s (x.map f))
def pI(n:Int):List Pd:=[.v (.int .i64 n)]
def pK(k:IntKind)(n:Int):List Pd:=[.v (.int k n)]
def pB(b:Bool):List Pd:=[.v (.bool b)]
def pS(s:ByteArray):List Pd:=[.v (.string s)]
def pL{α:Type}(f:α->List Pd)(l:List α):List Pd:=[.s (l.map f)]
theorem A8v{x y r:α}(hc:c=true)(h:(bif c then x else y)=r):x=r:=by subst hc;exact h
theorem A8w{x y r:α}(hc:c=false)(h:(bif c then x else y)=r):y=r:=by subst hc;exact h
theorem A83(b:Bool):b=true\/b=false:=by cases b <;> simp
def D5:List (Bool×Bool)->Bool
 | []=>true
 |(a,b)::r=>(a==b)&&D5 r
theorem Vt:∀{l:List (Bool×Bool)},Dd l->D5 l=true
 | [],_=>rfl
 |(a,b)::r,h=>by obtain⟨h1,h2⟩:=h;subst h1;simp[D5,Vt h2]
theorem Vs:∀{l:List (Bool×Bool)},D5 l=true->Dd l
 | [],_=>trivial
 |(a,b)::r,h=>by simp only[D5,aa,dQ]at h;exact⟨h.1,Vs h.2⟩
def Aw{α:Type}(l:List (Bool×Bool))(x:Option α)(d:α):Option α:=bif D5 l then x else some d
variable{x:Option α}
theorem Fo{d v:α}(h:Aw l x d=some v)(hg:¬Dd l):v=d:=by
 unfold Aw at h;cases hb:D5 l with
 |true=>exact absurd (Vs hb) hg
 |false=>rw[hb]at h;simpa using h.symm
theorem B6{d v:α}(h:Aw l x d=some v)(hg:Dd l):x=some v:=by unfold Aw at h;rw[Vt hg]at h;exact h
def getI{α:Type}(l:List α)(n:Int):Option α:=bif decide (0<=n)then l[n.toNat]? else none
def setI{α:Type}(l:List α)(n:Int)(x:α):Option (List α):=bif decide (0<=n)&&decide (n<l.length)then some (l.set n.toNat x) else none
def mkI{α:Type}(B:Nat)(n:Int)(d:α):Option (List α):=bif decide (0<=n)&&decide (n*B<=140737488355328)then some (List.replicate n.toNat d) else none
def cutI{α:Type}(l:List α)(lo hi:Int):Option (List α):=bif decide (0<=lo)&&(decide (lo<=hi)&&decide (hi<=l.length))then some ((l.take hi.toNat).drop lo.toNat) else none
def nzI(n:Int):Option Unit:=bif n==0 then none else some ()
def Zz(s:ByteArray):Option ez:=bif decide ((s.size:Int)<=140737488355328)then some (Le s) else none
def Ai4(l:ez):Option ByteArray:=bif Le ⟨(l.map λn=>UInt8.ofNat n.toNat).toArray⟩==l then some ⟨(l.map λn=>UInt8.ofNat n.toNat).toArray⟩ else none
def appI{α:Type}(B:Nat)(l m:List α):Option (List α):=bif decide ((l.length+m.length)*B<=140737488355328)then some (l++m) else none
section
variable{P:Program}{α:Type}
theorem zM{y:ez}(h:Zz s=some y):Cl.ok P (.room (s.size:Int) (Hf s) (y.map (pK .u8))):=by
 unfold Zz at h;cases hd:decide ((s.size:Int)<=140737488355328) with
 |false=>rw[hd]at h;cases h
 |true=>rw[hd]at h;simp only[eh,ae]at h;subst h;exact⟨by omega,dW hd,rfl⟩
theorem Asg{l:ez}(h:Ai4 l=some y):Cl.ok P (.strb (l.map (pK .u8)) y):=by
 unfold Ai4 at h;cases hd:(Le ⟨(l.map λn=>UInt8.ofNat n.toNat).toArray⟩==l) with
 |false=>rw[hd]at h;cases h
 |true=>
  rw[hd]at h;simp only[eh,ae]at h;subst h;have e:=eq_of_beq hd;show l.map (pK .u8)=_
  conv=>lhs;rw[←e]
  unfold Le;rw[cC];rfl
variable{l m y:List α}
theorem Gs(enc:α->List Pd)(size:Nat)(hs:∀x,(enc x).length=size)(h:appI (B+1) l m=some y):Cl.ok P (.app (l.map enc) (m.map enc) size (((l.map enc).length+(m.map enc).length)*(B+1)) (y.map enc)):=by
 unfold appI at h;cases hd:decide ((l.length+m.length)*(B+1)<=140737488355328) with
 |false=>rw[hd]at h;cases h
 |true=>rw[hd]at h;simp only[eh,ae]at h;subst h;refine⟨by rw[aq,aq];exact dW hd,λr hr=>?_,by rw[bh]⟩;obtain⟨x,_,rfl⟩:=aA.1 hr;exact hs x
theorem Aux(enc:α->List Pd)(size:Nat)(hs:∀x,(enc x).length=size)(h:appI (B+1) [] m=some y):Cl.ok P (.app [] (m.map enc) size ((m.map enc).length*(B+1)) (y.map enc)):=by have:=Gs (P:=P) enc size hs h;simpa using this
theorem Aen(enc:α->List Pd)(size:Nat)(hs:∀x,(enc x).length=size)(hsrc:src=m.map enc)(h:appI (B+1) l m=some y):Cl.ok P (.app (l.map enc) src size (((l.map enc).length+src.length)*(B+1)) (y.map enc)):=by subst hsrc;exact Gs enc size hs h
theorem Aem(enc:α->List Pd)(size:Nat)(hs:∀x,(enc x).length=size){n:Nat}(hsrc:src=m.map enc)(h:appI (B+1) (l.take n) m=some y):Cl.ok P (.app ((l.map enc).take n) src size ((((l.map enc).take n).length+src.length)*(B+1)) (y.map enc)):=by subst hsrc;rw[←cF];exact Gs enc size hs h
variable{x:α}{enc:α->List Pd}
theorem A9(h:getI l n=some x):Cl.ok P (.row (l.map enc) n (enc x)):=by
 unfold getI at h;cases hd:decide (0<=n) with
 |false=>rw[hd]at h;cases h
 |true=>rw[hd]at h;simp only[eh]at h;exact⟨dW hd,by rw[au,h];rfl⟩
theorem A4j(h:nzI n=some u):Cl.ok P (.nz n):=by unfold nzI at h;show n≠0;intro e;subst e;cases h
theorem Mw(h:(n==0)=false):Cl.ok P (.nz n):=by show n≠0;intro e;subst e;cases h
theorem Bj(h:getI l n=some x):Cl.ok P (.row (l.map enc) ((n.toNat:Nat):Int) (enc x)):=by obtain⟨h0,h1⟩:=(A9 (P:=P) (enc:=enc) h:0<=n/\(l.map enc)[n.toNat]?=some (enc x));exact⟨Int.natCast_nonneg _,by rw[aG];exact h1⟩
theorem qP{x':α}(hx:getI l n=some x)(h:setI l n x'=some y):Cl.ok P (.upd (l.map enc) n.toNat (enc x) (enc x') (y.map enc)):=by
 obtain⟨h0,h1⟩:=(A9 (P:=P) (enc:=enc) hx:0<=n/\(l.map enc)[n.toNat]?=some (enc x));refine⟨h1,?_⟩;unfold setI at h;cases hd:(decide (0<=n)&&decide (n<l.length)) with
 |false=>rw[hd]at h;cases h
 |true=>rw[hd]at h;simp at h;subst h;rw[List.map_set]
variable{d:α}
theorem F_(h:mkI (B+1) n d=some y):Cl.ok P (.room (n*(B+1)) (List.replicate n.toNat (enc d)) (y.map enc)):=by
 unfold mkI at h;cases hd:(decide (0<=n)&&decide (n*((B+1:Nat):Int)<=140737488355328)) with
 |false=>rw[hd]at h;cases h
 |true=>rw[hd]at h;simp at h;subst h;simp only[aa,dM]at hd;refine⟨Int.mul_nonneg hd.1 (by omega),by have:=hd.2;simpa using this,by simp⟩
theorem Jy(l:List α)(enc:α->List Pd):Cl.ok P (.len ((l.map enc).length:Int) (l.length:Int)):=by show ((l.map enc).length:Int)=l.length;rw[aq]
theorem Wt(enc:α->List Pd)(size:Nat)(hs:∀x,(enc x).length=size)(h:cutI l lo hi=some y):Cl.ok P (.cut (l.map enc) size lo hi (y.map enc)):=by
 unfold cutI at h;cases hd:(decide (0<=lo)&&(decide (lo<=hi)&&decide (hi<=l.length))) with
 |false=>rw[hd]at h;cases h
 |true=>rw[hd]at h;simp only[eh,ae]at h;simp only[aa,dM]at hd;subst h;refine⟨hd.1,hd.2.1,by rw[aq];exact hd.2.2,λr hr=>?_,by rw[←cF,←List.map_drop]⟩;obtain⟨x,_,rfl⟩:=aA.1 hr;exact hs x
theorem Ls(l:List α)(enc:α->List Pd)(lo n:Nat):((l.map enc).drop lo).take n=((l.drop lo).take n).map enc:=by simp
def bndI(k:Nat)(lo hi:Int):Option Unit:=bif decide (0<=lo)&&(decide (lo<=hi)&&decide (hi<=k))then some () else none
theorem Co(hk:k'=k)(hh:hi'=hi)(h:bndI k lo hi=some u):Cl.ok P (.bnd k' lo hi' hi):=by
 subst hk;subst hh;unfold bndI at h;cases hd:decide (0<=lo)&&(decide (lo<=hi')&&decide (hi'<=k')) with
 |false=>rw[hd]at h;cases h
 |true=>simp at hd;exact⟨hd.1,hd.2.1,hd.2.2,rfl⟩
def bnd3I(k:Nat)(lo hi mx:Int):Option Unit:=bif decide (0<=lo)&&(decide (lo<=hi)&&(decide (hi<=mx)&&decide (mx<=k)))then some () else none
theorem Aek{mx:Int}(hk:k'=k)(h:bnd3I k lo hi mx=some u):Cl.ok P (.bnd3 k' lo hi mx):=by
 subst hk;unfold bnd3I at h;cases hd:decide (0<=lo)&&(decide (lo<=hi)&&(decide (hi<=mx)&&decide (mx<=k'))) with
 |false=>rw[hd]at h;cases h
 |true=>simp at hd;exact⟨hd.1,hd.2.1,hd.2.2.1,hd.2.2.2⟩
def appPI{α:Type}(l:List α)(n:Nat)(m:List α):Option (List α):=bif decide (n+m.length<=l.length)then some (l.take n++(m++l.drop (n+m.length))) else none
theorem Auy(enc:α->List Pd)(size:Nat)(hs:∀x,(enc x).length=size){n:Nat}(hsrc:src=m.map enc)(h:appPI l n m=some y) :
  Cl.ok P (.appP (l.map enc) src size n (n+m.length) ((l.map enc).take n++(src++(l.map enc).drop (n+src.length))) (y.map enc)):=by
 subst hsrc;unfold appPI at h;cases hd:decide (n+m.length<=l.length) with
 |false=>rw[hd]at h;cases h
 |true=>rw[hd]at h;simp only[eh,ae]at h;subst h;simp only[dM]at hd;refine⟨⟨by simp,by simpa using hd⟩,λx hx=>?_,by simp⟩;obtain⟨z,_,rfl⟩:=aA.1 hx;exact hs z
def insI{α:Type}(B:Nat)(l:List α)(i:Int)(m:List α):Option (List α):=bif decide ((l.length+m.length)*B<=140737488355328)then some (l.take i.toNat++(m++l.drop i.toNat)) else none
def Iy{α:Type}(l:List α)(lo n:Nat)(d:α):List α:=l.take lo++(List.replicate n d++l.drop (lo+n))
theorem vD(enc:α->List Pd){lo n:Nat}(hn:n'=n):Cl.ok P (.eqr ((l.map enc).take lo++(List.replicate n' (enc d)++(l.map enc).drop (lo+n'))) ((Iy l lo n d).map enc)):=by subst hn;show _=_;simp[Iy]
def J8{α:Type}(l:List α)(lo n:Nat)(m:List α):List α:=l.take lo++(m.take (Nat.min m.length n)++l.drop (lo+Nat.min m.length n))
theorem Oc(enc:α->List Pd)(size:Nat)(hs:∀x,(enc x).length=size){lo n:Nat}(hsrc:src=m.map enc)(hn:n'=n) :
  Cl.ok P (.cpy src size n' (Nat.min m.length n) ((l.map enc).take lo++(src.take (Nat.min m.length n)++(l.map enc).drop (lo+Nat.min m.length n))) ((J8 l lo n m).map enc)):=by
 subst hsrc;subst hn;refine⟨by simp,λx hx=>?_,by simp[J8]⟩;obtain⟨z,_,rfl⟩:=aA.1 hx;exact hs z
theorem Us(h:mkI (B+1) n d=some y):Cl.ok P (.roomZ (n*(B+1)) (List.replicate n.toNat (enc d)) (y.map enc)):=F_ (P:=P) (enc:=enc) h
theorem Kq{β:Type}{enc2:β->List Pd}(size:Nat)(hs:∀x,(enc2 x).length=size){i:Int}{a m y:List β}(hx:getI l i=some x)(ho:(enc x)[off]?=some (.s (a.map enc2)))(h:appI (B+1) a m=some y) :
  Cl.ok P (.appD (l.map enc) i.toNat (enc x) off (a.map enc2) (m.map enc2) size (((a.map enc2).length+(m.map enc2).length)*(B+1)) (y.map enc2)):=by
 obtain⟨_,h1⟩:=Bj (P:=P) (enc:=enc) hx;simp only[aG]at h1;exact⟨⟨h1,ho⟩,Gs (P:=P) enc2 size hs h⟩
theorem Kl{x':α}(hx:getI l n=some x)(h:setI l n x'=some y):Cl.ok P (.updD (l.map enc) n.toNat n.toNat (enc x) (enc x') (y.map enc)):=
 ⟨rfl,qP (P:=P) (enc:=enc) hx h⟩
theorem As7(h:Dl P f/\CallOk P f args [] res [])(hx:getI l n=some x):Cl.ok P (.callB f args res (l.map enc) n.toNat (enc x)):=by obtain⟨_,h1⟩:=Bj (P:=P) (enc:=enc) hx;simp only[aG]at h1;exact⟨h,h1⟩
theorem G2(h:Dl P f/\CallOk P f args [] res []):Cl.ok P (.callB f args res [[]] 0 []):=⟨h,rfl⟩
theorem Bu(hx:l[i]?=some x)(hl:(l.map enc).length<=maxLen):Cl.ok P (.row (l.map enc) (cnt 0 i) (enc x)):=by
 have hi:i<l.length:=(ac.1 hx).1;rw[aq]at hl;have hm:maxLen=9223372036854775807:=rfl;rw[Q9 (by omega)];refine⟨by omega,?_⟩;have:((0:Int)+(i:Int)).toNat=i:=by omega
 rw[this,au,hx];rfl
theorem Bv(hx:l[i]?=some x)(hl:(l.map enc).length<=maxLen):getI l (cnt 0 i)=some x:=by
 have hi:i<l.length:=(ac.1 hx).1;rw[aq]at hl;have hm:maxLen=9223372036854775807:=rfl;rw[Q9 (by omega)];unfold getI;have h1:decide ((0:Int)<=0+(i:Int))=true:=dU (by omega);have h2:((0:Int)+(i:Int)).toNat=i:=by omega
 rw[h1,h2];exact hx
theorem Zt(hi:i<l.length)(hl:(l.map enc).length<=maxLen):decide (cnt 0 i<(l.length:Int))=true:=by rw[aq]at hl;have hm:maxLen=9223372036854775807:=rfl;rw[Q9 (by omega)];exact dU (by omega)
theorem vB(hl:(l.map enc).length<=maxLen):decide (cnt 0 l.length<(l.length:Int))=false:=by rw[aq]at hl;have hm:maxLen=9223372036854775807:=rfl;rw[Q9 (by omega)];exact decide_eq_false (by omega)
end
def Hv(zs:ez)(k:Nat):List (Int×Int):=(List.range k).map λj=>(((zs.length-1-j:Nat):Int),(zs[zs.length-1-j]?.getD 0))
def bw(zs:ez):List (Int×Int):=Hv zs zs.length
def andThen{σ τ ρ:Type}(c:Option (Ctl σ τ))(g:τ->Option ρ)(f:σ->Option ρ):Option ρ:=
 match c with
 |some (.ret v)=>g v
 |some (.next s)=>f s
 |some (.brk s)=>f s
 |none=>none
theorem Mo{σ τ ρ:Type}{c:Option (Ctl σ τ)}{g:τ->Option ρ}{f:σ->Option ρ}{r:ρ}(h:andThen c g f=some r):∃k,c=some k/\(∀v,k=.ret v->g v=some r)/\(∀s,k=.next s->f s=some r):=by
 unfold andThen at h;split at h
 .exact⟨_,rfl,λv e=>by cases e;exact h,λs e=>by cases e⟩
 .exact⟨_,rfl,λv e=>(by cases e),λs e=>by cases e;exact h⟩
 .exact⟨_,rfl,λv e=>(by cases e),λs e=>by cases e⟩
 .cases h
end Go.SL
