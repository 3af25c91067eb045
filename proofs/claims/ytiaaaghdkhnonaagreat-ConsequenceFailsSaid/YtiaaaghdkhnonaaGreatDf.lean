import Derived.Test.YtiaaaghdkhnonaaGreatDs
import Derived.Test.YtiaaaghdkhnonaaGreatDm
set_option linter.unusedVariables false
set_option linter.unusedSimpArgs false
namespace Go.Proofs.YtiaaaghdkhnonaaGreat
open Go Go.RowKit Go.SL
variable{done seen:List a_}{b c n q:Nat}{w w':World}{p:a_}
def ptB(p:a_):Bool:=(Lit.int .i64 p.Kind).wf&&(Lit.int .i64 p.Number).wf
theorem Ajr:ptB p=true↔ptW p:=by unfold ptB ptW;rw[ac]
def okF(L:List A_)(b:List a_):Bool:=b.all ptB&&L.all (λx=>ptB x.To)&&decide (b.length+L.length<=1099511627776)
def qF(FC:A5->Option Int)(FL:List a_->Option (List a_))(x0:A5)(x1:List a_):Option (List a_):=
 (FC x0).bind λe=>(FL x1).bind λy=>bif (e==0)&&okF x0.Links y then some (Er x0.Links y) else none
def inF(p:a_)(_:Nat)(x:A_)(z:List a_):Option (Ctl (List a_) Unit):=
 bif (x.From.Kind==p.Kind)&&((x.From.Number==p.Number)&&true)then (appI 17 z [x.To]).bind λy=>some (.next y) else some (.next z)
theorem Aj1(p:a_):∀(L:List A_)(i:Nat)(z:List a_),z.length+L.length<=4398046511104->foldI (inF p) L i z=some (.next (z++toP L p))
 | [],i,z,h=>by simp[foldI,toP]
 | x::L,i,z,h=>by
  simp only[bi]at h;have e:((x.From.Kind==p.Kind)&&((x.From.Number==p.Number)&&true))=Fj x.From p:=by unfold Fj;rw[bO]
  have e1:inF p i x z=bif Fj x.From p then (appI 17 z [x.To]).bind λy=>some (.next y) else some (.next z):=by unfold inF;rw[e]
  simp only[foldI];rw[e1];have ih:=Aj1 p L (i+1);unfold toP at ih ⊢;rw[aX];cases hq:Fj x.From p with
  | true=>
   have ha:appI 17 z [x.To]=some (z++[x.To]):=by unfold appI;grind
   grind
  |false=>grind
theorem Kk.kp(h:Kk w b n seen)(k:Kp w w'):Kk w' b n seen:=by obtain⟨D,⟨es,clock,h1,h2⟩,h3⟩:=h;exact⟨D,⟨es,clock,k.obj _ _ h1 rfl,h2⟩,h3⟩
theorem Kk.lt(h:Kk w b n seen):b<w.heap.size/\∃o:Obj,w.heap[b]?=some o/\o.isCells=false:=by obtain⟨D,⟨es,clock,h1,h2⟩,h3⟩:=h;exact⟨(aP.1 h1).1,_,h1,rfl⟩
theorem Nk.kp(h:Nk w b q n seen done c)(k:Kp w w'):Nk w' b q n seen done c:=by obtain⟨D,left,⟨es,clock,since,sn,c0,h1,h2,h3,h4,h5,h6⟩,h7⟩:=h;exact⟨D,left,⟨es,clock,since,sn,c0,k.obj _ _ h1 rfl,h2,h3,h4,k.obj _ _ h5 rfl,h6⟩,h7⟩
theorem Nk.lt(h:Nk w b q n seen done c):∃o:Obj,w.heap[q]?=some o/\o.isCells=false:=by obtain⟨D,left,⟨es,clock,since,sn,c0,h1,h2,h3,h4,h5,h6⟩,h7⟩:=h;exact⟨_,h5,rfl⟩
theorem Adv{S:Nat->Prop}{ρ:eU}{v:Value}(h:RdA S w ρ v (.agg (d88 p))):v=ptV p:=by
 cases h with
 | agg h=>
  rename_i vs
  match vs,h with
  | [x,y],⟨h1,h2,_⟩=>cases h1 with|p h1=>cases h2 with|p h2=>rw[h1.v_form,h2.v_form];rfl
theorem Ax6(L:List A_)(n:Nat)(seen:List a_):Ih L n seen []=some seen:=by cases n <;> rfl
theorem Nk.few(h:Nk w b q n seen done c):done.Nodup/\done.length<=seen.length:=by obtain⟨_,_,_,_,_,_,_,h5,h6⟩:=h;exact⟨h6,h6.length_le_of_subset λx hx=>h5 x hx⟩
def lvF:eR:=[1,2,4,5,6,7,9,10,11,14,22,30,34,35,36,37,43,51,53]
def mpV(b:Nat):AV:=.d (.p (.v (.map (some b))))
def itV(q:Nat):AV:=.d (.p (.v (.pointer (some ⟨q,0,none⟩))))
def stA(b:Nat):St:=[(2,.d (.o 0 0)),(5,mpV b),(6,.d (.os 1))]
def RA(x0:A5)(next:List a_):List Res:=[.box 44 (d44 x0),.sl 88 2 (next.map q88)]
def stB(b:Nat):St:=[(2,.d (.o 0 0)),(5,mpV b),(6,.d (.os 1)),(7,.d (.o 2 0))]
def RB(x0:A5)(p:a_)(next:List a_):List Res:=[.box 44 (d44 x0),.sl 88 2 (next.map q88),.box 88 (d88 p)]
def stI(x0:A5)(b:Nat)(i:Nat)(z:List a_):St:=[(2,.d (.o 0 0)),(5,mpV b),(6,.d (.os 1)),(7,.d (.o 2 0)),(34,.d (DS Fi x0.Links)),(35,.d (I (x0.Links.length:Int))),(36,.d (I (cnt 0 i)))]
def RI(x0:A5)(p:a_)(i:Nat)(z:List a_):List Res:=RB x0 p z
def stR(q:Nat):St:=[(10,.d (.os 1)),(51,itV q)]
def RR(x0:A5)(out:List a_):List Res:=[.box 44 (d44 x0),.sl 88 2 (out.map q88)]
set_option maxRecDepth 100000 in
theorem A4a(FC:A5->Option Int)(FL:List a_->Option (List a_))(kC:∀x r,FC x=some r->CallOk Tryz.prog 50 [.agg (d44 x)] [] (.d (I r)) [])(kL:∀x r,FL x=some r->CallOk Tryz.prog 105 [.d (.p (.s (x.map q88)))] [] (.d (.os 0)) [.sl 88 2 (r.map q88)])(hcmp:vQ)(x0:A5)(x1 r:List a_)(h:qF FC FL x0 x1=some r):CallOk Tryz.prog 51 [.agg (d44 x0),.d (DS q88 x1)] [] (.d (DS q88 r)) []:=by
 unfold qF at h;obtain⟨e,he,h2⟩:=Db h;obtain⟨y,hy,h3⟩:=Db h2;clear h h2;have hb:((e==0)&&okF x0.Links y)=true:=by
  cases hq:((e==0)&&okF x0.Links y) with
  |true=>rfl
  |false=>rw[hq]at h3;cases h3
 rw[hb]at h3;have h4:=bj h3;obtain⟨hb1,hb2⟩:=cv.1 hb;have he0:e=0:=by simpa using hb1
 subst he0;unfold okF at hb2;obtain⟨hb3,hb4⟩:=cv.1 hb2;obtain⟨hb5,hb6⟩:=cv.1 hb3;have hyW:∀p,p∈y->ptW p:=λp hp=>Ajr.1 (aG.1 hb5 p hp);have hLW:∀x,x∈x0.Links->ptW x.To:=λx hx=>Ajr.1 (aG.1 hb6 x hx);have hN:=dX hb4;obtain⟨r0,hr0⟩:∃r0,Ih x0.Links (y.length+x0.Links.length) [] y=some r0:=P9 _ _ _ _ (by have:(Qi x0.Links []).length<=x0.Links.length:=bc _ _;omega)
 have hr:r=Ke r0:=by rw[←h4];unfold Er;rw[hr0]
 have hr0n:r0.Nodup:=Tw _ _ _ _ _ hr0 List.nodup_nil;clear h3 h4 hb hb1 hb2 hb3 hb4 hb5 hb6;refine Fb 63 Tryz.func51 rfl rfl rfl λC hC=>?_;refine Dl (bs:=[(false,false)]) Cf lvF 8 [false] [.call 50 [.agg (d44 x0)] [] (.d (I 0)) [] []] [] 0 [0] [(1,.d (DS q88 x1)),(2,.d (.o 0 0))] [.box 44 (d44 x0)] hC ⟨⟨Go.SL.Dt Tryz.func50 (by kernel_rfl) (by kernel_rfl),kC x0 0 he⟩,trivial⟩ ⟨rfl,trivial⟩ (by kernel_rfl) ?_;intro a w hs;have hm:=Md.of rfl hs;refine K2 (by kernel_rfl) [0,1] (by kernel_rfl) ?_;refine Jh (d:=some 17) (op:=.makeMap 199 none) (.map (some w.heap.size)) (w.alloc (.map #[] 0)) 199 (by kernel_rfl) nofun (λo ho _=>?_) ?_
 .obtain⟨o1,o2,o3,o4,o5,o6⟩:=o;simp only at ho;subst ho;exact N3 rfl
 refine Jh (d:=some 5) (op:=.assign (.tmp 17)) (.map (some w.heap.size)) (w.alloc (.map #[] 0)) 199 (by kernel_rfl) nofun (λo ho _=>?_) ?_
 .obtain⟨o1,o2,o3,o4,o5,o6⟩:=o;simp only at ho;subst ho;have:(a.put (some 17) (Value.map (some w.heap.size))).eval (.tmp 17)=.map (some w.heap.size):=by
   simp[Act.eval,Act.put,eu,hm.2.1]
  show Sem.run Tryz.prog (pure (Next.value ((a.put (some 17) (Value.map (some w.heap.size))).eval (.tmp 17)))) _=_;rw[this];rfl
 have hset:=Ap8 w;obtain⟨b,hbd⟩:∃b,b=w.heap.size:=⟨_,rfl⟩;rw[←hbd]at hset ⊢;have hCb:C.z.w.heap.size<=b:=by rw[hbd];obtain⟨_,_,S,ρ,i1,_⟩:=hm;exact i1.size
 have hm1:=((hm.turn (World.grownBy_alloc w (.map #[] 0) none) (λ_=>af _) (λr e=>by cases e)).put (t:=17) (.map (some b)) (mpV b) (by decide) (λ_ _=>.d (.p (.v _ rfl)))).put (t:=5) (.map (some b)) (mpV b) (by decide) (λ_ _=>.d (.p (.v _ rfl)));have hm2:=hm1.sub (st':=[(1,.d (DS q88 x1)),(2,.d (.o 0 0)),(5,mpV b)]) [1,2,5] (by kernel_rfl);clear hm hm1 hs;generalize hw1:w.alloc (.map #[] 0)=w1 at hset hm2 ⊢;clear hw1;refine hm2.run λD hDh hDd hup hback=>?_;refine Dl (bs:=[]) Cf lvF 3 [] [.call 105 [.d (.p (.s (x1.map q88)))] [] (.d (.os 0)) [.sl 88 2 (y.map q88)] []] [] 0 [0,1] (stA b) (RA x0 y) (by rw[hDh];exact hC) ⟨⟨Go.SL.Dt Tryz.func105 (by kernel_rfl) (by kernel_rfl),kL x1 y hy⟩,trivial⟩ trivial (by kernel_rfl) ?_;intro a3 w3 hs3;obtain⟨hm3,hk3⟩:=hback _ _ _ _ hs3;have hset3:=hset.kp hk3;clear hback hup hs3 hm2 hset hk3;refine zK (by kernel_rfl) ?_;refine Zo (by kernel_rfl) (λm a w=>∃seen next,Ih x0.Links m seen next=some r0/\next.length+(Qi x0.Links seen).length<=m/\seen.length+m<=y.length+x0.Links.length/\(∀p,p∈next->ptW p)/\Kk w b seen.length seen/\Md 63 C.z (stA b) (RA x0 next) a w) (y.length+x0.Links.length)
  ⟨[],y,hr0,by have:(Qi x0.Links []).length<=x0.Links.length:=bc _ _;omega,by simp,hyW,hset3,hm3⟩ ?_
 clear hset3 hm3 a3 w3 w1;rintro m a w ⟨seen,next,hbf,hfu,hsn,hW,hset,hm⟩
 match next,hbf,hfu,hW,hm with
 | [], hbf, hfu, hW, hm =>
  have hsr:seen=r0:=by rw[Ax6]at hbf;exact bj hbf
  refine hm.run λD hDh hDd hup hback=>?_;refine Dl (bs:=[(false,false)]) Cf lvF 9 [false] [] [.own 10 88 2] 0 [0,2] [(5,mpV b),(10,.d (.os 1))] (RR x0 []) (by rw[hDh];exact hC) trivial ⟨rfl,trivial⟩ (by kernel_rfl) ?_;intro a4 w4 hs4;obtain⟨hm4,hk4⟩:=hback _ _ _ _ hs4;have hset4:=hset.kp hk4;clear hback hup hs4 hk4 hset hm;refine K2 (by kernel_rfl) [0,1] (by kernel_rfl) ?_;refine hm4.ops (is:=[0]) (js:=[1]) (cls:=[]) [10,50] [(10,.d (.os 1)),(50,mpV b)] (RR x0 []) trivial (by kernel_rfl) λa5 w5 hm5 hk5=>?_;have e50:a5.eval (.tmp 50)=.map (some b):=hm5.exact rfl;obtain⟨w6,ct,hr6,hrg6,hg6,hz6⟩:=(hset4.kp hk5).range;refine Jh (d:=some 51) (op:=.range 199 (.tmp 50)) (.pointer (some ⟨w5.heap.size,0,none⟩)) w6 0 (by kernel_rfl) nofun (λo ho _=>?_) ?_
  .obtain⟨o1,o2,o3,o4,o5,o6⟩:=o;simp only at ho;subst ho;show Sem.run _ (do pure (Next.value (←Instr.range 199 (a5.eval (.tmp 50))))) _=_;rw[e50];exact N3 hr6
  have hCq:C.z.w.heap.size<=w5.heap.size:=by obtain⟨_,_,S,ρ,i1,_⟩:=hm5;exact i1.size
  have hm6:=((hm5.turn hg6 (λ_=>Ux _ _ _ _ hr6) (λr e=>by cases e)).put (t:=51) _ (itV w5.heap.size) (by decide) (λ_ _=>.d (.p (.v _ rfl)))).sub (st':=stR w5.heap.size) [10,51] (by kernel_rfl);generalize w5.heap.size=q at hrg6 hCq hm6 ⊢;clear hset4 hm4 hm5 hk5 e50 hr6 hg6 hz6;refine zK (by kernel_rfl) ?_;refine Zo (by kernel_rfl) (λc a w=>∃done,Nk w b q seen.length seen done c/\Md 63 C.z (stR q) (RR x0 done.reverse) a w) ct ⟨[],hrg6,hm6⟩ ?_;clear hrg6 hm6;rintro c a w ⟨done,hrg,hm⟩;refine hm.run λD hDh hDd hup hback=>?_;refine Dl (bs:=[]) Cf lvF 1 [] [] [] 0 [0,1] (stR q) (RR x0 done.reverse) (by rw[hDh];exact hC) trivial trivial (by kernel_rfl) ?_;intro a1 w1 hs1;obtain⟨hm1,hk1⟩:=hback _ _ _ _ hs1;have hrg1:=hrg.kp hk1;clear hback hup hs1 hk1 hrg hm;have e51:a1.eval (.tmp 51)=.pointer (some ⟨q,0,none⟩):=hm1.exact rfl;refine K2 (by kernel_rfl) [0,1] (by kernel_rfl) ?_;rcases hrg1.next 0 with⟨hc0,hall,hrn⟩|⟨p,w2,c',hpW,hps,hpd,hrn,hrg2,hlt,hg2,hz2,hen⟩
  .refine Jh (d:=some 52) (op:=.next (.tmp 51) false) (.tuple #[.bool false]) w1 0 (by kernel_rfl) nofun (λo ho ht=>?_) ?_
   .obtain⟨o1,o2,o3,o4,o5,o6⟩:=o;simp only at ho ht;subst ho ht;show Sem.run _ (do pure (Next.value (←Instr.next (a1.eval (.tmp 51)) false 0))) _=_;rw[e51];exact N3 hrn
   refine Jh (d:=some 53) (op:=.extract (.tmp 52) 0) (.bool false) w1 4 (by kernel_rfl) nofun (λo ho ht=>?_) ?_
   .obtain⟨o1,o2,o3,o4,o5,o6⟩:=o;simp only at ho;subst ho;have:(a1.put (some 52) (Value.tuple #[.bool false])).eval (.tmp 52)=.tuple #[.bool false]:=by
     simp[Act.eval,Act.put,eu,hm1.2.1]
    show Sem.run _ (do pure (Next.value (←Instr.extract ((a1.put (some 52) (Value.tuple #[.bool false])).eval (.tmp 52)) 0))) _=_;rw[this];exact N3 rfl
   have hm2:=((hm1.put0 (t:=52) (.tuple #[.bool false])).put (t:=53) (.bool false) (.d (Bo false)) (by decide) (λ_ _=>.d (.p (.v _ rfl)))).sub (st':=[(10,.d (.os 1)),(53,.d (Bo false))]) [10,53] (by kernel_rfl);have hres:r=I_ done.reverse:=by rw[Aii (List.pairwise_reverse.2 (hrg1.few.1.imp λh e=>h e.symm)),hr,←hsr];refine Iq (Ii _) (Ii _) λx=>?_;rw[Jd,Jd,List.mem_reverse];exact hall x
   have hdl:done.reverse.length<4611686018427387904:=by rw[List.length_reverse];have:=hrg1.few.2;omega
   rw[hres];refine hm2.run λD hDh hDd hup hback=>?_;exact Mi (bs:=[(false,false)]) Cf lvF 9 [false] [.call 106 [.d (.os 0),.d (.fn (.func 107) [] [])] [.sl 88 2 (done.reverse.map q88)] (.tup []) [.sl 88 2 ((I_ done.reverse).map q88)] [1]] [.frz 1] [.tmp 4] 0 [] rfl (by rw[hDh];exact hC) ⟨⟨Go.SL.Dt Tryz.func106 (by kernel_rfl) (by kernel_rfl),Aze hcmp _ hdl⟩,trivial⟩ ⟨rfl,trivial⟩ (by kernel_rfl) hup
  .refine Jh (d:=some 52) (op:=.next (.tmp 51) false) (.tuple #[.bool true,ptV p,.bool true]) w2 0 (by kernel_rfl) nofun (λo ho ht=>?_) ?_
   .obtain⟨o1,o2,o3,o4,o5,o6⟩:=o;simp only at ho ht;subst ho ht;show Sem.run _ (do pure (Next.value (←Instr.next (a1.eval (.tmp 51)) false 0))) _=_;rw[e51];exact N3 hrn
   refine Jh (d:=some 53) (op:=.extract (.tmp 52) 0) (.bool true) w2 4 (by kernel_rfl) nofun (λo ho ht=>?_) ?_
   .obtain⟨o1,o2,o3,o4,o5,o6⟩:=o;simp only at ho;subst ho;have:(a1.put (some 52) (Value.tuple #[.bool true,ptV p,.bool true])).eval (.tmp 52)=.tuple #[.bool true,ptV p,.bool true]:=by
     simp[Act.eval,Act.put,eu,hm1.2.1]
    show Sem.run _ (do pure (Next.value (←Instr.extract ((a1.put (some 52) (Value.tuple #[.bool true,ptV p,.bool true])).eval (.tmp 52)) 0))) _=_;rw[this];exact N3 rfl
   have hm2:=((hm1.turn hg2 (λ_=>Ux _ _ _ _ hrn) (λr e=>by cases e;exact⟨hCq,hrg1.lt⟩)).put0 (t:=52) (.tuple #[.bool true,ptV p,.bool true])).put (t:=53) (.bool true) (.d (Bo true)) (by decide) (λ_ _=>.d (.p (.v _ rfl)));generalize (a1.put (some 52) (Value.tuple #[.bool true,ptV p,.bool true])).put (some 53) (.bool true)=a2 at hm2 ⊢;have hm3:=hm2.sub (st':=[(10,.d (.os 1)),(51,itV q),(53,.d (Bo true))]) [10,51,53] (by kernel_rfl);have e53:a2.eval (.tmp 53)=.bool true:=hm3.exact rfl;have e51':a2.eval (.tmp 51)=.pointer (some ⟨q,0,none⟩):=hm3.exact rfl;refine K3 53 true e53 5 (by kernel_rfl) ?_;refine K2 (by kernel_rfl) [0,1,2,3] (by kernel_rfl) ?_;refine Jh (d:=some 54) (op:=.entry (.tmp 51)) (.tuple #[ptV p,.bool true]) w2 0 (by kernel_rfl) nofun (λo ho ht=>?_) ?_
   .obtain⟨o1,o2,o3,o4,o5,o6⟩:=o;simp only at ho ht;subst ho ht;show Sem.run _ (do pure (Next.value (←Instr.entry (a2.eval (.tmp 51))))) _=_;rw[e51'];exact N3 hen
   refine Jh (d:=some 55) (op:=.extract (.tmp 54) 0) (ptV p) w2 88 (by kernel_rfl) nofun (λo ho ht=>?_) ?_
   .obtain⟨o1,o2,o3,o4,o5,o6⟩:=o;simp only at ho;subst ho;have:(a2.put (some 54) (Value.tuple #[ptV p,.bool true])).eval (.tmp 54)=.tuple #[ptV p,.bool true]:=by
     simp[Act.eval,Act.put,eu,hm3.2.1]
    show Sem.run _ (do pure (Next.value (←Instr.extract ((a2.put (some 54) (Value.tuple #[ptV p,.bool true])).eval (.tmp 54)) 0))) _=_;rw[this];exact N3 rfl
   have hm4:=((hm3.put0 (t:=54) (.tuple #[ptV p,.bool true])).put (t:=55) (ptV p) (.agg (d88 p)) (by decide) (λS ρ=>yB S w2 ρ p)).sub (st':=[(10,.d (.os 1)),(51,itV q),(55,.agg (d88 p))]) [10,51,55] (by kernel_rfl);refine hm4.ops (is:=[2,3]) (js:=[]) (cls:=[]) [10,51,11] [(10,.d (.os 1)),(51,itV q),(11,.d (.o 2 0))] [.box 44 (d44 x0),.sl 88 2 (done.reverse.map q88),.box 88 (d88 p)] trivial (by kernel_rfl) λa5 w5 hm5 hk5=>?_;have hrg5:=hrg2.kp hk5;have hfew:=hrg1.few.2;clear hm1 hm2 hm3 hm4 e53 e51 e51' hrn hen hg2 hz2 hk5 hrg1;refine hm5.run λD hDh hDd hup hback=>?_;have hbd:(done.reverse.length+1)*17<=140737488355328:=by rw[List.length_reverse];have:=hfew;omega
   refine Dl (bs:=[]) Cf lvF 2 [] [.app (done.reverse.map q88) ([p].map q88) 2 (((done.reverse.map q88).length+([p].map q88).length)*(16+1)) ((done.reverse++[p]).map q88)] [] 0 [0,3] (stR q) (RR x0 (done.reverse++[p])) (by rw[hDh];exact hC) ⟨⟨by simpa using hbd,(λl hl=>by simp at hl;subst hl;rfl),by simp⟩,trivial⟩ trivial (by kernel_rfl) ?_;intro a6 w6 hs6;obtain⟨hm6,hk6⟩:=hback _ _ _ _ hs6;exact⟨c',hlt,p::done,hrg5.kp hk6,by rw[List.reverse_cons];exact hm6⟩
 | p :: next, hbf, hfu, hW, hm =>
  match m,hbf,hfu,hsn with
  |0,hbf,_,_=>simp[Ih]at hbf
  |m+1,hbf,hfu,hsn=>
  simp only[bi]at hfu;unfold Ih at hbf;have hpW:=hW p ai;have hnW:∀q,q∈next->ptW q:=λq hq=>hW q (al p hq);refine hm.run λD hDh hDd hup hback=>?_;refine Dl (bs:=[(decide ((((p::next).length:Nat):Int)>0),true)]) Cf lvF 12 [true] [.len (((p::next).map q88).length:Int) ((p::next).length:Int),.row ((p::next).map q88) 0 (q88 p),.row ((p::next).map q88) 0 (q88 p),.bnd ((p::next).map q88).length 1 ((((p::next).map q88).length:Nat):Int) ((p::next).length:Int)] [.trunc 6] 0 [0,3,2] (stB b) [.box 44 (d44 x0),.sl 88 2 ((((p::next).map q88).drop 1).take (Int.toNat ((p::next).length:Int)-Int.toNat 1)),.box 88 (d88 p)] (by rw[hDh];exact hC) ⟨H9 _ _,⟨by decide,rfl⟩,⟨by decide,rfl⟩,⟨by decide,by simp;omega,by simp,by simp⟩,trivial⟩ ⟨by simp,trivial⟩ (by kernel_rfl) ?_;intro a1 w1 hs1;obtain⟨hm1,hk1⟩:=hback _ _ _ _ hs1;have hset1:=hset.kp hk1;have ecut:(((p::next).map q88).drop 1).take (Int.toNat ((p::next).length:Int)-Int.toNat 1)=next.map q88:=by simp[List.take_of_length_le]
  rw[ecut]at hm1;clear hback hup hs1 hk1 hset hm ecut;refine K2 (by kernel_rfl) [0,1,2] (by kernel_rfl) ?_;refine hm1.ops (is:=[0,1]) (js:=[2]) (cls:=[]) [2,5,6,7,28,29] (stB b++[(28,mpV b),(29,.agg (d88 p))]) (RB x0 p next) trivial (by kernel_rfl) λa2 w2 hm2 hk2=>?_;have hset2:=hset1.kp hk2;have e28:a2.eval (.tmp 28)=.map (some b):=hm2.exact rfl;have e29:a2.eval (.tmp 29)=ptV p:=by obtain⟨v,S,ρ,g1,g2,_⟩:=hm2.get (t:=29) (av:=.agg (d88 p)) rfl;rw[g1];exact Adv g2
  refine Jh (d:=some 30) (op:=.lookup 199 (.tmp 28) (.tmp 29) false) (.bool (Dw seen p)) w2 4 (by kernel_rfl) nofun (λo ho _=>?_) ?_
  .obtain⟨o1,o2,o3,o4,o5,o6⟩:=o;simp only at ho;subst ho;show Sem.run _ (do pure (Next.value (←Instr.lookup 199 (a2.eval (.tmp 28)) (a2.eval (.tmp 29)) false))) _=_;rw[e28,e29];exact N3 (hset2.look hpW)
  have hm3:=(hm2.put (t:=30) (.bool (Dw seen p)) (.d (Bo (Dw seen p))) (by decide) (λ_ _=>.d (.p (.v _ rfl)))).sub (st':=stB b++[(30,.d (Bo (Dw seen p)))]) [2,5,6,7,30] (by kernel_rfl);clear hm1 hset1 hm2 hk2 e28 e29;cases hq:Dw seen p with
  |true=>rw[hq]at hbf hm3;simp only[ez]at hbf;refine hm3.run λD hDh hDd hup hback=>?_;refine Dl (bs:=[(true,true)]) Cf lvF 2 [true] [] [] 0 [0,1] (stA b) (RA x0 next) (by rw[hDh];exact hC) trivial ⟨rfl,trivial⟩ (by kernel_rfl) ?_;intro a4 w4 hs4;obtain⟨hm4,hk4⟩:=hback _ _ _ _ hs4;exact⟨m,Nat.lt_succ_self m,seen,next,hbf,by omega,by omega,hnW,hset2.kp hk4,hm4⟩
  | false=>
   rw[hq]at hbf hm3;simp only[eB]at hbf;refine hm3.run λD hDh hDd hup hback=>?_;refine Dl (bs:=[(false,false)]) Cf lvF 3 [false] [] [] 0 [0,1,2] (stB b) (RB x0 p next) (by rw[hDh];exact hC) trivial ⟨rfl,trivial⟩ (by kernel_rfl) ?_;intro a4 w4 hs4;obtain⟨hm4,hk4⟩:=hback _ _ _ _ hs4;have hset4:=hset2.kp hk4;clear hback hup hs4 hk4 hset2 hm3;refine K2 (by kernel_rfl) [0,1,2] (by kernel_rfl) ?_;refine hm4.ops (is:=[0,1]) (js:=[2]) (cls:=[]) [2,5,6,7,31,32] (stB b++[(31,mpV b),(32,.agg (d88 p))]) (RB x0 p next) trivial (by kernel_rfl) λa5 w5 hm5 hk5=>?_;have hset5:=hset4.kp hk5;have e31:a5.eval (.tmp 31)=.map (some b):=hm5.exact rfl;have e32:a5.eval (.tmp 32)=ptV p:=by obtain⟨v,S,ρ,g1,g2,_⟩:=hm5.get (t:=32) (av:=.agg (d88 p)) rfl;rw[g1];exact Adv g2
   obtain⟨w6,hr6,hset6,hg6⟩:=hset5.put hpW (by unfold maxLen;omega);refine A3g (d:=none) (op:=.mapUpdate 199 (.tmp 31) (.tmp 32) (.const (.bool true))) w6 0 (by kernel_rfl) nofun (λo ho _=>?_) ?_
   .obtain⟨o1,o2,o3,o4,o5,o6⟩:=o;simp only at ho;subst ho;show Sem.run _ (do Instr.mapUpdate 199 (a5.eval (.tmp 31)) (a5.eval (.tmp 32)) (.bool true);pure Next.skip) _=_;rw[e31,e32];exact A72 hr6
   have hm6:=(hm5.turn hg6 (λ_=>Ux _ _ _ _ hr6) (λr e=>by cases e;exact⟨hCb,hset5.lt.2⟩)).sub (st':=stB b) [2,5,6,7] (by kernel_rfl);clear hset4 hm4 hm5 hk5 hset5 e31 e32 hr6 hg6;have hsp:Kk w6 b (p::seen).length (p::seen):=hset6;have hop:=U7 p seen hq x0.Links;have htl:(toP x0.Links p).length<=x0.Links.length:=by unfold toP;rw[ao];exact bc _ _
   have hol:(Qi x0.Links seen).length<=x0.Links.length:=bc _ _;refine hm6.run λD hDh hDd hup hback=>?_;have hk:D.h.length<=0:=by rw[hDh];exact hC
   refine Dl (bs:=[]) Cf lvF 2 [] [.len ((x0.Links.map Fi).length:Int) (x0.Links.length:Int)] [] 0 [0,1,2] (stI x0 b 0 next) (RI x0 p 0 next) hk ⟨H9 _ _,trivial⟩ trivial (by kernel_rfl) ?_;refine Ry (by kernel_rfl) ?_;refine Rw 34 rfl λhl0=>?_;refine Pn (by kernel_rfl) (inF p) (stI x0 b) (RI x0 p) (.next (next++toP x0.Links p)) x0.Links next (Aj1 p _ _ _ (by omega)) rfl rfl (λz hn=>?_) λn0 a0 z0 k0 hi0 hx0 h hb0 hr0=>?_
   .refine Dl (bs:=[(decide ((cnt 0 x0.Links.length)<(x0.Links.length:Int)),false)]) Cf lvF 6 [false] [] [] 0 [0,1] (stA b) (RA x0 z) hk trivial ⟨Ot hl0,trivial⟩ (by kernel_rfl) ?_;intro a7 w7 hs7;obtain⟨hm7,hk7⟩:=hback _ _ _ _ hs7;have hz:z=next++toP x0.Links p:=by injection hn with hn;exact hn.symm
    subst hz;refine⟨m,Nat.lt_succ_self m,p::seen,next++toP x0.Links p,hbf,?_,?_,λq hq=>?_,hsp.kp hk7,hm7⟩
    .rw[aE];omega
    .simp only[bi];omega
    .rcases am.1 hq with hq|hq
     .exact hnW q hq
     .obtain⟨x,hx,_,e⟩:=vV.1 hq;rw[←e];exact hLW x hx
   .unfold inF at h;rcases A0c ((a0.From.Kind==p.Kind)&&((a0.From.Number==p.Number)&&true)) with h1|h1
    .replace h:=A8d h1 h;obtain⟨y2,h3,h⟩:=Db h;exact Hf (bs:=[(decide ((cnt 0 n0)<(x0.Links.length:Int)),true),(((a0.From.Kind==p.Kind)&&((a0.From.Number==p.Number)&&true)),true)]) (φ:=λs'=>k0=.next s') (st':=(stI x0 b (n0+1))) (R':=(RI x0 p (n0+1))) Cf lvF 15 [true,true] [.row (x0.Links.map Fi) (cnt 0 n0) (Fi a0),.app (z0.map q88) ([a0.To].map q88) 2 (((z0.map q88).length+([a0.To].map q88).length)*(16+1)) (y2.map q88)] [] 0 [0,4,2] y2 hk ⟨(Bp hx0 hl0),A7 q88 2 (λ_=>rfl) h3,trivial⟩ ⟨(Ph hi0 hl0),h1,trivial⟩ (by kernel_rfl) (by kernel_rfl) (bj h).symm
    .replace h:=Azp h1 h;exact Hf (bs:=[(decide ((cnt 0 n0)<(x0.Links.length:Int)),true),(((a0.From.Kind==p.Kind)&&((a0.From.Number==p.Number)&&true)),false)]) (φ:=λs'=>k0=.next s') (st':=(stI x0 b (n0+1))) (R':=(RI x0 p (n0+1))) Cf lvF 15 [true,false] [.row (x0.Links.map Fi) (cnt 0 n0) (Fi a0)] [] 0 [0,1,2] z0 hk ⟨(Bp hx0 hl0),trivial⟩ ⟨(Ph hi0 hl0),h1,trivial⟩ (by kernel_rfl) (by kernel_rfl) (bj h).symm
end Go.Proofs.YtiaaaghdkhnonaaGreat
