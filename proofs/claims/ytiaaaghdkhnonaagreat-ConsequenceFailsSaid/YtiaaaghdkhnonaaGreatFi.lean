import Derived.Test.YtiaaaghdkhnonaaGreatPu
import Derived.Test.YtiaaaghdkhnonaaGreatDf
set_option linter.unusedVariables false
set_option maxHeartbeats 8000000
namespace Go.SL
variable{c:Code}{R:Ending->World->Prop}{items:List It}{l m n t:Nat}{op:Op}{g:Option (Nat×Bool)}{d:Option Tmp}{v:Value}
section
variable{P:Program}{ro:Option Nat}{ops:Array Oper}{Q:Exit->Act->World->Prop}{a:Act}{w:World}{i:Nat}{is:eR}
theorem Abh{j:Nat}{b:Bool}(ho:(ops[i]?).map (λo=>(o.dst,o.guard))=some (d,some (j,b)))(hj:(ops[j]?).bind (·.dst)=some t)(ht:a.eval (.tmp t)=.bool (!b))(hK:wpOpsIn (FR ro) 0 P ops Q is (a.put d undef) w):wpOpsIn (FR ro) 0 P ops Q (i::is) a w:=by
 cases hq:ops[i]? with
 |none=>rw[hq]at ho;cases ho
 | some o=>
  rw[hq]at ho;simp only[be,ah,au]at ho;obtain⟨h1,h2⟩:=ho;have hw:¬(Region.wanted o (yielded ops a.tmps)=true):=by unfold Region.wanted yielded;rw[h2];simp only[hj,ab,Vu ht];cases b <;> simp
  rw[wpOpsIn_cons];unfold wpOpIn;rw[hq];simp only;rw[eF hw,h1];exact⟨λ_ _=>trivial,hK⟩
theorem Ad5(ho:(ops[i]?).map (λo=>(o.dst,o.op,o.guard))=some (d,op,g))(hd:∀c,op ≠ .defer c)
  (hg:∀j b,g=some (j,b)->∃t,(ops[j]?).bind (·.dst)=some t/\a.eval (.tmp t)=.bool b)
  (hK:∀o:Oper,o.op=op->o.dst=d->o.uponIn (FR ro) 0 P a (wpOpsIn (FR ro) 0 P ops Q is) Q ((execOp a.eval o).run P w)):wpOpsIn (FR ro) 0 P ops Q (i::is) a w:=by
 cases hq:ops[i]? with
 |none=>rw[hq]at ho;cases ho
 | some o=>
  rw[hq]at ho;simp only[be,ah,au]at ho;obtain⟨h1,h2,h3⟩:=ho;have hw:Region.wanted o (yielded ops a.tmps)=true:=by
   unfold Region.wanted yielded;rw[h3]
   match g,hg with
   |none,_=>rfl
   |some (j,b),hg=>obtain⟨t,g1,g2⟩:=hg j b rfl;simp only[g1,ab,Vu g2];cases b <;> simp
  rw[wpOpsIn_cons];unfold wpOpIn;rw[hq];simp only;rw[eC hw];refine⟨λ_ _=>trivial,?_⟩;rw[Oper.semAt_eq (FR ro).round a.eval o (λc e=>hd c (h2 ▸ e))];exact hK o h2 h1
theorem Ail{F:Fence}{m':Nat}(hF:F.depth=none){f:FuncId}{tmps:Array Value}{x y:Code}(h:RoundIn F m P l f tmps x y w R):RoundIn F m' P l f tmps x y w R:=
 ⟨h.1,λc cs _=>h.2 c cs (by unfold Fence.room;rw[hF];intro d hd;cases hd)⟩
theorem Adx{u:Nat}(h:t≠u):(a.put (some t) v).eval (.tmp u)=a.eval (.tmp u):=by simp[Act.eval,Act.put,eu,Array.getElem?_setIfInBounds_ne h]
theorem U3(h:t<a.tmps.size):(a.put (some t) v).eval (.tmp t)=v:=by simp[Act.eval,Act.put,eu,h]
def A3y:List It->Bool
 |.c .ret::_=>true
 |_=>false
theorem A2e(hi:A3y items=true)(h:Q .ret a w):Qs ro P items Q .normal a w:=by
 match items,hi with
 |.c .ret::l,_=>exact wpIn_ret (Po h)
theorem A74(h:Qs none P [.c c] Q .normal a w):c.wpIn Fence.wide 0 P Q a w:=h
theorem Axn{f:Nat}{fn:Func}{vs:eU}(hf:P.funcs[f]?=some fn)(hb:fn.body=some c)(hn:fn.ntmps=n)(hl:vs.length<=n)
  (h:∀a:Act,a.defers=[]->a.tmps.size=n->(∀(j:Nat) x,vs[j]?=some x->a.tmps[j]?=some x)->Qs none P [.c c] (bodyPostM Fence.wide m P fn R) .normal a w):CallsIn Fence.wide m P f vs.toArray w R:=by
 refine callsIn_of_wp_marks hf hb trivial (Sj (m:=0) rfl (A74 (h _ rfl ?_ λj x hx=>?_)))
 .simp;omega
 grind
theorem Aip{c:Call}{f x:Operand}(ho:(ops[i]?).map (λo=>(o.dst,o.op,o.guard))=some (d,op,g))(hop:op=.call c)(hc:c.callee=.value f)(hx:c.args = #[x])
  (hg:∀j b,g=some (j,b)->∃t,(ops[j]?).bind (·.dst)=some t/\a.eval (.tmp t)=.bool b)(hf:a.eval f=.func (.yield l) #[] #[])
  (hY:YieldAt Fence.wide m P l #[a.eval x] w R)(hR:∀e w',R e w'->∃v,e=.returned v/\wpOpsIn (FR ro) 0 P ops Q is (a.put d v) w'):wpOpsIn (FR ro) 0 P ops Q (i::is) a w:=by
 subst hop;refine Ad5 ho (λ_=>nofun) hg λo h1 h2=>?_;obtain⟨fn,tm,cx,bd,h3,h4⟩:=hY;have:(execOp a.eval o).run P w=.ok (.round l fn tm cx bd) w:=by
  obtain⟨q1,q2,q3⟩:=c;simp only at hc hx;subst hc hx;have e:(execOp a.eval o).run P w=(Instr.yield l (#[] ++ #[a.eval x])).run P w:=by unfold execOp;rw[h1];simp only[resolve,hf,Deferred.ofValue,eG,eI,eJ,invoke];simp
  rw[e];simpa using h3
 rw[this];refine⟨λh=>(by cases h),(Ail (F:=FR ro) (m:=m) rfl ⟨trivial,h4.2⟩).mono λe w' hr=>?_⟩;grind
theorem M3(v:Value)(ho:(ops[i]?).map (λo=>(o.dst,o.op,o.guard))=some (d,op,g))(hd:∀c,op ≠ .defer c)
  (hg:∀j b,g=some (j,b)->∃t,(ops[j]?).bind (·.dst)=some t/\a.eval (.tmp t)=.bool b)(hr:∀o:Oper,o.op=op->(execOp a.eval o).run P w=.ok (.value v) w)(hK:wpOpsIn (FR ro) 0 P ops Q is (a.put d v) w):wpOpsIn (FR ro) 0 P ops Q (i::is) a w:=
 Ad5 ho hd hg λo h1 h2=>by rw[hr o h1];show wpOpsIn (FR ro) 0 P ops Q is (a.put o.dst v) w;rw[h2];exact hK
def A8a:List It->Bool
 |.c (.region _ _ true)::_=>true
 |_=>false
def Ad4:List It->Array Oper
 |.c (.region _ ops true)::_=>ops
 |_=>#[]
theorem Akm{C:Ctx}{st:St}{R:List Res}(hi:A8a items=true)(hmo:P.follows .mixedOrders=true)(m:Nat)(cls:List Cl)(ts:eR)(st':St)(hs:Sat n C (mkL st) R a w)(e:Av0 P n (Ad4 items) m st R cls ts=some (st',cls))(hok:Dc P cls)(ht:Xp (Ad4 items) m=true)(hmm:Nat.blt m (Ad4 items).size=true)(is:eR)(his:List.range' m ((Ad4 items).size-m)=is)
  (hK:∀R' a' w',Sat n C (mkL st') R' a' w'->wpOpsIn (FR ro) 0 P (Ad4 items) (Qs ro P (tlI items) Q) is a' w'):Qs ro P items Q .normal a w:=by
 subst his
 match items,hi with
 |.c (.region id ops true)::l,_=>exact A8p (id:=id) hmo m cls ts st' hs e hok ht hmm hK
end
end Go.SL
namespace Go.Proofs.YtiaaaghdkhnonaaGreat
open Go Go.SL
def Za(H:List a_->a_->Option Bool)(M:List a_->Option Bool)(now:List a_):List a_->Option (List Bj)
 | []=>some []
 |x::l=>(H now x).bind λb=>bif b then Za H M now l else (M [x]).bind λh=>(Za H M now l).map (⟨x,h⟩ :: ·)
def Qm(f:Bj):Array Value:=#[.agg #[.int .i64 f.Part.Kind,.int .i64 f.Part.Number,.bool f.Holds]]
def J6(x0:Ba)(x1:Am)(x2:List a_)(x3:Br):List D:=[.ip (q60 x0),.ip (q68 x1),.ip [.s (x2.map q88)],.ip (q81 x3)]
abbrev fnY(l:Nat):AV:=.d (.fn (.yield l) [] [])
def fS(l:Nat)(x0:Ba)(x1:Am)(x2:List a_)(x3:Br)(now:List a_)(i:Nat):St:=
 [(0,fnY l),(1,.d (.ip (q60 x0))),(2,.d (.ip (q68 x1))),(3,.d (.ip [.s (x2.map q88)])),(4,.d (.ip (q81 x3))),(6,.d (DS q88 now)),(16,.d (DS q88 x0.Design.Parts)),(17,.d (I (x0.Design.Parts.length:Int))),(18,.d (I (cnt 0 i)))]
def lvI:eR:=[0,1,2,3,4,6,8,16,17,18,19,26,27,36,39]
set_option maxRecDepth 100000 in
theorem Aw8(N:A5->Am->List a_->Option (List a_))(H:List a_->a_->Option Bool)(M:Ba->Am->List a_->List a_->Br->Option Bool)
 (kN:∀x0 x1 x2 r,N x0 x1 x2=some r->CallOk Tryz.prog 21 [.agg (d44 x0),.agg (d68 x1),.d (DS q88 x2)] [] (.d (DS q88 r)) [])
 (kH:∀x0 x1 r,H x0 x1=some r->CallOk Tryz.prog 53 [.d (DS q88 x0),.agg (d88 x1)] [] (.d (Bo r)) [])
 (kM:∀x0 x1 x2 x3 x4 r,M x0 x1 x2 x3 x4=some r->CallOk Tryz.prog 69 [.agg (d60 x0),.agg (d68 x1),.d (DS q88 x2),.d (DS q88 x3),.agg (d81 x4)] [] (.d (Bo r)) [])(x0:Ba)(x1:Am)(x2:List a_)(x3:Br)(now:List a_)(us:List Bj)(hN:N x0.Design x1 x2=some now)(hu:Za H (λl=>M x0 x1 x2 l x3) now x0.Design.Parts=some us) :
  R7 Tryz.prog 139 (J6 x0 x1 x2 x3) Qm us:=by
 refine⟨Go.SL.Dt Tryz.func139 (by kernel_rfl) (by kernel_rfl),λS caps l J Jx W hG hS hcaps hJ hY h0=>?_⟩;have hlen:=hcaps.length
 match caps,hlen,hcaps with
 | [c1,c2,c3,c4],_,hcaps=>
 have hvs:(#[.func (.yield l) #[] #[]]++[c1,c2,c3,c4].toArray:Array Value)=[.func (.yield l) #[] #[],c1,c2,c3,c4].toArray:=rfl;rw[hvs];refine Axn (n:=41) Tryz.func139 rfl rfl (by simp) λa ha1 ha2 ha3=>?_;have hP0:Pu 41 (λk=>S k\/False) [(0,fnY l),(1,.d (.ip (q60 x0))),(2,.d (.ip (q68 x1))),(3,.d (.ip [.s (x2.map q88)])),(4,.d (.ip (q81 x3)))] a W:=by
  refine⟨ha1,ha2,λe he=>⟨λ_=>?_,λhn=>absurd (by rw[D9 he];exact Cd) hn⟩,hG.mono (λ_ h=>.inl h) (λ_ _=>rfl),λk hk=>hS k (hk.resolve_right id)⟩;have hm:∀{v:Value}{d:D},Rd S W [] v d->RdA (λk=>S k\/False) W [] v (.d d):=λh=>.d (h.mono (λ_ h=>.inl h) (λ_ _=>rfl) (Pre.refl _));obtain⟨h1,h2,h3,h4,_⟩:=hcaps;simp only[mkL,ag,List.not_mem_nil,or_false]at he;rcases he with rfl|rfl|rfl|rfl|rfl
  .exact⟨_,ha3 0 _ rfl,.d (.fn (xs:=[]) (cs:=[]) rfl rfl (λj x d h=>by simp at h) (λj x d h=>by simp at h))⟩
  .exact⟨_,ha3 1 _ rfl,hm h1⟩
  .exact⟨_,ha3 2 _ rfl,hm h2⟩
  .exact⟨_,ha3 3 _ rfl,hm h3⟩
  .exact⟨_,ha3 4 _ rfl,hm h4⟩
 have hE : ∀{f : FuncId}{fn : Func}, Tryz.prog.funcs[f]? = some fn -> fn.body.isNone = false -> (fn.name == "runtime.NumGoroutine") = false -> Fe Tryz.prog f := λ h1 h2 h3 => Go.SL.Dt h1 h2 h3
 have eH:Fe Tryz.prog 53:=hE Tryz.func53 (by kernel_rfl) (by kernel_rfl);have eM:Fe Tryz.prog 69:=hE Tryz.func69 (by kernel_rfl) (by kernel_rfl);refine Pu.run hP0 λD hD1 hD2 back=>?_;refine Dl (bs:=[]) Cf lvI 4 [] [.call 21 [.agg (d44 x0.Design),.agg (d68 x1),.d (DS q88 x2)] [] (.d (DS q88 now)) [] [],.len ((x0.Design.Parts.map q88).length:Int) (x0.Design.Parts.length:Int)] [] 0 [] (fS l x0 x1 x2 x3 now 0) [] (by rw[hD1];exact af _) ⟨⟨hE Tryz.func21 (by kernel_rfl) (by kernel_rfl),kN _ _ _ _ hN⟩,H9 _ _,trivial⟩ trivial (by kernel_rfl) ?_;refine Rw 16 rfl λhl=>?_;intro a1 w1 hs1;obtain⟨S1,hE1,hP1⟩:=back _ _ _ _ (by rfl) hs1;obtain⟨T1,hJ1,hQ1⟩:=ju hJ hP0 h0 hE1 hP1;clear hs1 hE1 hP1 back hP0 h0 hD1 hD2 D ha1 ha2 ha3 a;refine zK (by kernel_rfl) ?_;refine Zo (by kernel_rfl) (λm a w=>∃p q vs rs T,x0.Design.Parts=p++q/\q.length=m/\Za H (λl=>M x0 x1 x2 l x3) now q=some rs/\us=vs++rs/\J vs T w/\Pu 41 (λk=>S k\/T k) (fS l x0 x1 x2 x3 now p.length) a w) x0.Design.Parts.length ⟨[],x0.Design.Parts,[],us,T1,rfl,rfl,hu,rfl,hJ1,hQ1⟩ ?_;rintro m a w ⟨p,q,vs,rs,T,hpq,hqm,hq,hus,hJw,hP⟩;cases q with
 |nil=>
  simp only[Za,ah]at hq;subst hq;have hpl:x0.Design.Parts.length=p.length:=by rw[hpq];simp
  refine Pu.run hP λD hD1 hD2 back=>?_;refine Dl (bs:=[(decide (cnt 0 p.length<(x0.Design.Parts.length:Int)),false)]) Cf lvI 5 [false] [] [] 0 [] [] [] (by rw[hD1];exact af _) trivial ⟨by rw[←hpl];exact Ot hl,trivial⟩ (by kernel_rfl) ?_;intro a2 w2 hs2;obtain⟨S2,hE2,hP2⟩:=back _ _ _ _ (by rfl) hs2;obtain⟨T2,hJ2,hQ2⟩:=ju hJ hP hJw hE2 hP2;show LeavesInM Fence.wide 2 Tryz.prog _ a2.tmps _ a2.defers .returning w2;rw[hQ2.1];refine⟨_,results_none rfl _ _ _,⟨_,rfl⟩,.inl ⟨T2,?_⟩⟩;rw[hus,aK];exact hJ2
 | cons x q=>
  have hx:x0.Design.Parts[p.length]?=some x:=by rw[hpq];simp
  have hlt:p.length<x0.Design.Parts.length:=(aa.1 hx).1;simp only[Za,cV]at hq;obtain⟨b,hb,hq⟩:=hq;refine Pu.run hP λD hD1 hD2 back=>?_;refine Dl (bs:=[(decide (cnt 0 p.length<(x0.Design.Parts.length:Int)),true)]) Cf lvI 10 [true] [.row (x0.Design.Parts.map q88) (cnt 0 p.length) (q88 x)] [] 0 [0] ((8,.d (.o 0 0))::fS l x0 x1 x2 x3 now p.length) [.box 88 (d88 x)] (by rw[hD1];exact bH _) ⟨Bp hx hl,trivial⟩ ⟨Ph hlt hl,trivial⟩ (by kernel_rfl) ?_;intro a2 w2 hs2;cases b with
  | true=>
   simp only[ez]at hq;refine Akm (by kernel_rfl) Cf 15 [.call 53 [.d (DS q88 now),.agg (d88 x)] [] (.d (Bo true)) [] [],.when [(false,true)] (.call 69 [.agg (d60 x0),.agg (d68 x1),.d (DS q88 x2),.d (DS q88 [x]),.agg (d81 x3)] [] (.d (Bo true)) [] [])] [26,0,1,2,3,4,6,16,17,18] ((26,.d (Bo false))::fS l x0 x1 x2 x3 now p.length) hs2 (by kernel_rfl) ⟨⟨eH,kH _ _ _ hb⟩,(λh=>by cases h.1),trivial⟩ (by kernel_rfl) (by kernel_rfl) [15,16,17] (by kernel_rfl) λR3 a3 w3 hs3=>?_;obtain⟨S3,hE3,hP3⟩:=back _ _ _ _ (by rfl) hs3;obtain⟨T3,hJ3,hQ3⟩:=ju hJ hP hJw hE3 hP3;clear hs3 hE3 hP3 hs2 back;have h26:a3.eval (.tmp 26)=.bool (!true):=(hQ3.get (t:=26) (av:=.d (Bo false)) (by kernel_rfl)).exact_inv;refine Abh (d:=some 37) (j:=4) (t:=26) (b:=true) (by kernel_rfl) (by kernel_rfl) h26 ?_;have hQ4:=hQ3.put0 (t:=37) undef (by kernel_rfl);refine Abh (d:=some 38) (j:=4) (t:=26) (b:=true) (by kernel_rfl) (by kernel_rfl) ((hQ4.get (t:=26) (av:=.d (Bo false)) (by kernel_rfl)).exact_inv) ?_;have hQ5:=hQ4.put0 (t:=38) undef (by kernel_rfl);have h26':=(hQ5.get (t:=26) (av:=.d (Bo false)) (by kernel_rfl)).exact_inv;refine M3 (d:=some 39) (op:=.pick (.tmp 26) (.tmp 38) (.const (.bool false))) (g:=none) (.bool false) (by kernel_rfl) (λ_=>nofun) (λ_ _ h=>by cases h) (λo ho=>?_) ?_
   .unfold execOp;rw[ho];simp only[h26'];rfl
   have hQ6:=(hQ5.put (t:=39) (.bool false) (.d (Bo false)) (by decide) (.d (.p (.v _ rfl)))).sub (st':=(39,.d (Bo false))::fS l x0 x1 x2 x3 now p.length) [39,0,1,2,3,4,6,16,17,18] (by kernel_rfl);clear hQ3 hQ4 hQ5 h26 h26';refine Pu.run hQ6 λD2 hE1 hE2 back2=>?_;refine Dl (bs:=[(false,false)]) Cf lvI 4 [false] [] [] 0 [] (fS l x0 x1 x2 x3 now (p.length+1)) [] (by rw[hE1];exact af _) trivial ⟨rfl,trivial⟩ (by kernel_rfl) ?_;intro a4 w4 hs4;obtain⟨S4,hE4,hP4⟩:=back2 _ _ _ _ (by rfl) hs4;obtain⟨T4,hJ4,hQ7⟩:=ju hJ hQ6 hJ3 hE4 hP4;exact⟨q.length,by rw[←hqm];simp,p++[x],q,vs,rs,T4,by rw[hpq];simp,rfl,hq,hus,hJ4,by rw[aE];exact hQ7⟩
  | false=>
   simp only[eB,cV,bW]at hq;obtain⟨h,hh,rs',hq,rfl⟩:=hq;refine Akm (by kernel_rfl) Cf 15 [.call 53 [.d (DS q88 now),.agg (d88 x)] [] (.d (Bo false)) [] [],.when [(true,true)] (.call 69 [.agg (d60 x0),.agg (d68 x1),.d (DS q88 x2),.d (DS q88 [x]),.agg (d81 x3)] [] (.d (Bo h)) [] [])] [26,27,36,0,1,2,3,4,6,16,17,18] ((26,.d (Bo true))::(27,fnY l)::(36,.agg [I x.Kind,I x.Number,Bo h])::fS l x0 x1 x2 x3 now p.length) hs2 (by kernel_rfl) ⟨⟨eH,kH _ _ _ hb⟩,(λ_=>⟨eM,kM _ _ _ _ _ _ hh⟩),trivial⟩ (by kernel_rfl) (by kernel_rfl) [15,16,17] (by kernel_rfl) λR3 a3 w3 hs3=>?_;obtain⟨S3,hE3,hP3⟩:=back _ _ _ _ (by rfl) hs3;obtain⟨T3,hJ3,hQ3⟩:=ju hJ hP hJw hE3 hP3;clear hs3 hE3 hP3 hs2 back;have h26:a3.eval (.tmp 26)=.bool true:=(hQ3.get (t:=26) (av:=.d (Bo true)) (by kernel_rfl)).exact_inv;have h27:a3.eval (.tmp 27)=.func (.yield l) #[] #[]:=by
    obtain⟨xs,cs,e,hx1,hx2⟩:=(hQ3.get (t:=27) (av:=fnY l) (by kernel_rfl)).d_inv.fn_inv;cases xs with
    |cons=>exact hx1.elim
    |nil=>cases cs with
     |cons=>exact hx2.elim
     |nil=>exact e
   have h36:a3.eval (.tmp 36)=.agg #[.int .i64 x.Kind,.int .i64 x.Number,.bool h]:=by
    obtain⟨vs,e,hv⟩:=(hQ3.get (t:=36) (av:=.agg [I x.Kind,I x.Number,Bo h]) (by kernel_rfl)).agg_inv
    match vs,hv with
    | [v1,v2,v3],hv=>rw[e,hv.1.p_inv.v_form,hv.2.1.p_inv.v_form,hv.2.2.1.p_inv.v_form]
   have hy:=hY vs ⟨x,h⟩ rs' T3 w3 hJ3 hus;have he:Qm ⟨x,h⟩ = #[a3.eval (.tmp 36)]:=by rw[h36];rfl
   rw[he]at hy;refine Aip (d:=some 37) (c:=⟨.value (.tmp 27),#[.tmp 36],#[98]⟩) (g:=some (4,true)) (by kernel_rfl) rfl rfl rfl (λj b e=>by cases e;exact⟨26,by kernel_rfl,h26⟩) h27 hy ?_;rintro e w4 (⟨rfl,hJ4,hw4,hz4⟩|⟨rfl,hJx⟩)
   .refine⟨_,rfl,?_⟩;have hQ4:=(hQ3.mono hw4 hz4).put (t:=37) (.bool true) (.d (Bo true)) (by decide) (.d (.p (.v _ rfl)));have h37:=(hQ4.get (t:=37) (av:=.d (Bo true)) (by kernel_rfl)).exact_inv;have h26:=(hQ4.get (t:=26) (av:=.d (Bo true)) (by kernel_rfl)).exact_inv;refine M3 (d:=some 38) (op:=.unOp .not 4 (.tmp 37)) (g:=some (4,true)) (.bool false) (by kernel_rfl) (λ_=>nofun) (λj b e=>by cases e;exact⟨26,by kernel_rfl,h26⟩) (λo ho=>?_) ?_
    .unfold execOp;rw[ho];simp only[h37];rfl
    have hQ5:=hQ4.put (t:=38) (.bool false) (.d (Bo false)) (by decide) (.d (.p (.v _ rfl)));have h38:=(hQ5.get (t:=38) (av:=.d (Bo false)) (by kernel_rfl)).exact_inv;have h26':=(hQ5.get (t:=26) (av:=.d (Bo true)) (by kernel_rfl)).exact_inv;refine M3 (d:=some 39) (op:=.pick (.tmp 26) (.tmp 38) (.const (.bool false))) (g:=none) (.bool false) (by kernel_rfl) (λ_=>nofun) (λ_ _ h=>by cases h) (λo ho=>?_) ?_
    .unfold execOp;rw[ho];simp only[h26',h38];rfl
    have hQ6:=(hQ5.put (t:=39) (.bool false) (.d (Bo false)) (by decide) (.d (.p (.v _ rfl)))).sub (st':=(39,.d (Bo false))::fS l x0 x1 x2 x3 now p.length) [39,0,1,2,3,4,6,16,17,18] (by kernel_rfl);clear hQ3 hQ4 hQ5 h26 h26';refine Pu.run hQ6 λD2 hE1 hE2 back2=>?_;refine Dl (bs:=[(false,false)]) Cf lvI 4 [false] [] [] 0 [] (fS l x0 x1 x2 x3 now (p.length+1)) [] (by rw[hE1];exact af _) trivial ⟨rfl,trivial⟩ (by kernel_rfl) ?_;intro a5 w5 hs4;obtain⟨S4,hE4,hP4⟩:=back2 _ _ _ _ (by rfl) hs4;obtain⟨T4,hJ5,hQ7⟩:=ju hJ hQ6 hJ4 hE4 hP4;exact⟨q.length,by rw[←hqm];simp,p++[x],q,vs++[⟨x,h⟩],rs',T4,by rw[hpq];simp,rfl,hq,by rw[hus];simp,hJ5,by rw[aE];exact hQ7⟩
   .refine⟨_,rfl,?_⟩;have z:a3.tmps.size=41:=hQ3.2.1;refine M3 (d:=some 38) (op:=.unOp .not 4 (.tmp 37)) (g:=some (4,true)) (.bool true) (by kernel_rfl) (λ_=>nofun) (λj b e=>by cases e;exact⟨26,by kernel_rfl,(Adx (by decide)).trans h26⟩) (λo ho=>?_) ?_
    .unfold execOp;rw[ho];simp only[U3 (a:=a3) (t:=37) (v:=.bool false) (by rw[z];decide)];rfl
    refine M3 (d:=some 39) (op:=.pick (.tmp 26) (.tmp 38) (.const (.bool false))) (g:=none) (.bool true) (by kernel_rfl) (λ_=>nofun) (λ_ _ h=>by cases h) (λo ho=>?_) ?_
    .unfold execOp;rw[ho];simp only[Adx (a:=a3.put (some 37) (.bool false)) (t:=38) (u:=26) (v:=.bool true) (by decide),Adx (a:=a3) (t:=37) (u:=26) (v:=.bool false) (by decide),h26,U3 (a:=a3.put (some 37) (.bool false)) (t:=38) (v:=.bool true) (by simp[Act.put,z])];rfl
    refine K3 39 true (U3 (by simp[Act.put,z])) 1 (by kernel_rfl) ?_;refine A2e (by kernel_rfl) ?_;show LeavesInM Fence.wide 2 Tryz.prog _ _ _ a3.defers .returning w4;rw[hQ3.1];exact⟨_,results_none rfl _ _ _,⟨_,rfl⟩,.inr hJx⟩
end Go.Proofs.YtiaaaghdkhnonaaGreat
