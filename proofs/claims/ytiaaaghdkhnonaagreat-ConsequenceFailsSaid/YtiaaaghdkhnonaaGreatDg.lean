import Derived.Test.YtiaaaghdkhnonaaGreatDs
import Derived.Test.YtiaaaghdkhnonaaGreatSg
import Derived.Test.YtiaaaghdkhnonaaGreatIn
set_option linter.unusedVariables false
set_option linter.unusedSimpArgs false
namespace Go.Proofs.YtiaaaghdkhnonaaGreat
open Go Go.RowKit Go.SL Go.Lib
theorem Amz(n:Nat)(hn:n*16<=140737488355328)(w:World):Calls Tryz.prog 108 #[.slice none 0 0,.int .i64 (n:Int)] w λe w'=>
  ∃v,e=.returned v/\(∀k,k<w.heap.size->w'.heap[k]?=w.heap[k]?)/\w.heap.size<=w'.heap.size/\w'.os=w.os/\Tp w w'/\w'.output=w.output/\v.oneCell'=true/\(∀S,Ox S w' 88 2 [] v)/\∀b,(Res.sl 88 2 []).foot v b->w.heap.size<=b/\b<w'.heap.size:=by
 rcases Nat.eq_zero_or_pos n with h0|h0
 .subst h0;refine Calls.mono (Any8.slices_Grow_room (P:=Tryz.prog) (ρ:=dp) dA none 0 0 0 w (by omega) (by omega) (by omega) (by omega)) λe w' ⟨he,hw⟩=>?_;subst he hw;exact⟨_,rfl,λ_ _=>rfl,af _,rfl,⟨rfl,λ_=>af _⟩,rfl,rfl,λ_=>.inl ⟨rfl,rfl⟩,by simp[Res.foot]⟩
 .obtain⟨i0,hi0,hz0,hzs,hzb⟩:=Azk;refine Calls.mono (Any8.slices_Grow_grow (P:=Tryz.prog) (ρ:=dp) dA i0 Hp hi0 hz0 (by rw[hzs];decide) none 0 0 n [] w (by omega) (by omega) (by rw[hzb];omega) (by omega) (by simp) (λ_=>rfl) (λa h=>by cases h)) λe w' ⟨he,hw⟩=>?_;subst he hw;have hg1:0+n<=grownCap w (0+n) 0 88:=grownCap_ge w _ _ _;have hg2:grownCap w (0+n) 0 88<=maxLen:=grownCap_le_maxLen w _ 0 88 (by unfold maxLen;omega);refine⟨_,rfl,λk hk=>Cu w.drew _ k hk,by simp,rfl,⟨rfl,λ_=>aO _⟩,rfl,rfl,λS=>.inr ⟨w.heap.size,0,_,_,rfl,Blk.of (Fz w.drew _),by simp,hg2,?_,by simp,by simp⟩,λk hk=>?_⟩
  .have hzc:Hp.cells = #[.int .i64 0,.int .i64 0]:=rfl;rw[aN]at hg1;simp[Builtin.zeroCells,hzc];show grownCap w n 0 88*2<=n*2+(grownCap w n 0 88-n)*2;omega
  .simp[Res.foot]at hk;subst hk;exact⟨af _,by simp⟩
def K0(B:Nat)(x:List (List a_)):Option (List a_):=bif decide (x.flatten.length*(B+1)<=140737488355328)then some x.flatten else none
def szF(_:Nat)(x:List a_)(z:Int):Option (Ctl Int Unit):=bif decide (w64 (z+(x.length:Int))<0)then none else some (.next (w64 (z+(x.length:Int))))
theorem Ajj:∀(l:List (List a_))(i k:Nat),k+l.flatten.length<=140737488355328->foldI szF l i (k:Int)=some (.next ((k+l.flatten.length:Nat):Int))
 | [],i,k,h=>rfl
 | x::l,i,k,h=>by
  rw[bQ,aE]at h;have e:w64 ((k:Int)+(x.length:Int))=((k+x.length:Nat):Int):=by unfold w64;rw[IntKind.wrap_i64];omega
  have e1:szF i x (k:Int)=some (.next ((k+x.length:Nat):Int)):=by unfold szF;rw[e,dV (by omega)];rfl
  simp only[foldI];rw[e1];simp only;rw[Ajj l (i+1) (k+x.length) (by omega),bQ,aE,bl]
def apF(_:Nat)(x:List a_)(z:List a_):Option (Ctl (List a_) Unit):=(appI 17 z x).bind λy=>some (.next y)
theorem Aki:∀(l:List (List a_))(i:Nat)(z:List a_),(z.length+l.flatten.length)*17<=140737488355328->foldI apF l i z=some (.next (z++l.flatten))
 | [],i,z,h=>by simp[foldI]
 | x::l,i,z,h=>by
  rw[bQ,aE]at h;have e:appI 17 z x=some (z++x):=by unfold appI;rw[dU (by omega)];rfl
  have e1:apF i x z=some (.next (z++x)):=by unfold apF;rw[e];rfl
  simp only[foldI];rw[e1];simp only;rw[Aki l (i+1) (z++x) (by rw[aE];omega),bQ,bo]
def lvC:eR:=[0,2,3,5,6,8,9,10,11,12,20,25,26,27,28]
def stC(x0:List (List a_))(i:Nat)(z:Int):St:=[(0,.d (DS (pL q88) x0)),(3,.d (I z)),(9,.d (DS (pL q88) x0)),(10,.d (I (x0.length:Int))),(11,.d (I (cnt 0 i)))]
def stE(x0:List (List a_))(i:Nat)(z:List a_):St:=[(6,.d (.os 0)),(25,.d (DS (pL q88) x0)),(26,.d (I (x0.length:Int))),(27,.d (I (cnt 0 i)))]
def RE(_:Nat)(z:List a_):List Res:=[.sl 88 2 (z.map q88)]
set_option maxRecDepth 100000 in
theorem Aka(b:Bool)(x0:List (List a_))(r:List a_)(h:K0 16 x0=some r):CallOk Tryz.prog 52 [.d (DS (pL q88) x0)] [] (bif b then .d (.os 0) else .d (DS q88 r)) (bif b then [.sl 88 2 (r.map q88)] else []):=by
 unfold K0 at h;have hb:decide (x0.flatten.length*(16+1)<=140737488355328)=true:=by
  cases hq:decide (x0.flatten.length*(16+1)<=140737488355328) with
  |true=>rfl
  |false=>rw[hq]at h;cases h
 rw[hb]at h;have hr:=bj h;subst hr;have hb:=dX hb;clear h;refine Fb 36 Tryz.func52 rfl rfl rfl λC hC=>?_;refine Dl (bs:=[]) Cf lvC 30 [] [.len ((x0.map (pL q88)).length:Int) (x0.length:Int)] [] 0 [] (stC x0 0 0) [] hC ⟨H9 _ _,trivial⟩ trivial (by kernel_rfl) ?_;refine Rx (by kernel_rfl) (λs:Int=>s=((0+x0.flatten.length:Nat):Int)) (λz=>[(0,.d (DS (pL q88) x0)),(3,.d (I z))]) (λ_=>[]) ?_ λz0 hs0=>?_
 .refine Ry (by kernel_rfl) ?_;refine Rw 9 rfl λhl0=>?_;refine Pn (by kernel_rfl) szF (stC x0) (λ_ _=>[]) (.next ((0+x0.flatten.length:Nat):Int)) x0 0 (Ajj x0 0 0 (by omega)) rfl rfl (λz hn=>?_) λn0 a0 z0 k0 hi0 hx0 h hb0 hr0=>?_
  .exact Hf (bs:=[(decide ((cnt 0 x0.length)<(x0.length:Int)),false)]) (φ:=λs:Int=>s=((0+x0.flatten.length:Nat):Int)) (st':=λz=>[(0,.d (DS (pL q88) x0)),(3,.d (I z))]) (R':=λ_=>[]) Cf lvC 30 [false] [] [] 0 [] z hC trivial ⟨Ot hl0,trivial⟩ (by kernel_rfl) (by kernel_rfl) (by injection hn with hn;exact hn.symm)
  .unfold szF at h;rcases A0c (decide (w64 (z0+(a0.length:Int))<0)) with h1|h1
   .rw[h1]at h;cases h
   .replace h:=Azp h1 h;exact Hf (bs:=[(decide ((cnt 0 n0)<(x0.length:Int)),true),(decide (w64 (z0+(a0.length:Int))<0),false)]) (φ:=λs'=>k0=.next s') (st':=(stC x0 (n0+1))) (R':=λ_=>[]) Cf lvC 30 [true,false] [.row (x0.map (pL q88)) (cnt 0 n0) (pL q88 a0),.len ((a0.map q88).length:Int) (a0.length:Int)] [] 0 [] (w64 (z0+(a0.length:Int))) hC ⟨(Bp hx0 hl0),H9 _ _,trivial⟩ ⟨(Ph hi0 hl0),h1,trivial⟩ (by kernel_rfl) (by kernel_rfl) (bj h).symm
 .subst hs0;intro a w hs;have hm:=Md.of rfl hs;refine A2d (by kernel_rfl) ?_;refine K2 (by kernel_rfl) [0,1,2] (by kernel_rfl) ?_;refine hm.ops (is:=[0]) (js:=[1,2]) (cls:=[]) [0,23] [(0,.d (DS (pL q88) x0)),(23,.d (I ((0+x0.flatten.length:Nat):Int)))] [] trivial (by kernel_rfl) λa1 w1 hm1 hk1=>?_;have e23:a1.eval (.tmp 23)=.int .i64 ((0+x0.flatten.length:Nat):Int):=hm1.exact rfl;refine Aju (d:=some 24) (op:=.call {callee:=.value (.func 108),args:=#[.const (.slice none 0 0),.tmp 23],argTypes:=#[23,3]}) 108 #[.slice none 0 0,.int .i64 ((0+x0.flatten.length:Nat):Int)] 23 (by kernel_rfl) nofun (λo ho _=>?_) ?_
  .obtain⟨o1,o2,o3,o4,o5,o6⟩:=o;simp only at ho;subst ho;have hent:=(Go.SL.Dt Tryz.func108 (by kernel_rfl) (by kernel_rfl):Fe Tryz.prog 108) #[.slice none 0 0,.int .i64 ((0+x0.flatten.length:Nat):Int)] w1;have e1:a1.eval (.func 108)=.func (.func 108) #[] #[]:=rfl;have e2:a1.eval (.const (.slice none 0 0))=.slice none 0 0:=rfl;simp only[execOp,resolve,e1];simp[Deferred.ofValue,e2,e23];simp[invoke,hent]
  refine Calls.mono (Amz _ (by omega) w1) λe w2 ⟨v,hv,k1,k2,k3,k4,k5,k6,k7,k8⟩=>⟨v,hv,?_⟩;refine Jh (d:=some 6) (op:=.assign (.tmp 24)) v w2 23 (by kernel_rfl) nofun (λo ho _=>?_) ?_
  .obtain⟨o1,o2,o3,o4,o5,o6⟩:=o;simp only at ho;subst ho;have:(a1.put (some 24) v).eval (.tmp 24)=v:=by
    simp[Act.eval,Act.put,eu,hm1.2.1]
   show Sem.run Tryz.prog (pure (Next.value ((a1.put (some 24) v).eval (.tmp 24)))) _=_;rw[this];rfl
  have hm2:=((hm1.put0 (t:=24) v).push (t:=6) v (by decide) k1 k2 k3 k4 k5 k6 k7 k8).sub (st':=[(0,.d (DS (pL q88) x0)),(6,.d (.os 0))]) [0,6] (by kernel_rfl);refine hm2.run λD hDh hDd hup hback=>?_;have hC:D.h.length<=0:=by rw[hDh];exact hC
  refine Dl (bs:=[]) Cf lvC 30 [] [.len ((x0.map (pL q88)).length:Int) (x0.length:Int)] [] 0 [0] (stE x0 0 []) (RE 0 []) hC ⟨H9 _ _,trivial⟩ trivial (by kernel_rfl) ?_;refine Rx (by kernel_rfl) (λs:List a_=>s=[]++x0.flatten) (λz=>[(6,.d (.os 0))]) (RE 0) ?_ λz0 hs0=>?_
  .refine Ry (by kernel_rfl) ?_;refine Rw 25 rfl λhl0=>?_;refine Pn (by kernel_rfl) apF (stE x0) RE (.next ([]++x0.flatten)) x0 [] (Aki x0 0 [] (by show (0+x0.flatten.length)*17<=_;omega)) rfl rfl (λz hn=>?_) λn0 a0 z0 k0 hi0 hx0 h hb0 hr0=>?_
   .exact Hf (bs:=[(decide ((cnt 0 x0.length)<(x0.length:Int)),false)]) (φ:=λs:List a_=>s=[]++x0.flatten) (st':=λz=>[(6,.d (.os 0))]) (R':=RE 0) Cf lvC 30 [false] [] [] 0 [0] z hC trivial ⟨Ot hl0,trivial⟩ (by kernel_rfl) (by kernel_rfl) (by injection hn with hn;exact hn.symm)
   .unfold apF at h;obtain⟨y2,h3,h⟩:=Db h;exact Hf (bs:=[(decide ((cnt 0 n0)<(x0.length:Int)),true)]) (φ:=λs'=>k0=.next s') (st':=(stE x0 (n0+1))) (R':=(RE (n0+1))) Cf lvC 30 [true] [.row (x0.map (pL q88)) (cnt 0 n0) (pL q88 a0),.app (z0.map q88) (a0.map q88) 2 (((z0.map q88).length+(a0.map q88).length)*(16+1)) (y2.map q88)] [] 0 [1] y2 hC ⟨(Bp hx0 hl0),A7 q88 2 (λ_=>rfl) h3,trivial⟩ ⟨(Ph hi0 hl0),trivial⟩ (by kernel_rfl) (by kernel_rfl) (bj h).symm
  .subst hs0;cases b with
   |true=>exact Mi (bs:=[]) Cf lvC 30 [] [] [] [.tmp 2] 0 [0] rfl hC trivial trivial (by kernel_rfl) hup
   |false=>exact Mi (bs:=[]) Cf lvC 30 [] [] [.frz 0] [.tmp 2] 0 [] rfl hC trivial trivial (by kernel_rfl) hup
theorem A1t(x0:List (List a_))(r:List a_)(h:K0 16 x0=some r):CallOk Tryz.prog 52 [.d (DS (pL q88) x0)] [] (.d (.os 0)) [.sl 88 2 (r.map q88)]:=Aka true x0 r h
theorem A1u(x0:List (List a_))(r:List a_)(h:K0 16 x0=some r):CallOk Tryz.prog 52 [.d (DS (pL q88) x0)] [] (.d (DS q88 r)) []:=Aka false x0 r h
def Apr(FC:List a_->Option (List a_))(x0 x1:List a_):Option (List a_):=(K0 16 [x0,x1]).bind λy=>FC (I_ y)
theorem A3a(FC:List a_->Option (List a_))(kC:∀x r,FC x=some r->CallOk Tryz.prog 134 [.d (.os 0)] [.sl 88 2 (x.map q88)] (.d (.os 1)) [.non,.sl 88 2 (r.map q88)])(hcmp:vQ)(x0 x1 r:List a_)(h:Apr FC x0 x1=some r):CallOk Tryz.prog 68 [.d (DS q88 x0),.d (DS q88 x1)] [] (.d (DS q88 r)) []:=by
 obtain⟨y,h1,h2⟩:=Db h;have hl:y.length<4611686018427387904:=by
  unfold K0 at h1;cases hq:decide (([x0,x1]:List (List a_)).flatten.length*(16+1)<=140737488355328) with
  |false=>rw[hq]at h1;cases h1
  |true=>rw[hq]at h1;cases h1;have:=dX hq;omega
 refine Fb 14 Tryz.func68 rfl rfl rfl λC hC=>?_;exact Kd (bs:=[]) Cf [0,1,4,5] 30 [] [.call 52 [.d (DS (pL q88) [x0,x1])] [] (.d (.os 0)) [.sl 88 2 (y.map q88)] [],.call 106 [.d (.os 0),.d (.fn (.func 107) [] [])] [.sl 88 2 (y.map q88)] (.tup []) [.sl 88 2 ((I_ y).map q88)] [0],.call 134 [.d (.os 0)] [.sl 88 2 ((I_ y).map q88)] (.d (.os 1)) [.non,.sl 88 2 (r.map q88)] [0]] [.frz 1] [.tmp 4] 0 [] rfl hC ⟨⟨Go.SL.Dt Tryz.func52 (by kernel_rfl) (by kernel_rfl),A1t _ _ h1⟩,⟨Go.SL.Dt Tryz.func106 (by kernel_rfl) (by kernel_rfl),Aze hcmp y hl⟩,⟨Go.SL.Dt Tryz.func134 (by kernel_rfl) (by kernel_rfl),kC _ _ h2⟩,trivial⟩ trivial (by kernel_rfl)
end Go.Proofs.YtiaaaghdkhnonaaGreat
