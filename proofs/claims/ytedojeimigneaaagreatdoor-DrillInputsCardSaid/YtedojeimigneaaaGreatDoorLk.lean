import Derived.Test.YtedojeimigneaaaGreatDoorBk
import Derived.Test.YtedojeimigneaaaGreatDoorFm
set_option linter.unusedVariables false
namespace Go.Proofs.YtedojeimigneaaaGreatDoor
open Go Go.SL
theorem mixedB:Tryz.prog.follows .mixedOrders=true:=by kernel_rfl
theorem yO{P:Program}{n kp:Nat}{ps:Array Tmp}{asg bd:Code}{stO:St}{α:Type}{enc:α->List AV}{R0:List Res}{test:α->Bool}{R1:α->List Res}(h0:∀x,test x=false->Mc P n kp ps asg bd stO (enc x) R0 false R0)(h1:∀x,test x=true->Mc P n kp ps asg bd stO (enc x) R0 true (R1 x)) :
  ∀l:List α,Ih P n kp ps asg bd stO (l.map enc) R0 (l.any test) (match l.find? test with|some x=>R1 x|none=>R0)
 | []=>.nil
 | x::l=>by
  cases hx:test x with
  |true=>rw[List.any_cons,List.find?_cons,hx];exact .ret (h1 x hx)
  |false=>rw[List.any_cons,List.find?_cons,hx];exact .next (h0 x hx) (yO h0 h1 l)
theorem bwF(x0:List Am):CallOk Tryz.prog 245 [.d (DS B_ x0)] [] (.d (.fn (.func 362) [] [.o 0 0])) [.box 61 [DS B_ x0]]:=by refine Hu 4 Tryz.func245 rfl rfl rfl λC hC=>?_;exact Ri (bs:=[]) mixedB [1,2] 40 [] [] [] [.tmp 2] 0 [0] rfl hC trivial trivial (by kernel_rfl)
theorem Bei:Dl Tryz.prog 245:=Go.SL.Ej Tryz.func245 (by kernel_rfl) (by kernel_rfl)
theorem Be9:J5 Tryz.prog 362 [.ip [.s []]] []:=by refine yU (res:=.tup []) (Go.SL.Ej Tryz.func362 (by kernel_rfl) (by kernel_rfl)) ?_;refine Hu 19 Tryz.func362 rfl rfl rfl λC hC=>?_;exact vK (bs:=[(false,false)]) mixedB [] 60 [true,true,false] [.len 0 0] [] [] 0 [] rfl hC ⟨rfl,trivial⟩ ⟨rfl,trivial⟩ (by kernel_rfl) (by kernel_rfl)
def tsF(p:Aa)(x:Nat×Am):Bool:=(x.2.Part.Kind==p.Kind)&&((x.2.Part.Number==p.Number)&&true)
def enF(x:Nat×Am):List AV:=[.d (.p (xi (x.1:Int))),.agg (Vj x.2)]
def R0F(p:Aa)(k:Int):List Res:=[.box 122 (O9 p),.box 3 [I k]]
def stF(l:List Am):St:=[(3,.d (.o 0 0)),(4,.d (.o 1 0)),(8,.d (.fn (.func 362) [] [.ip [.s (l.map B_)]]))]
def stG:St:=[(3,.d (.o 0 0)),(4,.d (.o 1 0))]
def stH:St:=[(3,.d (.o 0 0)),(4,.d (.o 1 0)),(6,.d (.o 2 0))]
theorem A37(p:Aa)(x:Nat×Am){asg bd:Code}{kp:Nat}(hkp:kp=2)
  (ha:∀(f:Am)(i:Int),B7 Tryz.prog 17 [3,4,6] 30 [.c asg] (stG++prm #[9,10] [.d (.p (xi i)),.agg (Vj f)]) (R0F p 0) [] [] [] 2 [0,1,2] [3,4,6]=some (stH,R0F p 0++[.box 124 (Vj f)],[],[]))
  (hb0:∀f:Am,B7 Tryz.prog 17 [] 30 [.c bd] stH (R0F p 0++[.box 124 (Vj f)]) [false] [] [] 2 [0,1] []=some ([],R0F p 0,[],[(tsF p (0,f),false)]))
  (hs0:Ba 30 [.c bd] [false]=[]/\Ba 30 [.c asg] []=[])
  (hb1:∀f:Am,qO Tryz.prog 17 [] 30 [.c bd] stH (R0F p 0++[.box 124 (Vj f)]) [true] [] [] 2 [0,1]=some (R0F p f.Kind,[],[(tsF p (0,f),true)])) :
  (tsF p x=false->Mc Tryz.prog 17 kp #[9,10] asg bd stG (enF x) (R0F p 0) false (R0F p 0))/\(tsF p x=true->Mc Tryz.prog 17 kp #[9,10] asg bd stG (enF x) (R0F p 0) true (R0F p x.2.Kind)):=by
 subst hkp;obtain⟨i,f⟩:=x;have hasg:∀(l:Nat)(C':Ctx),C'.h.length<=2->C'.df=[]->∀a w,Sat 17 C' (mkL (stG++prm #[9,10] (enF (i,f)))) (R0F p 0) a w->asg.wpIn (FR (some l)) 0 Tryz.prog (λe a w=>e=.normal/\Sat 17 C' (mkL stH) (R0F p 0++[.box 124 (Vj f)]) a w) a w:=λl C' hC _ a w hs=>by refine Kr (ro:=some l) (bs:=[]) (Q:=λe a w=>e=.normal/\Sat 17 C' (mkL stH) (R0F p 0++[.box 124 (Vj f)]) a w) mixedB [3,4,6] 30 [] [] [] 2 [0,1,2] [3,4,6] stH _ hC trivial trivial (ha f i) ?_ a w hs;rw[hs0.2];exact λa w hs=>⟨rfl,hs⟩
 refine⟨λht=>⟨stH,_,hasg,λl C' hC _ a w hs=>?_⟩,λht=>⟨stH,_,hasg,λl C' hC _ a w hs=>?_⟩⟩
 .refine Kr (ro:=some l) (bs:=[(tsF p (0,f),false)]) (Q:=λe a w=>(e=.normal/\false=false\/e=.ret/\false=true)/\Sat 17 C' [] (R0F p 0) a w) mixedB [] 30 [false] [] [] 2 [0,1] [] [] _ hC trivial ⟨ht,trivial⟩ (hb0 f) ?_ a w hs;rw[hs0.1];exact λa w hs=>⟨.inl ⟨rfl,rfl⟩,hs⟩
 .have:=A2t (ro:=some l) (bs:=[(tsF p (0,f),true)]) (kk:=(.ret f.Kind:Ctl Unit Int)) (Rr:=λk=>R0F p k) mixedB [] 30 [true] [] [] 2 [0,1] f.Kind hC trivial ⟨ht,trivial⟩ (hb1 f) rfl a w hs;refine wpIn_mono this ?_;rintro e a w ⟨rfl,v,hv,hs⟩;cases hv;exact⟨.inr ⟨rfl,rfl⟩,hs⟩
theorem A8o(l:List Am):enR (l.map B_)=(((List.range l.length).zip l).reverse).map enF:=by unfold enR;rw[aq,List.zip_map_right,←List.map_reverse,cC];rfl
theorem A82(l:List Am):J5 Tryz.prog 362 [.ip [.s (l.map B_)]] (((List.range l.length).zip l).reverse.map enF):=by
 cases l with
 |nil=>exact Be9
 | cons f l=>
  rw[←A8o];exact Ala _ (by simp) λr hr=>by obtain⟨f,_,rfl⟩:=aA.1 hr;rfl
theorem yS(p:Aa):∀(l:List Am)(n:Nat)(k:Int),l.foldl (λk f=>bif f.Part.Kind==p.Kind&&f.Part.Number==p.Number then f.Kind else k) k=match (((List.range' n l.length).zip l).reverse).find? (tsF p) with
  |some y=>y.2.Kind
  |none=>k
 | [],_,_=>rfl
 | f::l,n,k=>by
  rw[bq,yS p l (n+1),aT,List.range'_succ,cd,List.reverse_cons,List.find?_append];cases hf:((List.range' (n+1) l.length).zip l).reverse.find? (tsF p) with
  |some y=>rfl
  |none=>
   have e:tsF p (n,f)=(f.Part.Kind==p.Kind&&f.Part.Number==p.Number):=by unfold tsF;rw[bM]
   simp only[Option.none_or,List.find?_cons,e,List.find?_nil];cases f.Part.Kind==p.Kind&&f.Part.Number==p.Number <;> rfl
def rgA:Code->Code
 |.rangeFunc _ _ a _=>a
 |_=>.skip
def rgB:Code->Code
 |.rangeFunc _ _ _ b=>b
 |_=>.skip
theorem A48:Ba 40 [.c (Tryz.f155.body.getD .skip)] []=.c (.rangeFunc (.tmp 8) #[9,10] (rgA (hdC (Ba 40 [.c (Tryz.f155.body.getD .skip)] []))) (rgB (hdC (Ba 40 [.c (Tryz.f155.body.getD .skip)] []))))::(Ba 40 [.c (Tryz.f155.body.getD .skip)] []).tail:=by kernel_rfl
theorem A8c(x0:List Am)(x1:Aa)(r:Int)(h:A0d x0 x1=some r):CallOk Tryz.prog 155 [.d (DS B_ x0),.agg (O9 x1)] [] (.d (I r)) []:=by
 have hr:=(aQ h).symm.trans (yS x1 x0 0 2);rw[←List.range_eq_range']at hr;have rd:=λy=>A37 x1 y (asg:=rgA (hdC (Ba 40 [.c (Tryz.f155.body.getD .skip)] []))) (bd:=rgB (hdC (Ba 40 [.c (Tryz.f155.body.getD .skip)] []))) (kp:=2) rfl (λf i=>by kernel_rfl) (λf=>by kernel_rfl) ⟨by kernel_rfl,by kernel_rfl⟩ (λf=>by kernel_rfl);have hrd:=yO (kp:=2) (λy=>(rd y).1) (λy=>(rd y).2) ((List.range x0.length).zip x0).reverse;refine Hu (c:=Tryz.f155.body.getD .skip) 17 Tryz.func155 rfl rfl rfl λC hC=>?_;refine Kr (bs:=[]) mixedB [] 40 [] [.call 245 [.d (DS B_ x0)] [] (.d (.fn (.func 362) [] [.o 0 0])) [.box 61 [DS B_ x0]] []] [.bx 2] 0 [0,1] [3,4,8] (stF x0) (R0F x1 0) hC ⟨⟨Bei,bwF x0⟩,trivial⟩ trivial (by kernel_rfl) ?_;intro a w hs;change Qs none _ (Ba 40 [.c (Tryz.f155.body.getD .skip)] []) _ _ _ _;rw[A48];have hC2:C.h.length<=2:=ay hC (by decide);refine Sb (C0:=C.z) (by kernel_rfl) (A82 x0) (by kernel_rfl) stG (λe he=>?_) (by kernel_rfl) (by kernel_rfl) (by kernel_rfl) (λx hx=>?_) rfl (dp rfl) 2 (by kernel_rfl) hC2 hrd (λC2 hh hup hb a w hs=>?_) (λC2 hh hup hb a w hs=>?_) hs
 .simp only[stG,stF,mkL,bv,List.map_nil,ah,aV,or_false]at he ⊢;rcases he with rfl|rfl
  .exact .inl rfl
  .exact .inr (.inl rfl)
 .obtain⟨y,_,rfl⟩:=aA.1 hx;rfl
 .have hC3:C2.h.length<=0:=by rw[hh];exact hC
  cases hf:((List.range x0.length).zip x0).reverse.find? (tsF x1) with
  |some y=>have:=List.find?_some hf;rw[bN]at hb;exact absurd this (hb y (List.mem_of_find?_eq_some hf))
  |none=>rw[hf]at hs hr;subst hr;exact Rh (bs:=[]) mixedB [] 40 [] [] [] [.cell 4 3] 0 [] rfl hC3 trivial trivial (by kernel_rfl) hup a w hs
 .have hC3:C2.h.length<=0:=by rw[hh];exact hC
  cases hf:((List.range x0.length).zip x0).reverse.find? (tsF x1) with
  |none=>rw[List.find?_eq_none]at hf;obtain⟨y,hy,ht⟩:=List.any_eq_true.1 hb;exact absurd ht (hf y hy)
  |some y=>rw[hf]at hs hr;subst hr;exact Sat.retM [] [.cell 4 3] 0 [] rfl hC3 (by kernel_rfl) hup hs
end Go.Proofs.YtedojeimigneaaaGreatDoor
