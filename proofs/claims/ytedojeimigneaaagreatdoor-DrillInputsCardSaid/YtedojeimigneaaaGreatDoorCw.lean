import Derived.Maps.Views
import Derived.Maps.OwnSet
import Derived.Maps.OwnOps
import Derived.StringKeys
import Derived.Test.YtedojeimigneaaaGreatDoorSh
import Derived.Test.YtedojeimigneaaaGreatDoorFm
import Derived.Test.YtedojeimigneaaaGreatDoorProg
set_option linter.unusedVariables false
set_option linter.unusedSimpArgs false
namespace Go.Proofs.YtedojeimigneaaaGreatDoor
open Go Go.RowKit Go.SL Go.Maps Go.WideMaps Go.WideShapes
variable{s t:ByteArray}{seen:List ByteArray}{b n:Nat}{w:World}
theorem mixedC:Tryz.prog.follows .mixedOrders=true:=by kernel_rfl
def Nb(w:World)(b n:Nat)(seen:List ByteArray):Prop:=∃D:DataW Unit,w.ownsMap Tryz.prog 9 (plainElem Tryz.prog 4) b n D/\∀s:ByteArray,D.atKey (.string s.data.toList) (.lit (.bool false))=.lit (.bool (seen.any (· == s)))
theorem Aul(h:s.data.toList=t.data.toList):s=t:=by obtain⟨⟨a⟩⟩:=s;obtain⟨⟨b⟩⟩:=t;cases h;rfl
theorem Nb.kp{w':World}(h:Nb w b n seen)(k:Kp w w'):Nb w' b n seen:=by obtain⟨D,⟨es,clock,h1,h2⟩,h3⟩:=h;exact⟨D,⟨es,clock,k.obj _ _ h1 rfl,h2⟩,h3⟩
theorem Nb.lt(h:Nb w b n seen):∃o:Obj,w.heap[b]?=some o/\o.isCells=false:=by obtain⟨D,⟨es,clock,h1,h2⟩,h3⟩:=h;exact⟨_,h1,rfl⟩
theorem A4f{P:Program}{e:TypeId}(he:P.underlying e=some .bool){v:Value}{x:Bool}{ps:List MemPlace}(h:plainElem (H:=Unit) P e v=some (.lit (.bool x),ps)):v=.bool x:=by
 unfold plainElem at h;rw[he]at h;split at h
 .simp only[ae,al,DataW.lit.injEq,Lit.bool.injEq]at h;rw[h.1]
 .rename_i h1;cases h1
 .rename_i h1;cases h1
 .cases h
theorem Aei:(s==t)=true↔s=t:=by
 obtain⟨a⟩:=s;obtain⟨b⟩:=t;constructor
 .intro h;have h:(a==b)=true:=h;rw[eq_of_beq h]
 .intro h;cases h;exact beq_self_eq_true a
theorem Nb.look(h:Nb w b n seen)(hs:s.size<=maxLen):(Instr.lookup 340 (.map (some b)) (.string s) false).run Tryz.prog w=.ok (.bool (seen.any (· == s))) w:=by obtain⟨D,h1,h2⟩:=h;have hz:(zeroValue 4).run Tryz.prog w=.ok (.bool false) w:=Fz (by kernel_rfl);obtain⟨v,ps,hr,hv⟩:=h1.lookup (string_keyed Tryz.underlying9) Tryz.underlying340 hz (plainElem_bool Tryz.underlying4 false) (keyOf_string_mk Tryz.underlying9 hs);rw[h2]at hv;rw[hr,A4f Tryz.underlying4 hv]
theorem Nb.put(h:Nb w b n seen)(hs:s.size<=maxLen)(hn:n<maxLen) :
  ∃w',(Instr.mapUpdate 340 (.map (some b)) (.string s) (.bool true)).run Tryz.prog w=.ok () w'/\Nb w' b (n+1) (seen++[s])/\w.grownBy w' (some b):=by
 obtain⟨D,h1,h2⟩:=h;have hk:=keyOf_string_mk Tryz.underlying9 hs;obtain⟨w',hr,ho,hg⟩:=h1.update (string_keyed Tryz.underlying9) Tryz.underlying340 hn hk (plainElem_bool Tryz.underlying4 true);refine⟨w',hr,⟨_,ho,λq=>?_⟩,hg⟩;rw[cr,List.any_cons,List.any_nil,Bool.or_false];by_cases e:q=s
 .subst e;rw[atKey_put_same h1.isMap ((string_keyed Tryz.underlying9).key hk),Aei.2 rfl,Bool.or_true]
 .rw[atKey_put_other (λh=>e (Aul (by injection h))),h2];have:(s==q)=false:=by
   cases hh:s==q with
   |false=>rfl
   |true=>exact absurd (Aei.1 hh).symm e
  rw[this,Bool.or_false]
def lvD:ey:=[0,1,2,3,4,5,6,8,18,21,22,23,24,57,62,63,64,65,75]
def mpN(b:Nat):AV:=.d (.p (.v (.map (some b))))
def stK(x:C6)(b i:Nat):St:=[(1,.d (.o 0 0)),(3,mpN b),(21,.d (DS Gh x.Stages)),(22,.d (I (x.Stages.length:Int))),(23,.d (I (cnt 0 i)))]
def RK(x:C6):List Res:=[.box 58 [DS Gh x.Stages]]
def stL(x:C6)(b i:Nat):St:=stK x b i++[(4,.d (I (cnt 0 i))),(5,.d (.o 1 0))]
def RL(x:C6)(y:Em):List Res:=[.box 58 [DS Gh x.Stages],.box 217 (Be4 y)]
def stN(x:C6)(y:Em)(b i:Nat)(k:Nat)(z:Int):St:=stK x b i++[(4,.d (I (cnt 0 i))),(6,.d (I z)),(62,.d (DS pI y.Needs)),(63,.d (I (y.Needs.length:Int))),(64,.d (I (cnt 0 k)))]
def inN(i:Int)(_:Nat)(n z:Int):Option (Ctl Int Unit):=bif decide (n<=z) || decide (n>=i)then none else some (.next n)
theorem Aoc{i:Int}:∀(l:ez)(k:Nat)(z:Int),Qv i z l=true->∃u,foldI (inN i) l k z=some (.next u)
 | [],_,z,_=>⟨z,rfl⟩
 | n::l,k,z,h=>by
  unfold Qv at h;simp only[aa,dM]at h;obtain⟨u,hu⟩:=Aoc l (k+1) n h.2;refine⟨u,?_⟩;have e:inN i k n z=some (.next n):=by
   unfold inN;have:(decide (n<=z) || decide (n>=i))=false:=by simp;omega
   rw[this];rfl
  simp only[foldI,e,hu]
def tsC(y:Em):Bool:=((((false || decide (y.Ticks<1)) || decide (y.Ticks>600)) || decide (y.Tries<1)) || decide (y.Tries>3))
set_option maxRecDepth 100000 in
theorem A0k(wd:ByteArray->Option Bool)(hw:∀x0:ByteArray,FnOk Tryz.prog 197 [.d (.p (.v (.string x0)))] [] (λr=>.d (Bo r)) (λ_=>[]) (wd x0))(x0:C6)(r:Int)(h:Aa3 wd x0=some r):CallOk Tryz.prog 102 [.agg [DS Gh x0.Stages]] [] (.d (I r)) []:=by
 unfold Aa3 at h;cases hb:(decide (1<=x0.Stages.length)&&decide (x0.Stages.length<=12))&&I4 wd [] x0.Stages with
 |false=>rw[hb]at h;cases h
 |true=>
 rw[hb]at h;injection h with h
 subst h;simp only[aa,dM]at hb;obtain⟨⟨hn1,hn2⟩,hd⟩:=hb;refine Hu 79 Tryz.func102 rfl rfl rfl λC hC=>?_;refine Gt (bs:=[(decide ((x0.Stages.length:Int)<1) || decide ((x0.Stages.length:Int)>12),false)]) mixedC lvD 8 [false] [.len ((x0.Stages.map Gh).length:Int) (x0.Stages.length:Int),.when [(decide ((x0.Stages.length:Int)<1),false)] (.len ((x0.Stages.map Gh).length:Int) (x0.Stages.length:Int))] [] 0 [0] [(1,.d (.o 0 0))] (RK x0) hC ⟨Jy _ _,λ_=>Jy _ _,trivial⟩ ⟨by simp;omega,trivial⟩ (by kernel_rfl) ?_;intro a w hs;have hm:=Md.of rfl hs;refine Me (by kernel_rfl) [0,1] (by kernel_rfl) ?_;refine Kb (d:=some 19) (op:=.makeMap 340 none) (.map (some w.heap.size)) (w.alloc (.map #[] 0)) 340 (by kernel_rfl) nofun (λo ho _=>?_) ?_
 .obtain⟨o1,o2,o3,o4,o5,o6⟩:=o;simp only at ho;subst ho;exact R_ rfl
 refine Kb (d:=some 3) (op:=.assign (.tmp 19)) (.map (some w.heap.size)) (w.alloc (.map #[] 0)) 340 (by kernel_rfl) nofun (λo ho _=>?_) ?_
 .obtain⟨o1,o2,o3,o4,o5,o6⟩:=o;simp only at ho;subst ho;have:(a.put (some 19) (Value.map (some w.heap.size))).eval (.tmp 19)=.map (some w.heap.size):=by
   simp[Act.eval,Act.put,ef,hm.2.1]
  show Sem.run Tryz.prog (pure (Next.value ((a.put (some 19) (Value.map (some w.heap.size))).eval (.tmp 19)))) _=_;rw[this];rfl
 have hset:Nb (w.alloc (.map #[] 0)) w.heap.size 0 []:=⟨.map [],World.ownsMap_made w _ _ _,λs=>rfl⟩;have hCb:C.z.w.heap.size<=w.heap.size:=by obtain⟨_,_,S,ρ,i1,_⟩:=hm;exact i1.size
 obtain⟨b,hbd⟩:∃b,b=w.heap.size:=⟨_,rfl⟩;rw[←hbd]at hset hCb ⊢;have hm1:=((hm.turn (World.grownBy_alloc w (.map #[] 0) none) (λ_=>ai _) (λr e=>by cases e)).put (t:=19) (.map (some b)) (mpN b) (by decide) (λ_ _=>.d (.p (.v _ rfl)))).put (t:=3) (.map (some b)) (mpN b) (by decide) (λ_ _=>.d (.p (.v _ rfl)));have hm2:=hm1.sub (st':=[(1,.d (.o 0 0)),(3,mpN b)]) [1,3] (by kernel_rfl);clear hm hm1 hs;generalize hw1:w.alloc (.map #[] 0)=w1 at hset hm2 ⊢;clear hw1;refine hm2.run λD hDh hDd hup hback=>?_;refine Gt (bs:=[]) mixedC lvD 3 [] [.len ((x0.Stages.map Gh).length:Int) (x0.Stages.length:Int)] [] 0 [0] (stK x0 b 0) (RK x0) (by rw[hDh];exact hC) ⟨Jy _ _,trivial⟩ trivial (by kernel_rfl) ?_;intro a3 w3 hs3;obtain⟨hm3,hk3⟩:=hback _ _ _ _ hs3;have hset3:=hset.kp hk3;clear hback hup hs3 hm2 hset hk3;refine vN (by kernel_rfl) ?_;refine Yj (by kernel_rfl) (λm a w=>∃i,i+m=x0.Stages.length/\I4 wd ((x0.Stages.take i).map (·.Name)) (x0.Stages.drop i)=true/\Nb w b i ((x0.Stages.take i).map (·.Name))/\Md 79 C.z (stK x0 b i) (RK x0) a w) x0.Stages.length ⟨0,aJ _,hd,hset3,hm3⟩ ?_;clear hset3 hm3 a3 w3 w1 hd;rintro m a w ⟨i,him,hd,hset,hm⟩;have hci:cnt 0 i=(i:Int):=by rw[Q9 (by omega)];omega
 match m,him with
 |0,him=>refine hm.run λD hDh hDd hup hback=>?_;exact Rh (bs:=[(decide (cnt 0 i<(x0.Stages.length:Int)),false)]) mixedC lvD 80 [false] [] [] [.tmp 2] 0 [] rfl (by rw[hDh];exact hC) trivial ⟨by rw[hci];simp;omega,trivial⟩ (by kernel_rfl) hup
 |m+1,him=>
 have hi:i<x0.Stages.length:=by omega
 obtain⟨y,hy⟩:∃y,x0.Stages[i]?=some y:=⟨_,ak hi⟩;have hdr:x0.Stages.drop i=y::x0.Stages.drop (i+1):=by
  rw[cR hi];rw[ak hi]at hy;injection hy with hy
  rw[hy]
 have htk:(x0.Stages.take (i+1)).map (·.Name)=(x0.Stages.take i).map (·.Name)++[y.Name]:=by rw[cO,hy];simp
 rw[hdr]at hd;unfold I4 at hd;simp only[aa,aO,dM]at hd;obtain⟨⟨⟨⟨⟨hdw,hds⟩,hdt⟩,hdr2⟩,hdn⟩,hdl⟩:=hd;rw[←htk]at hdl;obtain⟨hwt,hsz⟩:wd y.Name=some true/\y.Name.size<=maxLen:=by
  split at hdw
  .rename_i bb hbb;rw[aa,dM]at hdw;rw[hbb,hdw.1];exact⟨rfl,ay hdw.2 (by decide)⟩
  .cases hdw
 have hlen:((x0.Stages.take i).map (·.Name)).length=i:=by simp;omega
 rw[hlen]at hdn;have hlm:(x0.Stages.map Gh).length<=maxLen:=by rw[aq];unfold maxLen;omega
 refine hm.run λD hDh hDd hup hback=>?_;refine Gt (bs:=[(decide (cnt 0 i<(x0.Stages.length:Int)),true)]) mixedC lvD 11 [true] [.row (x0.Stages.map Gh) (cnt 0 i) (Gh y)] [] 0 [0,1] (stL x0 b i) (RL x0 y) (by rw[hDh];exact hC) ⟨Bu hy hlm,trivial⟩ ⟨Zt hi hlm,trivial⟩ (by kernel_rfl) ?_;intro a3 w3 hs3;obtain⟨hm3,hk3⟩:=hback _ _ _ _ hs3;have hset3:=hset.kp hk3;clear hback hup hs3 hm hset hk3;refine Me (by kernel_rfl) [0,1,2,3,4,5,6,7,8,9,10,11,12,13,14,15,16,17,18,19,20,21,22,23,24,25,26,27,28,29] (by kernel_rfl) ?_;refine hm3.opsP (is:=[0,1,2,3,4,5,6,7]) (js:=[8,9,10,11,12,13,14,15,16,17,18,19,20,21,22,23,24,25,26,27,28,29]) (cls:=[.call 197 [.d (.p (.v (.string y.Name)))] [] (.d (Bo true)) [] []]) [1,3,21,22,23,4,5,32,33,35] (stL x0 b i++[(32,.d (Bo false)),(33,mpN b),(35,.d (.p (.v (.string y.Name))))]) (RL x0 y) ⟨⟨(hw y.Name).en,(hw y.Name).k true hwt⟩,trivial⟩ (by kernel_rfl) λa4 w4 hm4 hk4=>?_;have hset4:=hset3.kp hk4;have e32:a4.eval (.tmp 32)=.bool false:=hm4.exact rfl;have e33:a4.eval (.tmp 33)=.map (some b):=hm4.exact rfl;have e35:a4.eval (.tmp 35)=.string y.Name:=hm4.exact rfl;have hr4:=hset4.look hsz;rw[hds]at hr4;refine A1o (d:=some 36) (op:=.lookup 340 (.tmp 33) (.tmp 35) false) (.bool false) w4 4 4 32 false (by kernel_rfl) (by kernel_rfl) e32 nofun (λo ho _=>?_) ?_
 .obtain⟨o1,o2,o3,o4,o5,o6⟩:=o;simp only at ho;subst ho;show Sem.run _ (do pure (Next.value (←Instr.lookup 340 (a4.eval (.tmp 33)) (a4.eval (.tmp 35)) false))) _=_;rw[e33,e35];exact R_ hr4
 have hm5:=(hm4.put (t:=36) (.bool false) (.d (Bo false)) (by decide) (λ_ _=>.d (.p (.v _ rfl)))).sub (st':=stL x0 b i++[(32,.d (Bo false)),(36,.d (Bo false))]) [1,3,21,22,23,4,5,32,36] (by kernel_rfl);refine hm5.opsP (is:=[9,10,11,12,13,14,15,16,17,18,19,20,21,22,23,24,25,26,27,28,29]) (js:=[]) (cls:=[]) [1,3,21,22,23,4,5,57] (stL x0 b i++[(57,.d (Bo (tsC y)))]) (RL x0 y) trivial (by kernel_rfl) λa6 w6 hm6 hk6=>?_;have hset6:=hset4.kp hk6;clear hm5 hk6 hset4 e32 e33 e35 hm4 hk4 hset3 hm3 hr4;have hts:tsC y=false:=by unfold tsC;simp;omega
 show Qs none Tryz.prog _ _ .normal a6 w6;refine hm6.run λD hDh hDd hup hback=>?_;refine Gt (bs:=[(tsC y,false)]) mixedC lvD 3 [false] [] [] 0 [0,1] (stL x0 b i) (RL x0 y) (by rw[hDh];exact hC) trivial ⟨hts,trivial⟩ (by kernel_rfl) ?_;intro a7 w7 hs7;obtain⟨hm7,hk7⟩:=hback _ _ _ _ hs7;have hset7:=hset6.kp hk7;clear hback hup hs7 hm6 hset6 hk7;refine Me (by kernel_rfl) [0,1,2,3] (by kernel_rfl) ?_;refine hm7.opsP (is:=[0,1,2]) (js:=[3]) (cls:=[]) [1,3,21,22,23,4,5,58,60] (stL x0 b i++[(58,mpN b),(60,.d (.p (.v (.string y.Name))))]) (RL x0 y) trivial (by kernel_rfl) λa8 w8 hm8 hk8=>?_;have hset8:=hset7.kp hk8;have e58:a8.eval (.tmp 58)=.map (some b):=hm8.exact rfl;have e60:a8.eval (.tmp 60)=.string y.Name:=hm8.exact rfl;obtain⟨w9,hr9,hset9,hg9⟩:=hset8.put hsz (by unfold maxLen;omega);refine A4h (d:=none) (op:=.mapUpdate 340 (.tmp 58) (.tmp 60) (.const (.bool true))) w9 0 (by kernel_rfl) nofun (λo ho _=>?_) ?_
 .obtain⟨o1,o2,o3,o4,o5,o6⟩:=o;simp only at ho;subst ho;show Sem.run _ (do Instr.mapUpdate 340 (a8.eval (.tmp 58)) (a8.eval (.tmp 60)) (a8.eval (.const (.bool true)));pure Next.skip) _=_;rw[e58,e60];exact A7u hr9
 have hm9:=(hm8.turn hg9 (λ_=>yN _ _ _ _ hr9) (λr e=>by cases e;exact⟨hCb,hset8.lt⟩)).sub (st':=stL x0 b i) [1,3,21,22,23,4,5] (by kernel_rfl);clear hm8 hm7 hset7 hset8 hg9 hr9 e58 e60 hk8;refine hm9.run λD hDh hDd hup hback=>?_;have hk:D.h.length<=0:=by rw[hDh];exact hC
 refine Gt (bs:=[]) mixedC lvD 4 [] [.len ((y.Needs.map pI).length:Int) (y.Needs.length:Int)] [] 0 [0,1] (stN x0 y b i 0 (-1)) (RL x0 y) hk ⟨Jy _ _,trivial⟩ trivial (by kernel_rfl) ?_;refine Z3 (by kernel_rfl) ?_;refine Aeq 62 rfl λhl0=>?_;obtain⟨u,hu⟩:=Aoc y.Needs 0 (-1) hdn;refine Yi (by kernel_rfl) (inN i) (stN x0 y b i) (λ_ _=>RL x0 y) (.next u) y.Needs (-1) hu rfl rfl (λz hn=>?_) λn0 a0 z0 k0 hi0 hx0 h hb0 hr0=>?_
 .refine Gt (bs:=[(decide (cnt 0 y.Needs.length<(y.Needs.length:Int)),false)]) mixedC lvD 8 [false] [] [] 0 [0] (stK x0 b (i+1)) (RK x0) hk trivial ⟨vB hl0,trivial⟩ (by kernel_rfl) ?_;intro a7 w7 hs7;obtain⟨hm10,hk10⟩:=hback _ _ _ _ hs7;exact⟨m,Nat.lt_succ_self m,i+1,by omega,hdl,by rw[htk];exact hset9.kp hk10,hm10⟩
 .unfold inN at h;rcases A83 (decide (a0<=z0) || decide (a0>=(i:Int))) with h1|h1
  .have h:=A8v h1 h;cases h
  .replace h:=A8w h1 h;exact Rj (bs:=[(decide (cnt 0 n0<(y.Needs.length:Int)),true),(decide (a0<=z0) || decide (a0>=cnt 0 i),false)]) (φ:=λs'=>k0=.next s') (st':=stN x0 y b i (n0+1)) (R':=λ_=>RL x0 y) mixedC lvD 40 [true,false] [.row (y.Needs.map pI) (cnt 0 n0) (pI a0)] [] 0 [0,1] a0 hk ⟨Bu hx0 hl0,trivial⟩ ⟨Zt hi0 hl0,by rw[hci];exact h1,trivial⟩ (by kernel_rfl) (by kernel_rfl) (aQ h).symm
end Go.Proofs.YtedojeimigneaaaGreatDoor
