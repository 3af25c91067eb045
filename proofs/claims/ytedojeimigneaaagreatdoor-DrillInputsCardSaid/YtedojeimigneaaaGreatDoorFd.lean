import Derived.Maps.Views
import Derived.Maps.OwnSet
import Derived.Maps.RangeWalk
import Derived.Maps.OwnOps
import Derived.DeepKeys5
import Derived.Test.YtedojeimigneaaaGreatDoorSg
import Derived.Test.YtedojeimigneaaaGreatDoorSlEX
import Derived.Test.YtedojeimigneaaaGreatDoorProg
set_option linter.unusedVariables false
set_option linter.unusedSimpArgs false
namespace Go.Proofs.YtedojeimigneaaaGreatDoor
open Go Go.RowKit Go.SL Go.Maps Go.WideMaps Go.WideShapes
variable{b:Nat}{w w':World}
theorem mixedD:Tryz.prog.follows .mixedOrders=true:=by kernel_rfl
theorem Az6:Keyed Tryz.prog 122:=Keyed.of_law (deep_law (m:=5) (by decide) (by kernel_rfl) (by kernel_rfl) (by kernel_rfl))
def Aci(k:TypeId)(w:World)(b:Nat):Prop:=w.ownsMap Tryz.prog k (plainElem (H:=Unit) Tryz.prog 4) b 0 (.map [])
theorem Aci.kp{k:TypeId}(h:Aci k w b)(q:Kp w w'):Aci k w' b:=by obtain⟨es,clock,h1,h2⟩:=h;exact⟨es,clock,q.obj _ _ h1 rfl,h2⟩
def Ach(w:World)(b q c:Nat):Prop:=∃left,w.ranges Tryz.prog 122 (plainElem (H:=Unit) Tryz.prog 4) b q 0 (.map []) left c/\∀kl,left kl=false
theorem Ach.kp{q c:Nat}(h:Ach w b q c)(k:Kp w w'):Ach w' b q c:=by obtain⟨left,⟨es,clock,since,sn,c0,h1,h2,h3,h4,h5,h6⟩,h7⟩:=h;exact⟨left,⟨es,clock,since,sn,c0,k.obj _ _ h1 rfl,h2,h3,h4,k.obj _ _ h5 rfl,h6⟩,h7⟩
def lvF:ey:=[1,2,4,5,6,7,9,10,11,14,22,30,34,35,36,37,43,51,53]
def mpV(b:Nat):AV:=.d (.p (.v (.map (some b))))
def itV(q:Nat):AV:=.d (.p (.v (.pointer (some ⟨q,0,none⟩))))
def dnl:List D:=[.p (.s []),.p (.s []),.p (.s [])]
def stA(b:Nat):St:=[(2,.d (.o 0 0)),(5,mpV b),(6,.d (.os 1))]
def RA:List Res:=[.box 44 dnl,.sl 122 2 []]
def stR(q:Nat):St:=[(10,.d (.os 1)),(51,itV q)]
set_option maxRecDepth 100000 in
theorem A16:CallOk Tryz.prog 261 [.agg dnl,.d (.p (.s []))] [] (.d (.p (.s []))) []:=by
 refine Hu 63 Tryz.func261 rfl rfl rfl λC hC=>?_;refine Gt (bs:=[(false,false)]) mixedD lvF 8 [false] [.call 94 [.agg dnl] [] (.d (.p (.v (.int .i64 0)))) [] []] [] 0 [0] [(1,.d (.p (.s []))),(2,.d (.o 0 0))] [.box 44 dnl] hC ⟨U6 mixedD false (by kernel_rfl),trivial⟩ ⟨rfl,trivial⟩ (by kernel_rfl) ?_;intro a w hs;have hm:=Md.of rfl hs;refine Me (by kernel_rfl) [0,1] (by kernel_rfl) ?_;refine Kb (d:=some 17) (op:=.makeMap 520 none) (.map (some w.heap.size)) (w.alloc (.map #[] 0)) 520 (by kernel_rfl) nofun (λo ho _=>?_) ?_
 .obtain⟨o1,o2,o3,o4,o5,o6⟩:=o;simp only at ho;subst ho;exact R_ rfl
 refine Kb (d:=some 5) (op:=.assign (.tmp 17)) (.map (some w.heap.size)) (w.alloc (.map #[] 0)) 520 (by kernel_rfl) nofun (λo ho _=>?_) ?_
 .obtain⟨o1,o2,o3,o4,o5,o6⟩:=o;simp only at ho;subst ho;have:(a.put (some 17) (Value.map (some w.heap.size))).eval (.tmp 17)=.map (some w.heap.size):=by
   simp[Act.eval,Act.put,ef,hm.2.1]
  show Sem.run Tryz.prog (pure (Next.value ((a.put (some 17) (Value.map (some w.heap.size))).eval (.tmp 17)))) _=_;rw[this];rfl
 have hset:Aci 122 (w.alloc (.map #[] 0)) w.heap.size:=World.ownsMap_made w _ _ _;obtain⟨b,hbd⟩:∃b,b=w.heap.size:=⟨_,rfl⟩;rw[←hbd]at hset ⊢;have hm1:=((hm.turn (World.grownBy_alloc w (.map #[] 0) none) (λ_=>ai _) (λr e=>by cases e)).put (t:=17) (.map (some b)) (mpV b) (by decide) (λ_ _=>.d (.p (.v _ rfl)))).put (t:=5) (.map (some b)) (mpV b) (by decide) (λ_ _=>.d (.p (.v _ rfl)));have hm2:=hm1.sub (st':=[(1,.d (.p (.s []))),(2,.d (.o 0 0)),(5,mpV b)]) [1,2,5] (by kernel_rfl);clear hm hm1 hs;generalize hw1:w.alloc (.map #[] 0)=w1 at hset hm2 ⊢;clear hw1;refine hm2.run λD hDh hDd hup hback=>?_;refine Gt (bs:=[]) mixedD lvF 3 [] [.call 136 [.d (.p (.s []))] [] (.d (.os 0)) [.sl 122 2 []] []] [] 0 [0,1] (stA b) RA (by rw[hDh];exact hC) ⟨U6 mixedD false (by kernel_rfl),trivial⟩ trivial (by kernel_rfl) ?_;intro a3 w3 hs3;obtain⟨hm3,hk3⟩:=hback _ _ _ _ hs3;have hset3:=hset.kp hk3;clear hback hup hs3 hm2 hset hk3;refine vN (by kernel_rfl) ?_;refine Yj (by kernel_rfl) (λ_ a w=>Aci 122 w b/\Md 63 C.z (stA b) RA a w) 0 ⟨hset3,hm3⟩ ?_;clear hset3 hm3 a3 w3 w1;rintro m a w ⟨hset,hm⟩;refine hm.run λD hDh hDd hup hback=>?_;refine Gt (bs:=[(false,false)]) mixedD lvF 9 [false] [] [.own 10 122 2] 0 [0,2] [(5,mpV b),(10,.d (.os 1))] RA (by rw[hDh];exact hC) trivial ⟨rfl,trivial⟩ (by kernel_rfl) ?_;intro a4 w4 hs4;obtain⟨hm4,hk4⟩:=hback _ _ _ _ hs4;have hset4:=hset.kp hk4;clear hback hup hs4 hk4 hset hm;refine Me (by kernel_rfl) [0,1] (by kernel_rfl) ?_;refine hm4.ops (is:=[0]) (js:=[1]) (cls:=[]) [10,50] [(10,.d (.os 1)),(50,mpV b)] RA trivial (by kernel_rfl) λa5 w5 hm5 hk5=>?_
 have e50:a5.eval (.tmp 50)=.map (some b):=hm5.exact rfl;obtain⟨w6,hr6,hrg,hg6,hz6⟩:=(hset4.kp hk5).range Az6 Tryz.underlying520;have hrg6:Ach w6 b w5.heap.size (Maps.size (DataW.map (H:=Unit) [])):=⟨_,hrg,λkl=>rfl⟩;refine Kb (d:=some 51) (op:=.range 520 (.tmp 50)) (.pointer (some ⟨w5.heap.size,0,none⟩)) w6 0 (by kernel_rfl) nofun (λo ho _=>?_) ?_
 .obtain⟨o1,o2,o3,o4,o5,o6⟩:=o;simp only at ho;subst ho;show Sem.run _ (do pure (Next.value (←Instr.range 520 (a5.eval (.tmp 50))))) _=_;rw[e50];exact R_ hr6
 have hm6:=((hm5.turn hg6 (λ_=>yN _ _ _ _ hr6) (λr e=>by cases e)).put (t:=51) _ (itV w5.heap.size) (by decide) (λ_ _=>.d (.p (.v _ rfl)))).sub (st':=stR w5.heap.size) [10,51] (by kernel_rfl);generalize w5.heap.size=q at hrg6 hm6 ⊢;clear hset4 hm4 hm5 hk5 e50 hr6 hg6 hz6 hrg;refine vN (by kernel_rfl) ?_;refine Yj (by kernel_rfl) (λ_ a w=>(∃c,Ach w b q c)/\Md 63 C.z (stR q) RA a w) 0 ⟨⟨_,hrg6⟩,hm6⟩ ?_;clear hrg6 hm6;rintro c a w ⟨⟨c,hrg⟩,hm⟩;refine hm.run λD hDh hDd hup hback=>?_;refine Gt (bs:=[]) mixedD lvF 1 [] [] [] 0 [0,1] (stR q) RA (by rw[hDh];exact hC) trivial trivial (by kernel_rfl) ?_;intro a1 w1 hs1;obtain⟨hm1,hk1⟩:=hback _ _ _ _ hs1;have hrg1:=hrg.kp hk1;clear hback hup hs1 hk1 hrg hm;have e51:a1.eval (.tmp 51)=.pointer (some ⟨q,0,none⟩):=hm1.exact rfl;refine Me (by kernel_rfl) [0,1] (by kernel_rfl) ?_;obtain⟨left,hrg2,hleft⟩:=hrg1;rcases hrg2.next Az6 0 with⟨hc0,hall,hrn⟩|⟨key,v,kl,y,w',cnt',k1,k2,_⟩
 .refine Kb (d:=some 52) (op:=.next (.tmp 51) false) (.tuple #[.bool false]) w1 0 (by kernel_rfl) nofun (λo ho ht=>?_) ?_
  .obtain⟨o1,o2,o3,o4,o5,o6⟩:=o;simp only at ho ht;subst ho ht;show Sem.run _ (do pure (Next.value (←Instr.next (a1.eval (.tmp 51)) false 0))) _=_;rw[e51];exact R_ hrn
  refine Kb (d:=some 53) (op:=.extract (.tmp 52) 0) (.bool false) w1 4 (by kernel_rfl) nofun (λo ho ht=>?_) ?_
  .obtain⟨o1,o2,o3,o4,o5,o6⟩:=o;simp only at ho;subst ho;have:(a1.put (some 52) (Value.tuple #[.bool false])).eval (.tmp 52)=.tuple #[.bool false]:=by
    simp[Act.eval,Act.put,ef,hm1.2.1]
   show Sem.run _ (do pure (Next.value (←Instr.extract ((a1.put (some 52) (Value.tuple #[.bool false])).eval (.tmp 52)) 0))) _=_;rw[this];exact R_ rfl
  have hm2:=((hm1.put0 (t:=52) (.tuple #[.bool false])).put (t:=53) (.bool false) (.d (.p (.v (.bool false)))) (by decide) (λ_ _=>.d (.p (.v _ rfl)))).sub (st':=[(10,.d (.os 1)),(53,.d (.p (.v (.bool false))))]) [10,53] (by kernel_rfl);refine hm2.run λD hDh hDd hup hback=>?_;exact Rh (bs:=[(false,false)]) mixedD lvF 9 [false] [.call 375 [.d (.os 0),.d (.fn (.func 244) [] [])] [.sl 122 2 []] (.tup []) [.sl 122 2 []] [1]] [.frz 1] [.tmp 4] 0 [] rfl (by rw[hDh];exact hC) ⟨U6 mixedD false (by kernel_rfl),trivial⟩ ⟨rfl,trivial⟩ (by kernel_rfl) hup
 .rw[hleft kl]at k2;cases k2
end Go.Proofs.YtedojeimigneaaaGreatDoor
