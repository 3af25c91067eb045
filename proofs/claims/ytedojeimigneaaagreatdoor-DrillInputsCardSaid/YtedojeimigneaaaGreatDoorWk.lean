import Derived.Test.YtedojeimigneaaaGreatDoorSh
import Derived.Test.YtedojeimigneaaaGreatDoorFm
import Derived.Test.YtedojeimigneaaaGreatDoorProg
set_option linter.unusedVariables false
set_option linter.unusedSimpArgs false
namespace Go.Proofs.YtedojeimigneaaaGreatDoor
open Go Go.RowKit Go.SL
theorem mixedW:Tryz.prog.follows .mixedOrders=true:=by kernel_rfl
theorem Ab5{S:Nat->Prop}{w:World}:∀{l:ez}{vs:eA},Ay (RdP S w) vs (l.map λi=>Pd.v (.int .i64 i))->vs=l.map λi=>Value.int .i64 i
 | [],[],_=>rfl
 |i::l,v::vs,h=>by rw[bv,h.1.v_form,Ab5 h.2]
 | [],_::_,h=>h.elim
 |_::_,[],h=>h.elim
theorem Aby{S:Nat->Prop}{w:World}{ρ:eA}:∀l:ez,Ay (Rd S w ρ) (l.map λi=>Value.int .i64 i) (l.map I)
 | []=>trivial
 |i::l=>⟨.p (.v _ rfl),Aby l⟩
theorem _root_.Go.SL.Md.setBox{n:Nat}{C:Ctx}{st:St}{R:List Res}{a:Act}{w:World}(hm:Md n C st R a w){u i b:Nat}{t:TypeId}{cells cells':List D}(hu:a.tmps[u]?=some (.pointer (some ⟨b,0,none⟩)))(hg:(u,AV.d (.o i 0))∈st)(hi:R[i]?=some (.box t cells))(news:Array Value)(hc:∀S w ρ,Ay (Rd S w ρ) news.toList cells') :
  Md n C st (R.set i (.box t cells')) a (w.setRow b news):=by
 obtain⟨h1,h2,S,ρ,i1,i2,i3,i4⟩:=hm;obtain⟨v,e,r⟩:=(i2 _ (Iv hg)).1 Bz;rw[hu]at e;cases e;obtain⟨b',hv,hρ⟩:=r.d_inv.o_inv;cases hv;obtain⟨vs,hvs,_⟩:=Kx i1 hi hρ;have hne:=(i1.own i _ _ b hi hρ rfl).1;have hS:∀k,S k->(w.setRow b news).heap[k]?=w.heap[k]?:=λk hk=>Bg _ _ _ _ λe=>hne (e ▸ hk);refine⟨h1,h2,S,ρ,i1.put hi hρ (r':=.box t cells') (b:=b) rfl (λk hk=>hk.symm) (λk hk=>Bg _ _ _ _ hk) (by simp[World.setRow]) rfl ⟨rfl,λ_=>ai _⟩ rfl (.inr ⟨b,news,rfl,Df _ _ _ _ _ _ hvs,hc _ _ _⟩),λe he=>?_,i3,λk hk=>?_⟩
 .obtain⟨q1,q2⟩:=i2 e he;exact⟨λhp=>by obtain⟨x,hx,hr⟩:=q1 hp;exact⟨x,hx,hr.mono (λ_ h=>h) hS (Pre.refl _)⟩,q2⟩
 .rw[hS k hk];exact i4 k hk
def zw:List D:=List.replicate 12 (I 0)
def lvW:ey:=[0,1,2,3,4,12]
set_option maxRecDepth 100000 in
theorem Az2(wi:Int->ez->Option Bool)(hw:∀(x0:Int)(x1:ez),FnOk Tryz.prog 207 [.d (I x0),.d (DS pI x1)] [] (λr=>.d (Bo r)) (λ_=>[]) (wi x0 x1))(x0:ez)(r:Ii×Bool)(h:Aaq wi x0=some r):CallOk Tryz.prog 314 [.d (DS pI x0)] [] (.tup [.agg (A6b r.1),.d (Bo r.2)]) []:=by
 unfold Aaq at h;split at h
 case h_2=>cases h
 rename_i hq;split at h
 case h_2=>cases h
 rename_i a0 a1 a2 a3 a4 a5 a6 a7 a8 a9 b0 b1;injection h with h
 subst h;obtain⟨L,hL⟩:∃L,L=[a0,a1,a2,a3,a4,a5,a6,a7,a8,a9,b0,b1]:=⟨_,rfl⟩;have hwc:=(hw 1000 [a0,a1,a2,a3,a4,a5,a6,a7,a8,a9,b0,b1]).k true hq;have hwe:=(hw 1000 [a0,a1,a2,a3,a4,a5,a6,a7,a8,a9,b0,b1]).en;refine Hu 18 Tryz.func314 rfl rfl rfl λC hC=>?_;refine Gt (bs:=[(false,false)]) mixedW lvW 10 [false] [.when [(false,false)] (.call 207 [.d (I 1000),.d (DS pI [a0,a1,a2,a3,a4,a5,a6,a7,a8,a9,b0,b1])] [] (.d (Bo true)) [] [])] [] 0 [0,1] [(0,.d (DS pI [a0,a1,a2,a3,a4,a5,a6,a7,a8,a9,b0,b1])),(2,.d (.o 0 0)),(4,.d (.o 1 0))] [.box 325 zw,.box 325 zw] hC ⟨λ_=>⟨hwe,hwc⟩,trivial⟩ ⟨rfl,trivial⟩ (by kernel_rfl) ?_;intro a w hs;have hm:=Md.of rfl hs;obtain⟨h1,h2,S,ρ,i1,i2,_,_⟩:=id hm;obtain⟨v0,e0,r0⟩:=(i2 _ (Iv (u:=0) (x:=.d (DS pI [a0,a1,a2,a3,a4,a5,a6,a7,a8,a9,b0,b1])) (by simp))).1 Bz;obtain⟨v4,e4,r4⟩:=(i2 _ (Iv (u:=4) (x:=.d (.o 1 0)) (by simp))).1 Bz;obtain⟨b,hv4,hρ⟩:=r4.d_inv.o_inv;subst hv4;obtain⟨vs,hvs,hvc⟩:=Kx i1 (i:=1) (t:=325) (cells:=zw) rfl hρ;have hvl:vs.size=12:=by have:=hvc.length;simpa[zw]using this
 obtain⟨b2,c2,news,hform,hfc,hall⟩:=Ud (P:=Tryz.prog) (size:=1) (m:=12) i1 r0 (rows:=[a0,a1,a2,a3,a4,a5,a6,a7,a8,a9,b0,b1].map pI) rfl (by simp[pI]) (ai 12);have hfc:=hfc w λ_=>rfl;have hform:v0=.slice b2 12 c2:=hform;subst hform;have hnl:news.toList=L.map λi=>Value.int .i64 i:=Ab5 (by rw[hL];exact hall);have hll:L.length=12:=by rw[hL];rfl
 have ev:∀{a':Act}{t:Nat}{v:Value},a'.tmps[t]?=some v->a'.eval (.tmp t)=v:=λh=>by simp[Act.eval,ef,h]
 have hst:(storeCells ⟨b,0,none⟩ news.toList 0).run Tryz.prog w=.ok () (w.setRow b news):=by have:=Hs (P:=Tryz.prog) (o:=0) (vs:=news.toList) (Blk.of hvs) (by rw[hnl,aq,hll,hvl];exact ai _) (by rw[hnl];intro v hv;obtain⟨i,_,rfl⟩:=aA.1 hv;rfl);rw[this];have hd:vs.toList.drop (0+news.toList.length)=[]:=List.drop_eq_nil_of_le (by rw[hnl,aq,hll,cj,hvl];exact ai _);rw[hd,List.take_zero,bG,aZ]
 refine Me (by kernel_rfl) [0,1,2] (by kernel_rfl) ?_;refine Kb (d:=some 14) (op:=.slice 325 (.tmp 4) none none none) (.slice (some ⟨b,0,none⟩) 12 12) w 22 (by kernel_rfl) nofun (λo ho _=>?_) ?_
 .obtain⟨o1,o2,o3,o4,o5,o6⟩:=o;simp only at ho;subst ho;show Sem.run _ (do pure (Next.value (←Instr.sliceAt 325 (a.eval (.tmp 4)) none none none))) _=_;rw[ev e4];refine R_ ?_;simp[Instr.sliceAt,el Tryz.underlying325,Instr.sureAddr,Instr.sliceBounds,Tryz.sizeOf3,M9]
 refine Kb (d:=some 15) (op:=.move (.tmp 0)) (.slice b2 12 c2) w 22 (by kernel_rfl) nofun (λo ho _=>?_) ?_
 .obtain⟨o1,o2,o3,o4,o5,o6⟩:=o;simp only at ho;subst ho;have:(a.put (some 14) (.slice (some ⟨b,0,none⟩) 12 12)).eval (.tmp 0)=.slice b2 12 c2:=ev (by rw[G7 (by decide)];exact e0);show Sem.run Tryz.prog (pure (Next.value ((a.put (some 14) (.slice (some ⟨b,0,none⟩) 12 12)).eval (.tmp 0)))) _=_;rw[this];rfl
 have hm1:=((hm.put0 (t:=14) (.slice (some ⟨b,0,none⟩) 12 12)).put0 (t:=15) (.slice b2 12 c2)).setBox (u:=4) (i:=1) (b:=b) (t:=325) (cells:=zw) (cells':=L.map I) (by rw[G7 (by decide),G7 (by decide)];exact e4) (aH.2 ⟨aH.2 ⟨by simp,rfl⟩,rfl⟩) rfl news (λS w ρ=>by rw[hnl];exact Aby L);refine Kb (d:=some 16) (op:=.call {callee:=.builtin .copy,args:=#[.tmp 14,.tmp 15],argTypes:=#[22,22]}) (.int .i64 12) (w.setRow b news) 3 (by kernel_rfl) nofun (λo ho _=>?_) ?_
 .obtain⟨o1,o2,o3,o4,o5,o6⟩:=o;simp only at ho;subst ho;have g14:((a.put (some 14) (.slice (some ⟨b,0,none⟩) 12 12)).put (some 15) (.slice b2 12 c2)).eval (.tmp 14)=.slice (some ⟨b,0,none⟩) 12 12:=ev (by rw[G7 (by decide)];exact Jd (by rw[h2];decide));have g15:((a.put (some 14) (.slice (some ⟨b,0,none⟩) 12 12)).put (some 15) (.slice b2 12 c2)).eval (.tmp 15)=.slice b2 12 c2:=ev (Jd (by simp[Act.put,h2]));simp only[execOp,resolve,eo,eq,ep,invoke,builtin];simp[g14,g15,Builtin.copy_,el Tryz.underlying22,Builtin.lenOf,Tryz.sizeOf3,hfc,hst,goInt]
 have hm2:=(hm1.put0 (t:=16) (.int .i64 12)).sub (st':=[(2,.d (.o 0 0)),(4,.d (.o 1 0))]) [2,4] (by kernel_rfl);rw[hL]at hm2;show Qs none Tryz.prog _ _ .normal _ (w.setRow b news);refine hm2.run λD hDh hDd hup hback=>?_;exact Rh (bs:=[]) mixedW lvW 20 [] [] [] [.cell 2 325,.tmp 3] 0 [] rfl (by rw[hDh];exact hC) trivial trivial (by kernel_rfl) hup
end Go.Proofs.YtedojeimigneaaaGreatDoor
