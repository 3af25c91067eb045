import Derived.Test.YtiaaaghdkhnonaaGreatFi
set_option linter.unusedVariables false
namespace Go.SL
variable{f g:FuncId}{args:List AV}{b i:Nat}
section
variable{P:Program}{C:Ctx}{S S':Nat->Prop}{w w':World}{ρ ρ':eU}{R R':List Res}
theorem Inv.boxIp(h:Inv C S w ρ R){t:TypeId}{ps:List Pd}(hi:R[i]?=some (.box t (ps.map .p)))(hv:ρ[i]?=some (.pointer (some ⟨b,0,none⟩))) :
  ∃S1,(∀k,S k->S1 k)/\Inv C S1 w ρ (R.set i .non)/\F_ S1 w ⟨b,0,none⟩ ps:=by
 obtain⟨vs,h1,h2⟩:=Wb h hi hv;refine⟨_,λk hk=>.inl hk,h.freeze hi hv,λj d hd=>?_⟩;obtain⟨x,hx,hr⟩:=h2.get (j:=j) (d:=.p d) (by rw[aB,hd];rfl);refine⟨x,.inr rfl,?_,(Rd.p_inv hr).mono (λ_ h=>.inl h) (λ_ _=>rfl)⟩;have e:(⟨b,0,none⟩:Addr).add j=⟨b,j,none⟩:=by simp[Addr.add];exact Eq.symm
 rw[e,Kn h1 j,←b9];exact hx
theorem A84{t1 t2 t3 t4:TypeId}{p1 p2 p3 p4:List Pd}(h:CallOk P f args [] (.d (.fn (.func g) [] [.o 0 0,.o 1 0,.o 2 0,.o 3 0])) [.box t1 (p1.map .p),.box t2 (p2.map .p),.box t3 (p3.map .p),.box t4 (p4.map .p)]) :
  CallOk P f args [] (.d (.fn (.func g) [] [.ip p1,.ip p2,.ip p3,.ip p4])) []:=by
 intro S w ρ vs hs hv;refine Calls.mono (h S w ρ vs hs hv) λe w' hp=>?_;obtain⟨v,S',ρ',rfl,hr,hI⟩:=hp;obtain⟨xs,cs,e,hxs,hcs⟩:=hr.d_inv.fn_inv;have hx:xs=[]:=by cases xs with|nil=>rfl|cons=>exact hxs.elim
 match cs,hcs with
 | [c1,c2,c3,c4],⟨h1,h2,h3,h4,_⟩=>obtain⟨b1,e1,q1⟩:=h1.o_inv;obtain⟨b2,e2,q2⟩:=h2.o_inv;obtain⟨b3,e3,q3⟩:=h3.o_inv;obtain⟨b4,e4,q4⟩:=h4.o_inv;obtain⟨S1,u1,I1,g1⟩:=hI.boxIp (i:=0) rfl q1;obtain⟨S2,u2,I2,g2⟩:=I1.boxIp (i:=1) rfl q2;obtain⟨S3,u3,I3,g3⟩:=I2.boxIp (i:=2) rfl q3;obtain⟨S4,u4,I4,g4⟩:=I3.boxIp (i:=3) rfl q4;have hρ:ρ=[]:=bt hs.len;have hI5:=I4.pick (pi:=[]) (Rp:=[]) (R2:=[]) rfl rfl rfl (by show Pre ρ _;rw[hρ];exact Pre.refl _);refine⟨v,S4,Dj ρ' [],rfl,?_,hI5⟩;rw[e,hx];have z:∀{b:Nat}{ps:List Pd}{T:Nat->Prop},F_ T w' ⟨b,0,none⟩ ps->(∀k,T k->S4 k)->Rd S4 w' (Dj ρ' []) (.pointer (some ⟨b,0,none⟩)) (.ip ps):=λh k=>.ip (h.mono k λ_ _=>rfl);refine .d (.fn (xs:=[]) (cs:=[c1,c2,c3,c4]) rfl rfl (λj x d h=>by simp at h) λj x d hj hd=>?_);grind
variable{n:Nat}{st:St}{a:Act}
theorem Md.call0(h:Md n C st [] a w)(hC:C.h=[])(hst:Ol 0 st=true){res:AV}{R2:List Res}{t:Nat}(ht:t<n)(hc:CallOk P f args [] res R2)(vs:eU)
  (hv:∀S,(∀e,e∈mkL st->∃v,a.tmps[e.t]?=some v/\RdA S w [] v e.v)->A9 (RdA S w []) vs args):Calls P f vs.toArray w λe w'=>∃v,e=.returned v/\Md n C ((t,res)::st.filter λx=>!(Nat.beq x.1 t)) R2 (a.put (some t) v) w':=by
 obtain⟨h1,h2,S,ρ,i1,i2,_,i4⟩:=h;obtain⟨g1,_,_⟩:=i1.start (pi:=[]) (Rp:=[]) (Rp':=[]) rfl rfl rfl;have hnil:Dj ρ []=[]:=rfl;rw[hnil]at g1;have hsl:∀e,e∈mkL st->∃v,a.tmps[e.t]?=some v/\RdA S w [] v e.v:=λe he=>by obtain⟨x,hx,hr⟩:=(i2 e he).1 (by rw[D9 he];exact Cd);exact⟨x,hx,hr.monoK (k:=0) (λ_ h=>h) (λ_ _=>rfl) (λi v hi=>by omega) (Ka hst he)⟩
 refine Calls.mono (hc S w [] vs g1 (hv S hsl)) λe w' hp=>?_;obtain⟨v,S',ρ',rfl,hr,hI⟩:=hp;refine⟨v,rfl,?_⟩;have hseg:Inv ⟨w,S,Em ρ [],[],[]⟩ S w ρ []:=i1.seg [] (λi v hv=>by simp at hv) [] λd hd=>by cases hd
 have hF:∀b,¬Em ρ ([]:List Res) b:=λb ⟨i,r,x,g,_⟩=>by simp at g
 have hF0:∀b,¬Em ([]:eU) ([]:List Res) b:=λb ⟨i,r,x,g,_⟩=>by simp at g
 have e0:Em ([]:eU) ([]:List Res)=Em ρ []:=by grind
 rw[e0]at hI;have hT:=i1.trans hI (by rw[hC];exact λi v hv=>by simp at hv);have hw:∀b,S b->w'.heap[b]?=w.heap[b]?:=λb hb=>hI.frm b (i1.sup b hb).1 (hF b);refine⟨h1,by simp[Act.put,h2],λk=>S' k/\(k<C.w.heap.size\/∃vs t f,w'.heap[k]?=some (.cells vs t f)),ρ',hT.trim (λk hS hc=>⟨hS,.inr hc⟩) (λ_ h=>h.1) (λk hC=>⟨hT.sub k hC,.inl (i1.gl.2.1 k hC).1⟩),λe he=>?_,λ_ h=>h.elim,λk h=>h.2⟩;rcases ag.1 he with rfl|he
 .exact⟨λ_=>⟨v,Jg (by rw[h2];exact ht),hr.trim λk hS hc=>⟨hS,.inr hc⟩⟩,λhn=>absurd Cd hn⟩
 .obtain⟨m1,m2⟩:=Ku he;rw[ar]at m1;obtain⟨m3,m4⟩:=m1;have hne:t≠e.t:=by
   intro q;subst q;simp at m4
  have he':=O3 m3;obtain⟨x,hx,hr⟩:=hsl _ he';have hr2:=hr.monoK (k:=0) (S':=S') (w':=w') (ρ':=ρ') hI.sub hw (λi v hi=>by omega) (Ka hst he');exact⟨λ_=>⟨x,by rw[Hm hne];exact hx,hr2.trim λk hS hc=>⟨hS,.inr hc⟩⟩,λhn=>absurd (by rw[m2];exact Cd) hn⟩
end
end Go.SL
namespace Go.Proofs.YtiaaaghdkhnonaaGreat
open Go Go.SL
theorem A36(x0:Ba)(x1:Am)(x2:List a_)(x3:Br):CallOk Tryz.prog 73 [.agg (d60 x0),.agg (d68 x1),.d (DS q88 x2),.agg (d81 x3)] [] (.d (.fn (.func 139) [] (J6 x0 x1 x2 x3))) []:=by refine A84 (t1:=60) (t2:=68) (t3:=23) (t4:=81) ?_;refine Fb 10 Tryz.func73 rfl rfl rfl λC hC=>?_;exact Kd (bs:=[]) Cf [0,1,2,3,4,5,6,7,8,9] 25 [] [] [] [.tmp 8] 0 [0,1,2,3] rfl hC trivial trivial (by kernel_rfl)
def Anl(x:Bj)(z:List Bj):Option (Ctl (List Bj) Unit):=(appI 25 z [x]).map .next
theorem Afi:∀(us z:List Bj),(z.length+us.length)*25<=140737488355328->Lm Anl us z=some (.next (z++us))
 | [],z,_=>by simp[Lm]
 | x::us,z,h=>by
  simp only[bi]at h;have ha:appI 25 z [x]=some (z++[x]):=by unfold appI;grind
  simp only[Lm,Anl,ha,be];rw[Afi us (z++[x]) (by grind)];simp
def Ank(us:List Bj):Option (List Bj):=bif decide (us.length*25<=140737488355328)then some us else none
def fnP(x:Bj):St:=[(7,.agg (d98 x))]
def RFa(z:List Bj):List Res:=[.box 92 [.os 1],.sl 98 3 (z.map q98)]
def RBa(x:Bj)(z:List Bj):List Res:=[.box 92 [.os 1],.sl 98 3 (z.map q98),.box 98 (d98 x)]
theorem Aq7{ps:Array Tmp}{n:Nat}(t:Nat)(h:ps = #[t])(ht:t<n):∀(x:Bj)(tm:Array Value),tm.size=n->∀e,e∈mkL [(t,.agg (d98 x))]->∃v,(Lb ps (Qm x) tm)[e.t]?=some v/\∀S w ρ,RdA S w ρ v e.v:=by
 intro x tm hz e he;simp only[mkL,aU]at he;subst he;subst h;refine⟨.agg [.int .i64 x.Part.Kind,.int .i64 x.Part.Number,.bool x.Holds].toArray,?_,λS w ρ=>.agg ⟨.p (.v _ rfl),.p (.v _ rfl),.p (.v _ rfl),trivial⟩⟩;have e1:(#[t].zip (Qm x)).toList=[(t,Value.agg [.int .i64 x.Part.Kind,.int .i64 x.Part.Number,.bool x.Holds].toArray)]:=by simp[Qm]
 rw[Uz,e1];grind
section
variable{x0:Ba}{x1:Am}{x2:List a_}{x3:Br}{us:List Bj}
theorem A79(hit:R7 Tryz.prog 139 (J6 x0 x1 x2 x3) Qm us)(y:List Bj)(h:Ank us=some y):CallOk Tryz.prog 138 [.d (.p (.v (.slice none 0 0))),.d (.fn (.func 139) [] (J6 x0 x1 x2 x3))] [] (.d (.os 0)) [.sl 98 3 (y.map q98)]:=by
 unfold Ank at h;cases hd:decide (us.length*25<=140737488355328) with
 |false=>rw[hd]at h;cases h
 |true=>
 rw[hd]at h;simp only[ez,ah]at h;subst h;have hm:=Afi us [] (by simpa using dX hd);refine Fb 13 Tryz.func138 rfl rfl rfl λC hC=>?_;refine Dl (bs:=[]) Cf (List.range 13) 6 [] [] [.ownb 0 0 98 3] 0 [0,1] [(2,.d (.o 0 0)),(6,.d (.fn (.func 139) [] (J6 x0 x1 x2 x3)))] (RFa []) hC trivial trivial (by kernel_rfl) ?_;refine Ab4 (by kernel_rfl) (t:=6) (gf:=139) (ips:=J6 x0 x1 x2 x3) rfl Qm us Anl RFa (λ_=>[]) (.next us) [] fnP (λ_=>[(2,.d (.o 0 0)),(5,.d (.o 2 0))]) RBa hm hit (by kernel_rfl) (by kernel_rfl) rfl [(2,.d (.o 0 0))] (by kernel_rfl) (by kernel_rfl) (λ_=>by rfl) (Aq7 7 (by kernel_rfl) (by decide)) rfl (dx rfl) 1 (by kernel_rfl) (aA hC (bH _)) ?_ ?_ ?_ ?_
 .intro C2 s' hh hup hs;cases hs;exact Mi (bs:=[]) Cf (List.range 13) 25 [] [] [] [.tmp 4] 0 [1] rfl (by rw[hh];exact hC) trivial trivial (by kernel_rfl) hup
 .intro C2 v hh hup hr;cases hr
 .intro l C2 x z hl hd;exact Hf (bs:=[]) (φ:=λ_:Unit=>True) (st':=λ_=>[(2,.d (.o 0 0)),(5,.d (.o 2 0))]) (R':=λ_=>RBa x z) Cf (List.range 13) 26 [] [] [] 1 [0,1,2] () hl trivial trivial (by kernel_rfl) (by kernel_rfl) trivial
 .intro l C2 x z k hl hd hk _;unfold Anl at hk;rw[bW]at hk;obtain⟨y,hy,rfl⟩:=hk;exact Hf (bs:=[]) (φ:=λs'=>(Ctl.next y:Ctl (List Bj) Unit)=.next s') (st':=λ_=>[]) (R':=RFa) Cf (List.range 13) 26 [] [.app (z.map q98) ([x].map q98) 3 (((z.map q98).length+([x].map q98).length)*25) (y.map q98)] [] 1 [0,3] y hl ⟨A7 q98 3 (λ_=>rfl) hy,trivial⟩ trivial (by kernel_rfl) (by kernel_rfl) rfl
theorem A8x(hit:R7 Tryz.prog 139 (J6 x0 x1 x2 x3) Qm us)(y:List Bj)(h:Ank us=some y):CallOk Tryz.prog 72 [.d (.fn (.func 139) [] (J6 x0 x1 x2 x3))] [] (.d (DS q98 y)) []:=by
 refine Fb 5 Tryz.func72 rfl rfl rfl λC hC=>?_;refine Dl (bs:=[]) Cf (List.range 5) 3 [] [] [] 0 [] [(0,.d (.fn (.func 139) [] (J6 x0 x1 x2 x3)))] [] hC trivial trivial (by kernel_rfl) ?_;intro a w hs;have hm:=Md.of rfl hs;have hCh:C.z.h=[]:=bt (Nat.le_zero.1 hC);refine K2 (by kernel_rfl) ([0]++[1,2]) (by kernel_rfl) ?_;refine hm.ops (cls:=[]) [3] [(3,.d (.fn (.func 139) [] (J6 x0 x1 x2 x3)))] [] trivial (by kernel_rfl) λa w hm _=>?_;have hc:=hm.call0 hCh (by rfl) (t:=4) (by decide) (A79 hit y h) [.slice none 0 0,a.eval (.tmp 3)] λS h=>by
  obtain⟨v,h1,h2⟩:=h ⟨3,[],_⟩ ai;have e:a.eval (.tmp 3)=v:=by simp[Act.eval,eu,h1]
  rw[e];exact⟨.d (.p (.v _ rfl)),h2,trivial⟩
 refine Aju (d:=some 4) (op:=.call ⟨.value (.func 138),#[.const (.slice none 0 0),.tmp 3],#[92,153]⟩) 138 [.slice none 0 0,a.eval (.tmp 3)].toArray 92 (by kernel_rfl) (λ_=>nofun) (λo ho _=>?_) (Calls.mono hc λe w' ⟨v,he,hm2⟩=>⟨v,he,?_⟩)
 .have hent:=Go.SL.Dt Tryz.func138 (by kernel_rfl) (by kernel_rfl) [.slice none 0 0,a.eval (.tmp 3)].toArray w;unfold execOp;rw[ho];simp only[resolve,Deferred.ofValue,eG,eI,eJ,invoke,Act.eval];have e:(#[Operand.const (.slice none 0 0),.tmp 3]:Array Operand).map a.eval ++ #[]=[.slice none 0 0,a.eval (.tmp 3)].toArray:=by simp[Act.eval]
  rw[←e]at hent;simp[Act.eval]
 .change Dr _ _ _ ([2]++[]) _ _;refine hm2.ops (cls:=[]) [2] [(2,.d (.os 0))] [.sl 98 3 (y.map q98)] trivial (by kernel_rfl) λa' w' hm3 _=>?_;exact hm3.run λD hD1 hD2 hup _=>Mi (bs:=[]) Cf (List.range 5) 25 [] [] [.frz 0] [.tmp 2] 0 [] rfl (by rw[hD1,hCh];exact af _) trivial trivial (by kernel_rfl) hup
end
abbrev KN(N:A5->Am->List a_->Option (List a_)):Prop:=∀x0 x1 x2 r,N x0 x1 x2=some r->CallOk Tryz.prog 21 [.agg (d44 x0),.agg (d68 x1),.d (DS q88 x2)] [] (.d (DS q88 r)) []
abbrev KH(H:List a_->a_->Option Bool):Prop:=∀x0 x1 r,H x0 x1=some r->CallOk Tryz.prog 53 [.d (DS q88 x0),.agg (d88 x1)] [] (.d (Bo r)) []
abbrev KM(M:Ba->Am->List a_->List a_->Br->Option Bool):Prop:=∀x0 x1 x2 x3 x4 r,M x0 x1 x2 x3 x4=some r->CallOk Tryz.prog 69 [.agg (d60 x0),.agg (d68 x1),.d (DS q88 x2),.d (DS q88 x3),.agg (d81 x4)] [] (.d (Bo r)) []
abbrev KA(A:Ba->Am->List a_->List a_->Option (Am×eQ×Int)):Prop:=∀x0 x1 x2 x3 r,A x0 x1 x2 x3=some r->CallOk Tryz.prog 14 [.agg (d60 x0),.agg (d68 x1),.d (DS q88 x2),.d (DS q88 x3)] [] (.tup [.agg [I r.1.Time,.os 0,.os 1,.os 2,.os 3,.os 4,.os 5],.d (.os 6),.d (I r.2.2)]) [.sl 4 1 (r.1.Power.Ag.map pB),.sl 160 4 (r.1.Power.Ad.map Be),.sl 3 1 (r.1.Power.Aj.map pI),.sl 88 2 (r.1.Power.Ai.map q88),.sl 141 2 (r.1.A0.map Cm),.sl 217 5 (r.1.A6.map De),.sl 3 1 (r.2.1.map pI)]
def Ac9(N:A5->Am->List a_->Option (List a_))(H:List a_->a_->Option Bool)(M:Ba->Am->List a_->List a_->Br->Option Bool)(x0:Ba)(x1:Am)(x2:List a_)(x3:Br):Option (List Bj):=
 (N x0.Design x1 x2).bind λnow=>Za H (λl=>M x0 x1 x2 l x3) now x0.Design.Parts
def Zm(A:Ba->Am->List a_->List a_->Option (Am×eQ×Int))(N:A5->Am->List a_->Option (List a_))(H:List a_->a_->Option Bool)(M:Ba->Am->List a_->List a_->Br->Option Bool)(x0:Ba)(x1:Am)(x2:List a_)(x3:Br):Option (List Bj×Int):=
 (A x0 x1 x2 []).bind λr=>bif !(r.2.2==0)then some ([],r.2.2) else (Ac9 N H M x0 x1 x2 x3).bind λus=>(Ank us).map λy=>(y,0)
def Nn:List Bj->a_×Bool
 | []=>(⟨0,0⟩,false)
 |f::l=>bif !f.Holds then (f.Part,true) else Nn l
def Aes(N:A5->Am->List a_->Option (List a_))(H:List a_->a_->Option Bool)(M:Ba->Am->List a_->List a_->Br->Option Bool)(x0:Ba)(x1:Am)(x2:List a_)(x3:Br):Option (a_×Bool):=
 (Ac9 N H M x0 x1 x2 x3).map Nn
def Aeu(x:Bj)(_:Unit):Option (Ctl Unit a_):=bif !x.Holds then some (.ret x.Part) else some (.next ())
theorem Aet:∀(us:List Bj),Lm Aeu us ()=some (bif (Nn us).2 then .ret (Nn us).1 else .next ())/\((Nn us).2=false->Nn us=(⟨0,0⟩,false))
 | []=>⟨rfl,λ_=>rfl⟩
 | f::l=>by
  cases hh:f.Holds with
  |false=>simp[Lm,Aeu,Nn,hh]
  |true=>simp only[Lm,Aeu,Nn,hh,aH,eB];exact Aet l
section
variable{A:Ba->Am->List a_->List a_->Option (Am×eQ×Int)}{N:A5->Am->List a_->Option (List a_)}{H:List a_->a_->Option Bool}{M:Ba->Am->List a_->List a_->Br->Option Bool}
theorem Abn(kN:KN N)(kH:KH H)(kM:KM M)(x0:Ba)(x1:Am)(x2:List a_)(x3:Br)(us:List Bj)(h:Ac9 N H M x0 x1 x2 x3=some us):R7 Tryz.prog 139 (J6 x0 x1 x2 x3) Qm us:=by unfold Ac9 at h;rw[cV]at h;obtain⟨now,h1,h2⟩:=h;exact Aw8 N H M kN kH kM x0 x1 x2 x3 now us h1 h2
def lvN:eR:=[0,1,2,3,4,5,7,8,9,12,22,28,29]
theorem Aye(kA:KA A)(kN:KN N)(kH:KH H)(kM:KM M)(x0:Ba)(x1:Am)(x2:List a_)(x3:Br)(r:List Bj×Int)(h:Zm A N H M x0 x1 x2 x3=some r):CallOk Tryz.prog 26 [.agg (d60 x0),.agg (d68 x1),.d (DS q88 x2),.agg (d81 x3)] [] (.tup [.d (DS q98 r.1),.d (I r.2)]) []:=by
 unfold Zm at h;rw[cV]at h;obtain⟨y,hy,h⟩:=h;refine Fb 30 Tryz.func26 rfl rfl rfl λC hC=>?_;refine Dl (bs:=[]) Cf lvN 7 [] [.call 14 [.agg (d60 x0),.agg (d68 x1),.d (DS q88 x2),.d (DS q88 ([]:List a_))] [] (.tup [.agg [I y.1.Time,.os 0,.os 1,.os 2,.os 3,.os 4,.os 5],.d (.os 6),.d (I y.2.2)]) [.sl 4 1 (y.1.Power.Ag.map pB),.sl 160 4 (y.1.Power.Ad.map Be),.sl 3 1 (y.1.Power.Aj.map pI),.sl 88 2 (y.1.Power.Ai.map q88),.sl 141 2 (y.1.A0.map Cm),.sl 217 5 (y.1.A6.map De),.sl 3 1 (y.2.1.map pI)] []] [] 0 [0,1,2] [(2,.d (DS q88 x2)),(4,.d (.o 0 0)),(5,.d (.o 1 0)),(7,.d (.o 2 0)),(12,.d (I y.2.2)),(22,.d (Bo (!(y.2.2==0))))] [.box 60 (d60 x0),.box 68 (d68 x1),.box 81 (d81 x3)] hC ⟨⟨Go.SL.Dt Tryz.func14 (by kernel_rfl) (by kernel_rfl),kA x0 x1 x2 [] y hy⟩,trivial⟩ trivial (by kernel_rfl) ?_;cases hb:!(y.2.2==0) with
 |true=>rw[hb]at h;simp only[ez,ah]at h;subst h;exact Kd (bs:=[(true,true)]) Cf lvN 24 [true] [] [] [.tmp 8,.tmp 9] 0 [] rfl hC trivial ⟨rfl,trivial⟩ (by kernel_rfl)
 |false=>rw[hb]at h;simp only[eB,cV,bW]at h;obtain⟨us,hus,z,hz,rfl⟩:=h;exact Kd (bs:=[(false,false)]) Cf lvN 24 [false] [.call 73 [.agg (d60 x0),.agg (d68 x1),.d (DS q88 x2),.agg (d81 x3)] [] (.d (.fn (.func 139) [] (J6 x0 x1 x2 x3))) [] [],.call 72 [.d (.fn (.func 139) [] (J6 x0 x1 x2 x3))] [] (.d (DS q98 z)) [] []] [] [.tmp 8,.tmp 9] 0 [] rfl hC ⟨⟨Go.SL.Dt Tryz.func73 (by kernel_rfl) (by kernel_rfl),A36 x0 x1 x2 x3⟩,⟨Go.SL.Dt Tryz.func72 (by kernel_rfl) (by kernel_rfl),A8x (Abn kN kH kM x0 x1 x2 x3 us hus) z hz⟩,trivial⟩ ⟨rfl,trivial⟩ (by kernel_rfl)
def RFf(_:Unit):List Res:=[.box 88 (d88 ⟨0,0⟩),.box 4 [Bo false]]
def RRf(p:a_):List Res:=[.box 88 (d88 p),.box 4 [Bo true]]
def RBf(x:Bj)(_:Unit):List Res:=[.box 88 (d88 ⟨0,0⟩),.box 4 [Bo false],.box 98 (d98 x)]
def fnQ(x:Bj):St:=[(16,.agg (d98 x))]
theorem A39(kN:KN N)(kH:KH H)(kM:KM M)(x0:Ba)(x1:Am)(x2:List a_)(x3:Br)(r:a_×Bool)(h:Aes N H M x0 x1 x2 x3=some r):CallOk Tryz.prog 71 [.agg (d60 x0),.agg (d68 x1),.d (DS q88 x2),.agg (d81 x3)] [] (.tup [.agg (d88 r.1),.d (Bo r.2)]) []:=by
 unfold Aes at h;rw[bW]at h;obtain⟨us,hus,rfl⟩:=h;obtain⟨hm,h0⟩:=Aet us;refine Fb 23 Tryz.func71 rfl rfl rfl λC hC=>?_;refine Dl (bs:=[]) Cf (List.range 23) 6 [] [.call 73 [.agg (d60 x0),.agg (d68 x1),.d (DS q88 x2),.agg (d81 x3)] [] (.d (.fn (.func 139) [] (J6 x0 x1 x2 x3))) [] []] [] 0 [3,4] [(8,.d (.o 0 0)),(9,.d (.o 1 0)),(15,.d (.fn (.func 139) [] (J6 x0 x1 x2 x3)))] (RFf ()) hC ⟨⟨Go.SL.Dt Tryz.func73 (by kernel_rfl) (by kernel_rfl),A36 x0 x1 x2 x3⟩,trivial⟩ trivial (by kernel_rfl) ?_;refine Ab4 (by kernel_rfl) (t:=15) (gf:=139) (ips:=J6 x0 x1 x2 x3) rfl Qm us Aeu RFf RRf (bif (Nn us).2 then .ret (Nn us).1 else .next ()) () fnQ (λ_=>[(8,.d (.o 0 0)),(9,.d (.o 1 0)),(10,.d (.o 2 0))]) RBf hm (Abn kN kH kM x0 x1 x2 x3 us hus) (by kernel_rfl) (by kernel_rfl) rfl [(8,.d (.o 0 0)),(9,.d (.o 1 0))] (by kernel_rfl) (by kernel_rfl) (λ_=>by rfl) (Aq7 16 (by kernel_rfl) (by decide)) rfl (dx rfl) 2 (by kernel_rfl) (aA hC (bH _)) ?_ ?_ ?_ ?_
 .intro C2 s' hh hup hs;cases hb:(Nn us).2 with
  |true=>rw[hb]at hs;cases hs
  |false=>rw[h0 hb];exact Mi (bs:=[]) Cf (List.range 23) 25 [] [] [] [.cell 8 88,.cell 9 4] 0 [] rfl (by rw[hh];exact hC) trivial trivial (by kernel_rfl) hup
 .intro C2 v hh hup hr a w hs;cases hb:(Nn us).2 with
  |false=>rw[hb]at hr;cases hr
  |true=>rw[hb]at hr;simp only[ez,Ctl.ret.injEq]at hr;subst hr;exact hs.post hup (results:=[.cell 8 88,.cell 9 4]) (k:=0) (pi:=[]) rfl (by rw[hh];exact hC) (by kernel_rfl)
 .intro l C2 x z hl hd;exact Hf (bs:=[]) (φ:=λ_:Unit=>True) (st':=λ_=>[(8,.d (.o 0 0)),(9,.d (.o 1 0)),(10,.d (.o 2 0))]) (R':=λ_=>RBf x z) Cf (List.range 23) 26 [] [] [] 2 [0,1,2] () hl trivial trivial (by kernel_rfl) (by kernel_rfl) trivial
 .intro l C2 x z k hl hd hk _;unfold Aeu at hk;cases hb:!x.Holds with
  |true=>rw[hb]at hk;simp only[ez,ah]at hk;subst hk;exact A2a (bs:=[(!x.Holds,true)]) Cf (List.range 23) 26 [true] [] [] 2 [0,1] x.Part hl trivial ⟨hb,trivial⟩ (by kernel_rfl) rfl
  |false=>rw[hb]at hk;simp only[eB,ah]at hk;subst hk;exact Hf (bs:=[(!x.Holds,false)]) (φ:=λs'=>(Ctl.next ():Ctl Unit a_)=.next s') (st':=λ_=>[]) (R':=RFf) Cf (List.range 23) 26 [false] [] [] 2 [0,1] () hl trivial ⟨hb,trivial⟩ (by kernel_rfl) (by kernel_rfl) rfl
end
end Go.Proofs.YtiaaaghdkhnonaaGreat
