import Derived.Test.YtiaaaghdkhnonaaGreatIt
import Derived.Test.YtiaaaghdkhnonaaGreatSg
import Derived.Test.YtiaaaghdkhnonaaGreatDx
set_option linter.unusedVariables false
set_option linter.unusedSimpArgs false
namespace Go.Proofs.YtiaaaghdkhnonaaGreat
open Go Go.RowKit Go.SL Go.Sort
variable{F cs:Array Value}{l m:List a_}{b o:Nat}{w:World}
def Tr(a b:a_):Int:=if Lib.compareInt a.Kind b.Kind=0 then Lib.compareInt a.Number b.Number else Lib.compareInt a.Kind b.Kind
theorem A5b(x y:Int):(Lib.compareInt x y = -1/\x<y)\/(Lib.compareInt x y=0/\x=y)\/(Lib.compareInt x y=1/\y<x):=by grind[Lib.compareInt]
theorem Rl(a b:a_):ltOf Tr a b=Dv a b:=by
 rw[bL,Hc];unfold ltOf Tr;rw[dM];rcases A5b a.Kind b.Kind with⟨h,g⟩|⟨h,g⟩|⟨h,g⟩
 .grind
 .rw[h,eC rfl];rcases A5b a.Number b.Number with⟨k,q⟩|⟨k,q⟩|⟨k,q⟩
  .rw[k];exact⟨λ_=>.inr ⟨g,q⟩,λ_=>by decide⟩
  .grind
  grind
 grind
theorem Abf{a b:a_}(h:Dv a b=true):Dv b a=false:=by
 cases g:Dv b a with
 |false=>rfl
 |true=>rw[Hc]at h g;omega
theorem Ar6:SWO (ltOf Tr) where
 irrefl x:=by rw[Rl];exact L4 x
 trans x y z h1 h2:=by rw[Rl]at *;exact Ld h1 h2
 ntrans x y z h1 h2:=by
  rw[Rl]at *;cases g:Dv x z with
  |false=>rfl
  |true=>
   exfalso;have n1:¬(x.Kind<y.Kind\/x.Kind=y.Kind/\x.Number<y.Number):=λq=>by rw[Hc.2 q]at h1;cases h1
   have n2:¬(y.Kind<z.Kind\/y.Kind=z.Kind/\y.Number<z.Number):=λq=>by rw[Hc.2 q]at h2;cases h2
   rw[Hc]at g;omega
def Y8(p:a_):List a_->List a_
 | []=>[p]
 |q::l=>bif Dv q p then q::Y8 p l else p::q::l
def I_(l:List a_):List a_:=l.foldr Y8 []
theorem Vj(p:a_):∀l:List a_,(Y8 p l).Perm (p::l)
 | []=>.refl _
 |q::l=>by
  unfold Y8;cases Dv q p with
  |true=>exact((Vj p l).cons q).trans (.swap p q l)
  |false=>exact .refl _
theorem N2:∀l:List a_,(I_ l).Perm l
 | []=>.refl _
 |p::l=>(Vj p (I_ l)).trans ((N2 l).cons p)
abbrev Wi(l:List a_):Prop:=l.Pairwise λa b=>Dv b a=false
theorem Aeh(p:a_):∀{l:List a_},Wi l->Wi (Y8 p l)
 | [],_=>by simp[Y8,Wi]
 | q::l,h=>by
  obtain⟨hq,hl⟩:=aL.1 h;unfold Y8;cases h1:Dv q p with
  |true=>
   refine aL.2 ⟨λx hx=>?_,Aeh p hl⟩;rcases ag.1 ((Vj p l).mem_iff.1 hx) with e|e
   .rw[e];exact Abf h1
   .exact hq x e
  | false=>
   refine aL.2 ⟨λx hx=>?_,h⟩;rcases ag.1 hx with e|e
   .rw[e];exact h1
   .have:=hq x e;rw[←Rl]at this h1 ⊢;exact Ar6.ntrans _ _ _ this h1
theorem Ut:∀l:List a_,Wi (I_ l)
 | []=>bF
 |p::l=>Aeh p (Ut l)
theorem Z4(h1:Wi l)(h2:Wi m)(hp:l.Perm m):l=m:=
 List.Perm.eq_of_pairwise (λa b _ _ g1 g2=>by
  rcases Y1 a b with h|h|h
  .rw[h]at g2;cases g2
  .exact h
  .rw[h]at g1;cases g1) h1 h2 hp
theorem Aii(h:l.Nodup):I_ l=Ke l:=by refine Z4 (Ut l) ((Ii l).imp λh=>Abf h) ?_;refine(N2 l).trans ?_;refine(List.perm_ext_iff_of_nodup h ?_).2 λx=>(Jd l x).symm;exact(Ii l).imp λh e=>by rw[e,L4]at h;cases h
theorem Aih{d:Array a_}(h:SortedIn (ltOf Tr) 0 d.size d):Wi d.toList:=by unfold Wi;rw[bm];intro i j hi hj hij;have:=h i j (bH _) hij (by simpa using hj);rw[Rl]at this;grind
def Hd(p:a_):eU:=[.int .i64 p.Kind,.int .i64 p.Number]
abbrev vQ:Prop:=∀x y:a_,CallOk Tryz.prog 107 [.agg (d88 x),.agg (d88 y)] [] (.d (I (Tr x y))) []
theorem gl0(S:Nat->Prop)(w:World):Qu S w:=⟨λg c h=>by simp[globTab]at h,λg h=>by simp[globIf]at h⟩
theorem yB(S:Nat->Prop)(w:World)(ρ:eU)(x:a_):RdA S w ρ (.agg (Hd x).toArray) (.agg (d88 x)):=
 .agg ⟨.p (.v _ rfl),.p (.v _ rfl),trivial⟩
theorem Ar5(hC:vQ)(x y:a_)(W:World) :
  Calls Tryz.prog 107 #[.agg (Hd x).toArray,.agg (Hd y).toArray] W λe w'=>e=.returned (.int .i64 (Tr x y))/\∃q os',w'=grow (W.drewN q) os':=by
 have hst:Go.SL.Start (λb=>b<W.heap.size) W [] []:=⟨rfl,λi r h hr=>by simp at hr,λi j r r' h h' b _ hr=>by simp at hr,λi r h b hr=>by simp at hr,λb hb=>hb,gl0 _ _⟩;refine Calls.mono (hC x y (λb=>b<W.heap.size) W [] [.agg (Hd x).toArray,.agg (Hd y).toArray] hst ⟨yB _ _ _ x,yB _ _ _ y,trivial⟩) λe w' hp=>?_;obtain⟨v,S',ρ',rfl,hr,hI⟩:=hp;refine⟨by rw[hr.exact_inv],w'.drawn-W.drawn,w'.heap.extract W.heap.size w'.heap.size,?_⟩;obtain⟨heap',tape',drawn',os',output'⟩:=w';have e1:os'=W.os:=hI.os;have e2:tape'=W.tape:=hI.tape.1;have e3:output'=W.output:=hI.output;have e4:W.drawn<=drawn':=hI.tape.2 rfl;have hs:W.heap.size<=heap'.size:=hI.size;have hb:∀k,k<W.heap.size->heap'[k]?=W.heap[k]?:=λk hk=>hI.frm k hk λ⟨i,r,h,h1,_⟩=>by simp at h1
 subst e1 e2 e3;have eh:heap'=W.heap++heap'.extract W.heap.size heap'.size:=by grind
 simp only[grow,World.drewN];congr 1;omega
theorem Aqf{t:TypeId}{fr:Nat×Nat}(h:w.heap[b]?=some (.cells cs t fr)):(putRow id w b o F).heap[b]?=some (.cells (putCells id o F cs) t fr):=by simp[putRow,mapBlock,Array.getElem?_modify,h,onCells]
theorem Amc{k:Nat}(h:k≠b):(putRow id w b o F).heap[k]?=w.heap[k]?:=by simp[putRow,mapBlock,Array.getElem?_modify,Ne.symm h]
theorem Ady(j:Nat)(hj:j<F.size)(hf:o+F.size<=cs.size):(putCells id o F cs)[o+j]?=some F[j]!:=by grind[Sort.putCells]
theorem Aw9(d:Array a_)(i j:Nat)(hi:i<d.size)(hj:j<2):(flatK Hd 2 d)[i*2+j]! = (Hd d[i]!)[j]!:=by grind[Sort.get_flatK]
theorem Cf:Tryz.prog.follows .mixedOrders=true:=by kernel_rfl
theorem A85:CallOk Tryz.prog 235 [.d (.p (.s [])),.d (I 0),.d (I 0),.d (.fn (.func 107) [] [])] [] (.tup []) []:=by refine Fb 53 Tryz.func235 rfl rfl rfl λC hC=>?_;exact X7 (bs:=[(false,false)]) Cf (List.range 53) 60 [true,true,false] [] [] [] 0 [] rfl hC trivial ⟨rfl,trivial⟩ (by kernel_rfl) (by kernel_rfl)
theorem A8q:CallOk Tryz.prog 171 [.d (.p (.s [])),.d (I 0),.d (I 0),.d (I 0),.d (.fn (.func 107) [] [])] [] (.tup []) []:=by refine Fb 148 Tryz.func171 rfl rfl rfl λC hC=>?_;exact Kd (bs:=[(true,true)]) Cf (List.range 40) 60 [true,true,true] [.call 235 [.d (.p (.s [])),.d (I 0),.d (I 0),.d (.fn (.func 107) [] [])] [] (.tup []) [] []] [] [] 0 [] rfl hC ⟨⟨Go.SL.Dt Tryz.func235 (by kernel_rfl) (by kernel_rfl),A85⟩,trivial⟩ ⟨rfl,trivial⟩ (by kernel_rfl)
theorem A8w:CallOk Tryz.prog 172 [.d (.p (.v (.int .u64 0)))] [] (.d (I 0)) []:=by
 intro S w ρ vs hS hA;obtain⟨v0,rfl,r0⟩:∃v0,vs=[v0]/\RdA S w ρ v0 (.d (.p (.v (.int .u64 0)))):=by
  match vs,hA with
  | [v0],h=>exact⟨v0,rfl,h.1⟩
  | [],h=>exact h.elim
  |_::_::_,h=>exact h.2.elim
 have:=r0.exact_inv;subst this;have hl:=Any.bits_Len (SlLaysF0.n15.bits (P:=Tryz.prog) (ρ:=dn) {dz with}) (0:Int) w (by omega) (by omega);refine Calls.mono hl λe w' ⟨he,hw⟩=>?_;subst he hw;exact⟨_,S,ρ,rfl,.d (.p (.v _ rfl)),hS.inv⟩
theorem A71:CallOk Tryz.prog 106 [.d (.p (.s [])),.d (.fn (.func 107) [] [])] [] (.tup []) []:=by refine Fb 14 Tryz.func106 rfl rfl rfl λC hC=>?_;exact X7 (bs:=[]) Cf (List.range 14) 40 [] [.call 172 [.d (.p (.v (.int .u64 0)))] [] (.d (I 0)) [] [],.call 171 [.d (.p (.s [])),.d (I 0),.d (I 0),.d (I 0),.d (.fn (.func 107) [] [])] [] (.tup []) [] []] [] [] 0 [] rfl hC ⟨⟨Go.SL.Dt Tryz.func172 (by kernel_rfl) (by kernel_rfl),A8w⟩,⟨Go.SL.Dt Tryz.func171 (by kernel_rfl) (by kernel_rfl),A8q⟩,trivial⟩ trivial (by kernel_rfl) (by kernel_rfl)
theorem Aze(hC:vQ)(l:List a_)(hl:l.length<4611686018427387904) :
  CallOk Tryz.prog 106 [.d (.os 0),.d (.fn (.func 107) [] [])] [.sl 88 2 (l.map q88)] (.tup []) [.sl 88 2 ((I_ l).map q88)]:=by
 intro S w ρ vs hS hA;obtain⟨v0,v1,rfl,r0,r1⟩:∃v0 v1,vs=[v0,v1]/\RdA S w ρ v0 (.d (.os 0))/\RdA S w ρ v1 (.d (.fn (.func 107) [] [])):=by
  match vs,hA with
  | [v0,v1],h=>exact⟨v0,v1,rfl,h.1,h.2.1⟩
  | [],h=>exact h.elim
  | [_],h=>exact h.2.elim
  |_::_::_::_,h=>exact h.2.2.elim
 have e1:v1=.func (.func 107) #[] #[]:=by
  obtain⟨xs,cs,h1,h2,h3⟩:=r1.d_inv.fn_inv
  match xs,cs,h2,h3 with
  | [],[],_,_=>exact h1
  |_::_,_,h,_=>exact h.elim
  | [],_::_,_,h=>exact h.elim
 subst e1;have h0:=r0.d_inv.os_inv;have h1:=r0.d_inv.one;obtain⟨h,rfl⟩:∃h,ρ=[h]:=by
  match ρ,hS.len with
  | [h],_=>exact⟨h,rfl⟩
 have hh:h=v0:=by simpa using h0
 subst hh;have hlen:(I_ l).length=l.length:=(N2 l).length_eq;rcases(hS.ok 0 _ h rfl rfl).live h1 with⟨hv,hnil⟩|⟨b,o,cap,cur,rfl,hb,hcap,hmax,hfit,hrow,hcell⟩
 .have hl0:l=[]:=by simpa using hnil
  subst hl0;subst hv;have hst:Go.SL.Start S w [] []:=⟨rfl,λi r h hr=>by simp at hr,λi j r r' h h' b _ hr=>by simp at hr,λi r h b hr=>by simp at hr,hS.sup,gl0 _ _⟩;refine Calls.mono (A71 S w [] [.slice none 0 0,.func (.func 107) #[] #[]] hst ⟨.d (.p (.s none default 0 1 [] (λ_ _=>.int .i64 0) (af _) (by decide) (by decide) (by simp) (by simp) (by simp))),.d (.fn (xs:=[]) (cs:=[]) rfl rfl (by simp) (by simp)),trivial⟩) λe w' hp=>?_;obtain⟨v,S',ρ',he,hr,hI⟩:=hp;have hfr:∀k,k<w.heap.size->w'.heap[k]?=w.heap[k]?:=λk hk=>hI.frm k hk λ⟨i,r,h,g1,_⟩=>by simp at g1
  refine⟨v,S,_,he,?_,hS.inv.grow (λ_ h=>h) (λ_ h=>.inl h) hfr hI.size hI.os hI.tape hI.output⟩;obtain⟨xs,rfl,hl⟩:∃xs:eU,v=.tuple xs.toArray/\xs.length=0:=by
   cases hr with
   |tup hl h=>exact⟨_,rfl,hl⟩
  have:xs=[]:=cL.1 hl;subst this;exact .tup rfl (λj x a hx=>by simp at hx)
 have hb:=hb.zero rfl;rw[ao]at hcap;have hbw:b<w.heap.size:=(aP.1 hb).1;have hcurr:∀(i:Nat)(p:a_),l[i]?=some p->cur[o+i*2+0]?=some (.int .i64 p.Kind)/\cur[o+i*2+1]?=some (.int .i64 p.Number):=λi p hp=>by
  have hr:(l.map q88)[i]?=some (q88 p):=by rw[aB,hp];rfl
  obtain⟨x,hx,hd⟩:=hcell i _ hr 0 _ rfl;obtain⟨y,hy,hd'⟩:=hcell i _ hr 1 _ rfl;rw[hd.v_form]at hx;rw[hd'.v_form]at hy;exact⟨hx,hy⟩
 have hH:HoldsK Hd 2 w b o l.toArray:=λj hj=>by
  rw[size_flatK]at hj;simp only[bZ]at hj;have hi:j / 2<l.length:=by omega
  have hp:=aj hi;obtain⟨c0,c1⟩:=hcurr _ _ hp;have hg:(flatK Hd 2 l.toArray)[j]! = (Hd l[j / 2])[j % 2]!:=by rw[get_flatK _ _ _ _ (by simpa using hj)];congr 2;simp[hi]
  refine⟨?_,by simp[World.frozen?,hb]⟩;rw[hg];simp only[World.cell?,hb];rcases Nat.mod_two_eq_zero_or_one j with e|e
  .rw[e,show o+j=o+j / 2*2+0 by omega];simpa[Hd]using c0
  .rw[e,show o+j=o+j / 2*2+1 by omega];simpa[Hd]using c1
 have hsort:=AnyQ.slices_SortFunc (P:=Tryz.prog) (ρ:=dn) dz 2 (λw=>by kernel_rfl) (λw=>C4 (by kernel_rfl)) Hd (λ_=>rfl) (λx v hv=>by simp[Hd]at hv;rcases hv with rfl|rfl <;> rfl) Tr Ar6 107 #[] b o cap l.toArray w (λargs w=>(Go.SL.Dt Tryz.func107 (by kernel_rfl) (by kernel_rfl):Fe Tryz.prog 107) args w) (λm os dk hs x y=>Ar5 hC x y _) hH hbw (by simpa using hl)
 rw[ao];refine Calls.mono hsort λe w' ⟨he,d',n,os,hp,hs,hw⟩=>?_;subst he hw;have hd':d'.toList=I_ l:=by
  have hsz:d'.size=l.length:=by simpa using hp.1
  refine Z4 (Aih (by rw[hsz];simpa using hs)) (Ut l) ?_;have:=hp.2.2;have e1:d'.extract 0 l.toArray.size=d':=by
   have:l.toArray.size=d'.size:=by simp[hsz]
   rw[this];exact Array.extract_size
  have e2:l.toArray.extract 0 l.toArray.size=l.toArray:=Array.extract_size;rw[e1,e2]at this;exact this.trans (N2 l).symm
 have hsz:d'.size=l.length:=by simpa using hp.1
 have hI:=hS.inv;have hfl:(flatK Hd 2 d').size=l.length*2:=by rw[size_flatK,hsz]
 have hW:Go.SL.Inv ⟨w,S,Em [.slice (some ⟨b,o,none⟩) l.length cap] [.sl 88 2 (l.map q88)],[.slice (some ⟨b,o,none⟩) l.length cap],[]⟩ S (putRow id (Go.Sort.ahead w n) b o (flatK Hd 2 d')) [.slice (some ⟨b,o,none⟩) l.length cap] [.sl 88 2 ((I_ l).map q88)]:=by
  rw[ao]at hI;refine hI.put (i:=0) (r':=.sl 88 2 ((I_ l).map q88)) (b:=b) rfl rfl rfl (λk hk=>by simp[Res.foot]at hk;exact hk.symm) (λk hk=>Amc hk) (by simp[Go.Sort.ahead]) rfl ⟨rfl,λ_=>Nat.le_add_right _ _⟩ rfl
   (.inr (.inr ⟨b,o,cap,putCells id o (flatK Hd 2 d') cur,by rw[ao,hlen],Blk.of (Aqf hb),by rw[ao,hlen];exact hcap,hmax,by simpa[putCells]using hfit,λrow hr=>?_,λi row hi j d hj=>?_⟩))
  .obtain⟨p,_,rfl⟩:=an.1 hr;rfl
  .rw[aB]at hi;obtain⟨p,hpi,rfl⟩:=D_ hi;have hil:i<l.length:=by rw[←hlen];exact(aa.1 hpi).1
   have hjl:j<2:=by have:=(aa.1 hj).1;exact this
   have hdi:d'[i]! = p:=by rw[←hd',b9]at hpi;rw[getElem!_def,hpi]
   refine⟨(Hd p)[j]!,?_,?_⟩
   .rw[bl,Ady _ (by rw[hfl];omega) (by rw[hfl];omega),Aw9 d' i j (by omega) hjl,hdi]
   .match j,hjl with
    |0,_=>cases hj;exact .v _ rfl
    |1,_=>cases hj;exact .v _ rfl
 refine⟨_,S,[.slice (some ⟨b,o,none⟩) l.length cap],rfl,.tup rfl (λj x a hx=>by simp at hx),?_⟩;have hsub:∀k,k<(putRow id (Go.Sort.ahead w n) b o (flatK Hd 2 d')).heap.size->(grow (putRow id (Go.Sort.ahead w n) b o (flatK Hd 2 d')) os).heap[k]?=(putRow id (Go.Sort.ahead w n) b o (flatK Hd 2 d')).heap[k]?:=λk hk=>by show ((putRow id (Go.Sort.ahead w n) b o (flatK Hd 2 d')).heap++os)[k]?=_;exact Array.getElem?_append_left hk
 exact hW.grow (λ_ h=>h) (λ_ h=>.inl h) hsub (by show _<=((putRow id (Go.Sort.ahead w n) b o (flatK Hd 2 d')).heap++os).size;rw[Array.size_append];exact Nat.le_add_right _ _) rfl ⟨rfl,λ_=>af _⟩ rfl
end Go.Proofs.YtiaaaghdkhnonaaGreat
