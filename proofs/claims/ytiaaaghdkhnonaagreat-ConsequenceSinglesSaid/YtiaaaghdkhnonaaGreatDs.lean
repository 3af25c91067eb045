import Derived.Test.YtiaaaghdkhnonaaGreatIt
import Derived.Test.YtiaaaghdkhnonaaGreatSg
import Derived.Test.YtiaaaghdkhnonaaGreatDx
set_option linter.unusedVariables false
set_option linter.unusedSimpArgs false
namespace Go.Proofs.YtiaaaghdkhnonaaGreat
open Go Go.RowKit Go.SL Go.Sort
variable{F cs:Array Value}{l m:List Ab}{b o:Nat}{w:World}
def Ta(a b:Ab):Int:=if Lib.compareInt a.Kind b.Kind=0 then Lib.compareInt a.Number b.Number else Lib.compareInt a.Kind b.Kind
theorem A5e(x y:Int):(Lib.compareInt x y = -1/\x<y)\/(Lib.compareInt x y=0/\x=y)\/(Lib.compareInt x y=1/\y<x):=by
 unfold Lib.compareInt;split
 ·exact .inl ⟨rfl,by assumption⟩
 ·split
  ·exact .inr (.inr ⟨rfl,by omega⟩)
  ·exact .inr (.inl ⟨rfl,by omega⟩)
theorem Q4(a b:Ab):ltOf Ta a b=Dm a b:=by
 rw[bk,Gk];unfold ltOf Ta;rw[dJ];rcases A5e a.Kind b.Kind with⟨h,g⟩|⟨h,g⟩|⟨h,g⟩
 ·rw[h,if_neg (by decide)];exact⟨λ_=>.inl g,λ_=>by decide⟩
 ·rw[h,if_pos rfl];rcases A5e a.Number b.Number with⟨k,q⟩|⟨k,q⟩|⟨k,q⟩
  ·rw[k];exact⟨λ_=>.inr ⟨g,q⟩,λ_=>by decide⟩
  ·rw[k];exact⟨λe=>absurd e (by decide),λe=>by omega⟩
  ·rw[k];exact⟨λe=>absurd e (by decide),λe=>by omega⟩
 ·rw[h,if_neg (by decide)];exact⟨λe=>absurd e (by decide),λe=>by omega⟩
theorem Acb{a b:Ab}(h:Dm a b=true):Dm b a=false:=by
 cases g:Dm b a with
 |false=>rfl
 |true=>rw[Gk]at h g;omega
theorem Atf:SWO (ltOf Ta) where
 irrefl x:=by rw[Q4];exact Ju x
 trans x y z h1 h2:=by rw[Q4]at *;exact Kt h1 h2
 ntrans x y z h1 h2:=by
  rw[Q4]at *;cases g:Dm x z with
  |false=>rfl
  |true=>
   exfalso;have n1:¬(x.Kind<y.Kind\/x.Kind=y.Kind/\x.Number<y.Number):=λq=>by rw[Gk.2 q]at h1;cases h1
   have n2:¬(y.Kind<z.Kind\/y.Kind=z.Kind/\y.Number<z.Number):=λq=>by rw[Gk.2 q]at h2;cases h2
   rw[Gk]at g;omega
def Y3(p:Ab):List Ab->List Ab
 | []=>[p]
 |q::l=>bif Dm q p then q::Y3 p l else p::q::l
def Ho(l:List Ab):List Ab:=l.foldr Y3 []
theorem U7(p:Ab):∀l:List Ab,(Y3 p l).Perm (p::l)
 | []=>.refl _
 |q::l=>by
  unfold Y3;cases Dm q p with
  |true=>exact((U7 p l).cons q).trans (.swap p q l)
  |false=>exact .refl _
theorem Ng:∀l:List Ab,(Ho l).Perm l
 | []=>.refl _
 |p::l=>(U7 p (Ho l)).trans ((Ng l).cons p)
abbrev V5(l:List Ab):Prop:=l.Pairwise λa b=>Dm b a=false
theorem Afn(p:Ab):∀{l:List Ab},V5 l->V5 (Y3 p l)
 | [],_=>by simp[Y3,V5]
 | q::l,h=>by
  obtain⟨hq,hl⟩:=aP.1 h;unfold Y3;cases h1:Dm q p with
  |true=>
   refine aP.2 ⟨λx hx=>?_,Afn p hl⟩;rcases ag.1 ((U7 p l).mem_iff.1 hx) with e|e
   ·rw[e];exact Acb h1
   ·exact hq x e
  | false=>
   refine aP.2 ⟨λx hx=>?_,h⟩;rcases ag.1 hx with e|e
   ·rw[e];exact h1
   ·have:=hq x e;rw[←Q4]at this h1 ⊢;exact Atf.ntrans _ _ _ this h1
theorem Ul:∀l:List Ab,V5 (Ho l)
 | []=>bS
 |p::l=>Afn p (Ul l)
theorem Z4(h1:V5 l)(h2:V5 m)(hp:l.Perm m):l=m:=
 List.Perm.eq_of_pairwise (λa b _ _ g1 g2=>by
  rcases Yx a b with h|h|h
  ·rw[h]at g2;cases g2
  ·exact h
  ·rw[h]at g1;cases g1) h1 h2 hp
theorem Yd(h:l.Nodup):Ho l=Jm l:=by
 refine Z4 (Ul l) ((Ih l).imp λh=>Acb h) ?_;refine(Ng l).trans ?_;refine(List.perm_ext_iff_of_nodup h ?_).2 λx=>(J9 l x).symm;exact(Ih l).imp λh e=>by rw[e,Ju]at h;cases h
theorem Ajt{d:Array Ab}(h:SortedIn (ltOf Ta) 0 d.size d):V5 d.toList:=by
 unfold V5;rw[bY];intro i j hi hj hij;have:=h i j (bF _) hij (by simpa using hj);rw[Q4]at this;simp only[cq]at hi hj;rw[getElem!_pos d i hi,getElem!_pos d j hj]at this;simpa using this
def Gl(p:Ab):List Value:=[.int .i64 p.Kind,.int .i64 p.Number]
abbrev vV:Prop:=∀x y:Ab,CallOk Tryz.prog 107 [.agg (d88 x),.agg (d88 y)] [] (.d (I (Ta x y))) []
theorem gl0(S:Nat->Prop)(w:World):P6 S w:=⟨λg c h=>by simp[globTab]at h,λg h=>by simp[globIf]at h⟩
theorem yI(S:Nat->Prop)(w:World)(ρ:List Value)(x:Ab):RdA S w ρ (.agg (Gl x).toArray) (.agg (d88 x)):=
 .agg ⟨.p (.v _ rfl),.p (.v _ rfl),trivial⟩
theorem Ate(hC:vV)(x y:Ab)(W:World) :
  Calls Tryz.prog 107 #[.agg (Gl x).toArray,.agg (Gl y).toArray] W λe w'=>e=.returned (.int .i64 (Ta x y))/\∃q os',w'=grow (W.drewN q) os':=by
 have hst:Go.SL.Start (λb=>b<W.heap.size) W [] []:=⟨rfl,λi r h hr=>by simp at hr,λi j r r' h h' b _ hr=>by simp at hr,λi r h b hr=>by simp at hr,λb hb=>hb,gl0 _ _⟩;refine Calls.mono (hC x y (λb=>b<W.heap.size) W [] [.agg (Gl x).toArray,.agg (Gl y).toArray] hst ⟨yI _ _ _ x,yI _ _ _ y,trivial⟩) λe w' hp=>?_;obtain⟨v,S',ρ',rfl,hr,hI⟩:=hp;refine⟨by rw[hr.exact_inv],w'.drawn-W.drawn,w'.heap.extract W.heap.size w'.heap.size,?_⟩;obtain⟨heap',tape',drawn',os',output'⟩:=w';have e1:os'=W.os:=hI.os;have e2:tape'=W.tape:=hI.tape.1;have e3:output'=W.output:=hI.output;have e4:W.drawn<=drawn':=hI.tape.2 rfl;have hs:W.heap.size<=heap'.size:=hI.size;have hb:∀k,k<W.heap.size->heap'[k]? = W.heap[k]?:=λk hk=>hI.frm k hk λ⟨i,r,h,h1,_⟩=>by simp at h1
 subst e1 e2 e3;have eh:heap'=W.heap++heap'.extract W.heap.size heap'.size:=by
  apply Array.ext_getElem?;intro k;by_cases hk:k<W.heap.size
  ·rw[cQ hk];exact hb k hk
  ·rw[Array.getElem?_append_right (by omega),Array.getElem?_extract];by_cases hk2:k<heap'.size
   ·rw[if_pos (by omega)];congr 1;omega
   ·rw[if_neg (by omega),Array.getElem?_eq_none (by omega)]
 simp only[grow,World.drewN];congr 1;omega
theorem Art{t:TypeId}{fr:Nat×Nat}(h:w.heap[b]? = some (.cells cs t fr)):(putRow id w b o F).heap[b]? = some (.cells (putCells id o F cs) t fr):=by
 simp[putRow,mapBlock,Array.getElem?_modify,h,onCells]
theorem Anp{k:Nat}(h:k≠b):(putRow id w b o F).heap[k]? = w.heap[k]?:=by
 simp[putRow,mapBlock,Array.getElem?_modify,Ne.symm h]
theorem Ae0(j:Nat)(hj:j<F.size)(hf:o+F.size<=cs.size):(putCells id o F cs)[o+j]? = some F[j]!:=by
 unfold putCells;rw[Array.getElem?_mapIdx,aZ (by omega),aT,if_pos ⟨by omega,by omega⟩,show o+j-o=j by omega];rfl
theorem Axn(d:Array Ab)(i j:Nat)(hi:i<d.size)(hj:j<2):(flatK Gl 2 d)[i*2+j]! = (Gl d[i]!)[j]!:=by
 rw[get_flatK _ _ _ _ (by omega)];have e1:(i*2+j) / 2=i:=by omega
 have e2:(i*2+j) % 2=j:=by omega
 rw[e1,e2]
theorem Ce:Tryz.prog.follows .mixedOrders=true:=by kernel_rfl
theorem A88:CallOk Tryz.prog 235 [.d (.p (.s [])),.d (I 0),.d (I 0),.d (.fn (.func 107) [] [])] [] (.tup []) []:=by
 refine Ev 53 Tryz.func235 rfl rfl rfl λC hC=>?_;exact Xy (bs:=[(false,false)]) Ce (List.range 53) 60 [true,true,false] [] [] [] 0 [] rfl hC trivial ⟨rfl,trivial⟩ (by kernel_rfl) (by kernel_rfl)
theorem A8u:CallOk Tryz.prog 171 [.d (.p (.s [])),.d (I 0),.d (I 0),.d (I 0),.d (.fn (.func 107) [] [])] [] (.tup []) []:=by
 refine Ev 148 Tryz.func171 rfl rfl rfl λC hC=>?_;exact Jk (bs:=[(true,true)]) Ce (List.range 40) 60 [true,true,true] [.call 235 [.d (.p (.s [])),.d (I 0),.d (I 0),.d (.fn (.func 107) [] [])] [] (.tup []) [] []] [] [] 0 [] rfl hC ⟨⟨Go.SL.Dj Tryz.func235 (by kernel_rfl) (by kernel_rfl),A88⟩,trivial⟩ ⟨rfl,trivial⟩ (by kernel_rfl)
theorem A80:CallOk Tryz.prog 172 [.d (.p (.v (.int .u64 0)))] [] (.d (I 0)) []:=by
 intro S w ρ vs hS hA;obtain⟨v0,rfl,r0⟩:∃v0,vs=[v0]/\RdA S w ρ v0 (.d (.p (.v (.int .u64 0)))):=by
  match vs,hA with
  | [v0],h=>exact⟨v0,rfl,h.1⟩
  | [],h=>exact h.elim
  |_::_::_,h=>exact h.2.elim
 have:=r0.exact_inv;subst this;have hl:=Any.bits_Len (SlLaysF0.n15.bits (P:=Tryz.prog) (ρ:=di) {dw with}) (0:Int) w (by omega) (by omega);refine Calls.mono hl λe w' ⟨he,hw⟩=>?_;subst he hw;exact⟨_,S,ρ,rfl,.d (.p (.v _ rfl)),hS.inv⟩
theorem A7x:CallOk Tryz.prog 106 [.d (.p (.s [])),.d (.fn (.func 107) [] [])] [] (.tup []) []:=by
 refine Ev 14 Tryz.func106 rfl rfl rfl λC hC=>?_;exact Xy (bs:=[]) Ce (List.range 14) 40 [] [.call 172 [.d (.p (.v (.int .u64 0)))] [] (.d (I 0)) [] [],.call 171 [.d (.p (.s [])),.d (I 0),.d (I 0),.d (I 0),.d (.fn (.func 107) [] [])] [] (.tup []) [] []] [] [] 0 [] rfl hC ⟨⟨Go.SL.Dj Tryz.func172 (by kernel_rfl) (by kernel_rfl),A80⟩,⟨Go.SL.Dj Tryz.func171 (by kernel_rfl) (by kernel_rfl),A8u⟩,trivial⟩ trivial (by kernel_rfl) (by kernel_rfl)
theorem Azm(hC:vV)(l:List Ab)(hl:l.length<4611686018427387904) :
  CallOk Tryz.prog 106 [.d (.os 0),.d (.fn (.func 107) [] [])] [.sl 88 2 (l.map q88)] (.tup []) [.sl 88 2 ((Ho l).map q88)]:=by
 intro S w ρ vs hS hA;obtain⟨v0,v1,rfl,r0,r1⟩:∃v0 v1,vs=[v0,v1]/\RdA S w ρ v0 (.d (.os 0))/\RdA S w ρ v1 (.d (.fn (.func 107) [] [])):=by
  match vs,hA with
  | [v0,v1],h=>exact⟨v0,v1,rfl,h.1,h.2.1⟩
  | [],h=>exact h.elim
  | [_],h=>exact h.2.elim
  |_::_::_::_,h=>exact h.2.2.elim
 have e1:v1=.func (.func 107) #[] #[]:=by
  obtain⟨xs,cs,h1,h2,h3⟩:=r1.d_inv.fn_inv
  match xs,cs,h2,h3 with
  | [],[],_,_=>exact h1
  |_::_,_,h,_=>exact h.elim
  | [],_::_,_,h=>exact h.elim
 subst e1;have h0:=r0.d_inv.os_inv;have h1:=r0.d_inv.one;obtain⟨h,rfl⟩:∃h,ρ=[h]:=by
  match ρ,hS.len with
  | [h],_=>exact⟨h,rfl⟩
 have hh:h=v0:=by simpa using h0
 subst hh;have hlen:(Ho l).length=l.length:=(Ng l).length_eq;rcases(hS.ok 0 _ h rfl rfl).live h1 with⟨hv,hnil⟩|⟨b,o,cap,cur,rfl,hb,hcap,hmax,hfit,hrow,hcell⟩
 ·have hl0:l=[]:=by simpa using hnil
  subst hl0;subst hv;have hst:Go.SL.Start S w [] []:=⟨rfl,λi r h hr=>by simp at hr,λi j r r' h h' b _ hr=>by simp at hr,λi r h b hr=>by simp at hr,hS.sup,gl0 _ _⟩;refine Calls.mono (A7x S w [] [.slice none 0 0,.func (.func 107) #[] #[]] hst ⟨.d (.p (.s none default 0 1 [] (λ_ _=>.int .i64 0) (af _) (by decide) (by decide) (by simp) (by simp) (by simp))),.d (.fn (xs:=[]) (cs:=[]) rfl rfl (by simp) (by simp)),trivial⟩) λe w' hp=>?_;obtain⟨v,S',ρ',he,hr,hI⟩:=hp;have hfr:∀k,k<w.heap.size->w'.heap[k]? = w.heap[k]?:=λk hk=>hI.frm k hk λ⟨i,r,h,g1,_⟩=>by simp at g1
  refine⟨v,S,_,he,?_,hS.inv.grow (λ_ h=>h) (λ_ h=>.inl h) hfr hI.size hI.os hI.tape hI.output⟩;obtain⟨xs,rfl,hl⟩:∃xs:List Value,v=.tuple xs.toArray/\xs.length=0:=by
   cases hr with
   |tup hl h=>exact⟨_,rfl,hl⟩
  have:xs=[]:=List.length_eq_zero_iff.1 hl;subst this;exact .tup rfl (λj x a hx=>by simp at hx)
 have hb:=hb.zero rfl;rw[aw]at hcap;have hbw:b<w.heap.size:=(aO.1 hb).1;have hcurr:∀(i:Nat)(p:Ab),l[i]? = some p->cur[o+i*2+0]? = some (.int .i64 p.Kind)/\cur[o+i*2+1]? = some (.int .i64 p.Number):=λi p hp=>by
  have hr:(l.map q88)[i]? = some (q88 p):=by rw[au,hp];rfl
  obtain⟨x,hx,hd⟩:=hcell i _ hr 0 _ rfl;obtain⟨y,hy,hd'⟩:=hcell i _ hr 1 _ rfl;rw[hd.v_form]at hx;rw[hd'.v_form]at hy;exact⟨hx,hy⟩
 have hH:HoldsK Gl 2 w b o l.toArray:=λj hj=>by
  rw[size_flatK]at hj;simp only[bZ]at hj;have hi:j / 2<l.length:=by omega
  have hp:=ai hi;obtain⟨c0,c1⟩:=hcurr _ _ hp;have hg:(flatK Gl 2 l.toArray)[j]! = (Gl l[j / 2])[j % 2]!:=by
   rw[get_flatK _ _ _ _ (by simpa using hj)];congr 2;simp[hi]
  refine⟨?_,by simp[World.frozen?,hb]⟩;rw[hg];simp only[World.cell?,hb];rcases Nat.mod_two_eq_zero_or_one j with e|e
  ·rw[e,show o+j=o+j / 2*2+0 by omega];simpa[Gl]using c0
  ·rw[e,show o+j=o+j / 2*2+1 by omega];simpa[Gl]using c1
 have hsort:=AnyQ.slices_SortFunc (P:=Tryz.prog) (ρ:=di) dw 2 (λw=>by kernel_rfl) (λw=>Cw (by kernel_rfl)) Gl (λ_=>rfl) (λx v hv=>by
   simp[Gl]at hv;rcases hv with rfl|rfl <;> rfl) Ta Atf 107 #[] b o cap l.toArray w (λargs w=>(Go.SL.Dj Tryz.func107 (by kernel_rfl) (by kernel_rfl):Ew Tryz.prog 107) args w) (λm os dk hs x y=>Ate hC x y _) hH hbw (by simpa using hl)
 rw[aw];refine Calls.mono hsort λe w' ⟨he,d',n,os,hp,hs,hw⟩=>?_;subst he hw;have hd':d'.toList=Ho l:=by
  have hsz:d'.size=l.length:=by simpa using hp.1
  refine Z4 (Ajt (by rw[hsz];simpa using hs)) (Ul l) ?_;have:=hp.2.2;have e1:d'.extract 0 l.toArray.size=d':=by
   have:l.toArray.size=d'.size:=by simp[hsz]
   rw[this];exact Array.extract_size
  have e2:l.toArray.extract 0 l.toArray.size=l.toArray:=Array.extract_size;rw[e1,e2]at this;exact this.trans (Ng l).symm
 have hsz:d'.size=l.length:=by simpa using hp.1
 have hI:=hS.inv;have hfl:(flatK Gl 2 d').size=l.length*2:=by rw[size_flatK,hsz]
 have hW:Go.SL.Inv ⟨w,S,D8 [.slice (some ⟨b,o,none⟩) l.length cap] [.sl 88 2 (l.map q88)],[.slice (some ⟨b,o,none⟩) l.length cap],[]⟩ S (putRow id (Go.Sort.ahead w n) b o (flatK Gl 2 d')) [.slice (some ⟨b,o,none⟩) l.length cap] [.sl 88 2 ((Ho l).map q88)]:=by
  rw[aw]at hI;refine hI.put (i:=0) (r':=.sl 88 2 ((Ho l).map q88)) (b:=b) rfl rfl rfl (λk hk=>by simp[Res.foot]at hk;exact hk.symm) (λk hk=>Anp hk) (by simp[Go.Sort.ahead]) rfl ⟨rfl,λ_=>Nat.le_add_right _ _⟩ rfl
   (.inr (.inr ⟨b,o,cap,putCells id o (flatK Gl 2 d') cur,by rw[aw,hlen],Blk.of (Art hb),by rw[aw,hlen];exact hcap,hmax,by simpa[putCells]using hfit,λrow hr=>?_,λi row hi j d hj=>?_⟩))
  ·obtain⟨p,_,rfl⟩:=ao.1 hr;rfl
  ·rw[au]at hi;obtain⟨p,hpi,rfl⟩:=Dx hi;have hil:i<l.length:=by rw[←hlen];exact(ab.1 hpi).1
   have hjl:j<2:=by have:=(ab.1 hj).1;exact this
   have hdi:d'[i]! = p:=by
    rw[←hd',b9]at hpi;rw[getElem!_def,hpi]
   refine⟨(Gl p)[j]!,?_,?_⟩
   ·rw[bj,Ae0 _ (by rw[hfl];omega) (by rw[hfl];omega),Axn d' i j (by omega) hjl,hdi]
   ·match j,hjl with
    |0,_=>cases hj;exact .v _ rfl
    |1,_=>cases hj;exact .v _ rfl
 refine⟨_,S,[.slice (some ⟨b,o,none⟩) l.length cap],rfl,.tup rfl (λj x a hx=>by simp at hx),?_⟩;have hsub:∀k,k<(putRow id (Go.Sort.ahead w n) b o (flatK Gl 2 d')).heap.size->(grow (putRow id (Go.Sort.ahead w n) b o (flatK Gl 2 d')) os).heap[k]? = (putRow id (Go.Sort.ahead w n) b o (flatK Gl 2 d')).heap[k]?:=λk hk=>by
  show ((putRow id (Go.Sort.ahead w n) b o (flatK Gl 2 d')).heap++os)[k]? = _;exact cQ hk
 exact hW.grow (λ_ h=>h) (λ_ h=>.inl h) hsub (by show _<=((putRow id (Go.Sort.ahead w n) b o (flatK Gl 2 d')).heap++os).size;rw[Array.size_append];exact Nat.le_add_right _ _) rfl ⟨rfl,λ_=>af _⟩ rfl
end Go.Proofs.YtiaaaghdkhnonaaGreat
