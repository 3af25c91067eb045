import Derived.Test.YtiaaaghdkhnonaaGreatIt
import Derived.Test.YtiaaaghdkhnonaaGreatSg
import Derived.Test.YtiaaaghdkhnonaaGreatDx
set_option linter.unusedVariables false
set_option linter.unusedSimpArgs false
namespace Go.Proofs.YtiaaaghdkhnonaaGreat
open Go Go.RowKit Go.SL Go.Sort
variable{F cs:Array Value}{l m:List Ab}{b o:Nat}{w:World}
def Rv(a b:Ab):Int:=if Lib.compareInt a.Kind b.Kind=0 then Lib.compareInt a.Number b.Number else Lib.compareInt a.Kind b.Kind
theorem A0w(x y:Int):(Lib.compareInt x y = -1/\x<y)\/(Lib.compareInt x y=0/\x=y)\/(Lib.compareInt x y=1/\y<x):=by
 unfold Lib.compareInt;split
 ·exact .inl ⟨rfl,by assumption⟩
 ·split
  ·exact .inr (.inr ⟨rfl,by omega⟩)
  ·exact .inr (.inl ⟨rfl,by omega⟩)
theorem P3(a b:Ab):ltOf Rv a b=Dh a b:=by
 rw[ch,F7];unfold ltOf Rv;rw[dA];rcases A0w a.Kind b.Kind with⟨h,g⟩|⟨h,g⟩|⟨h,g⟩
 ·rw[h,if_neg (by decide)];exact⟨λ_=>.inl g,λ_=>by decide⟩
 ·rw[h,if_pos rfl];rcases A0w a.Number b.Number with⟨k,q⟩|⟨k,q⟩|⟨k,q⟩
  ·rw[k];exact⟨λ_=>.inr ⟨g,q⟩,λ_=>by decide⟩
  ·rw[k];exact⟨λe=>absurd e (by decide),λe=>by omega⟩
  ·rw[k];exact⟨λe=>absurd e (by decide),λe=>by omega⟩
 ·rw[h,if_neg (by decide)];exact⟨λe=>absurd e (by decide),λe=>by omega⟩
theorem yK{a b:Ab}(h:Dh a b=true):Dh b a=false:=by
 cases g:Dh b a with
 |false=>rfl
 |true=>rw[F7]at h g;omega
theorem Apj:SWO (ltOf Rv) where
 irrefl x:=by rw[P3];exact Jf x
 trans x y z h1 h2:=by rw[P3]at *;exact Ke h1 h2
 ntrans x y z h1 h2:=by
  rw[P3]at *;cases g:Dh x z with
  |false=>rfl
  |true=>
   exfalso;have n1:¬(x.Kind<y.Kind\/x.Kind=y.Kind/\x.Number<y.Number):=λq=>by rw[F7.2 q]at h1;cases h1
   have n2:¬(y.Kind<z.Kind\/y.Kind=z.Kind/\y.Number<z.Number):=λq=>by rw[F7.2 q]at h2;cases h2
   rw[F7]at g;omega
def Xa(p:Ab):List Ab->List Ab
 | []=>[p]
 |q::l=>bif Dh q p then q::Xa p l else p::q::l
def Hc(l:List Ab):List Ab:=l.foldr Xa []
theorem Ts(p:Ab):∀l:List Ab,(Xa p l).Perm (p::l)
 | []=>.refl _
 |q::l=>by
  unfold Xa;cases Dh q p with
  |true=>exact((Ts p l).cons q).trans (.swap p q l)
  |false=>exact .refl _
theorem Mm:∀l:List Ab,(Hc l).Perm l
 | []=>.refl _
 |p::l=>(Ts p (Hc l)).trans ((Mm l).cons p)
abbrev Ut(l:List Ab):Prop:=l.Pairwise λa b=>Dh b a=false
theorem Ace(p:Ab):∀{l:List Ab},Ut l->Ut (Xa p l)
 | [],_=>by simp[Xa,Ut]
 | q::l,h=>by
  obtain⟨hq,hl⟩:=aO.1 h;unfold Xa;cases h1:Dh q p with
  |true=>
   refine aO.2 ⟨λx hx=>?_,Ace p hl⟩;rcases ah.1 ((Ts p l).mem_iff.1 hx) with e|e
   ·rw[e];exact yK h1
   ·exact hq x e
  | false=>
   refine aO.2 ⟨λx hx=>?_,h⟩;rcases ah.1 hx with e|e
   ·rw[e];exact h1
   ·have:=hq x e;rw[←P3]at this h1 ⊢;exact Apj.ntrans _ _ _ this h1
theorem S6:∀l:List Ab,Ut (Hc l)
 | []=>bS
 |p::l=>Ace p (S6 l)
theorem X4(h1:Ut l)(h2:Ut m)(hp:l.Perm m):l=m:=
 List.Perm.eq_of_pairwise (λa b _ _ g1 g2=>by
  rcases W5 a b with h|h|h
  ·rw[h]at g2;cases g2
  ·exact h
  ·rw[h]at g1;cases g1) h1 h2 hp
theorem Wh(h:l.Nodup):Hc l=I8 l:=by
 refine X4 (S6 l) ((H1 l).imp λh=>yK h) ?_;refine(Mm l).trans ?_;refine(List.perm_ext_iff_of_nodup h ?_).2 λx=>(Ju l x).symm;exact(H1 l).imp λh e=>by rw[e,Jf]at h;cases h
theorem Agj{d:Array Ab}(h:SortedIn (ltOf Rv) 0 d.size d):Ut d.toList:=by
 unfold Ut;rw[bT];intro i j hi hj hij;have:=h i j (bB _) hij (by simpa using hj);rw[P3]at this;simp only[ci]at hi hj;rw[getElem!_pos d i hi,getElem!_pos d j hj]at this;simpa using this
def F_(p:Ab):List Value:=[.int .i64 p.Kind,.int .i64 p.Number]
abbrev jH:Prop:=∀x y:Ab,CallOk Tryz.prog 107 [.agg (d88 x),.agg (d88 y)] [] (.d (I (Rv x y))) []
theorem gl0(S:Nat->Prop)(w:World):O7 S w:=⟨λg c h=>by simp[globTab]at h,λg h=>by simp[globIf]at h⟩
theorem qD(S:Nat->Prop)(w:World)(ρ:List Value)(x:Ab):RdA S w ρ (.agg (F_ x).toArray) (.agg (d88 x)):=
 .agg ⟨.p (.v _ rfl),.p (.v _ rfl),trivial⟩
theorem Api(hC:jH)(x y:Ab)(W:World) :
  Calls Tryz.prog 107 #[.agg (F_ x).toArray,.agg (F_ y).toArray] W λe w'=>e=.returned (.int .i64 (Rv x y))/\∃q os',w'=grow (W.drewN q) os':=by
 have hst:Go.SL.Start (λb=>b<W.heap.size) W [] []:=⟨rfl,λi r h hr=>by simp at hr,λi j r r' h h' b _ hr=>by simp at hr,λi r h b hr=>by simp at hr,λb hb=>hb,gl0 _ _⟩;refine Calls.mono (hC x y (λb=>b<W.heap.size) W [] [.agg (F_ x).toArray,.agg (F_ y).toArray] hst ⟨qD _ _ _ x,qD _ _ _ y,trivial⟩) λe w' hp=>?_;obtain⟨v,S',ρ',rfl,hr,hI⟩:=hp;refine⟨by rw[hr.exact_inv],w'.drawn-W.drawn,w'.heap.extract W.heap.size w'.heap.size,?_⟩;obtain⟨heap',tape',drawn',os',output'⟩:=w';have e1:os'=W.os:=hI.os;have e2:tape'=W.tape:=hI.tape.1;have e3:output'=W.output:=hI.output;have e4:W.drawn<=drawn':=hI.tape.2 rfl;have hs:W.heap.size<=heap'.size:=hI.size;have hb:∀k,k<W.heap.size->heap'[k]? = W.heap[k]?:=λk hk=>hI.frm k hk λ⟨i,r,h,h1,_⟩=>by simp at h1
 subst e1 e2 e3;have eh:heap'=W.heap++heap'.extract W.heap.size heap'.size:=by
  apply Array.ext_getElem?;intro k;by_cases hk:k<W.heap.size
  ·rw[cL hk];exact hb k hk
  ·rw[Array.getElem?_append_right (by omega),Array.getElem?_extract];by_cases hk2:k<heap'.size
   ·rw[if_pos (by omega)];congr 1;omega
   ·rw[if_neg (by omega),Array.getElem?_eq_none (by omega)]
 simp only[grow,World.drewN];congr 1;omega
theorem An2{t:TypeId}{fr:Nat×Nat}(h:w.heap[b]? = some (.cells cs t fr)):(putRow id w b o F).heap[b]? = some (.cells (putCells id o F cs) t fr):=by
 simp[putRow,mapBlock,Array.getElem?_modify,h,onCells]
theorem Aj7{k:Nat}(h:k≠b):(putRow id w b o F).heap[k]? = w.heap[k]?:=by
 simp[putRow,mapBlock,Array.getElem?_modify,Ne.symm h]
theorem Abt(j:Nat)(hj:j<F.size)(hf:o+F.size<=cs.size):(putCells id o F cs)[o+j]? = some F[j]!:=by
 unfold putCells;rw[Array.getElem?_mapIdx,aW (by omega),aT,if_pos ⟨by omega,by omega⟩,show o+j-o=j by omega];rfl
theorem Ate(d:Array Ab)(i j:Nat)(hi:i<d.size)(hj:j<2):(flatK F_ 2 d)[i*2+j]! = (F_ d[i]!)[j]!:=by
 rw[get_flatK _ _ _ _ (by omega)];have e1:(i*2+j) / 2=i:=by omega
 have e2:(i*2+j) % 2=j:=by omega
 rw[e1,e2]
theorem Ca:Tryz.prog.follows .mixedOrders=true:=by kernel_rfl
theorem A4i:CallOk Tryz.prog 235 [.d (.p (.s [])),.d (I 0),.d (I 0),.d (.fn (.func 107) [] [])] [] (.tup []) []:=by
 refine Ek 53 Tryz.func235 rfl rfl rfl λC hC=>?_;exact V6 (bs:=[(false,false)]) Ca (List.range 53) 60 [true,true,false] [] [] [] 0 [] rfl hC trivial ⟨rfl,trivial⟩ (by kernel_rfl) (by kernel_rfl)
theorem A33:CallOk Tryz.prog 171 [.d (.p (.s [])),.d (I 0),.d (I 0),.d (I 0),.d (.fn (.func 107) [] [])] [] (.tup []) []:=by
 refine Ek 148 Tryz.func171 rfl rfl rfl λC hC=>?_;exact I5 (bs:=[(true,true)]) Ca (List.range 40) 60 [true,true,true] [.call 235 [.d (.p (.s [])),.d (I 0),.d (I 0),.d (.fn (.func 107) [] [])] [] (.tup []) [] []] [] [] 0 [] rfl hC ⟨⟨Go.SL.Dd Tryz.func235 (by kernel_rfl) (by kernel_rfl),A4i⟩,trivial⟩ ⟨rfl,trivial⟩ (by kernel_rfl)
theorem A4a:CallOk Tryz.prog 172 [.d (.p (.v (.int .u64 0)))] [] (.d (I 0)) []:=by
 intro S w ρ vs hS hA;obtain⟨v0,rfl,r0⟩:∃v0,vs=[v0]/\RdA S w ρ v0 (.d (.p (.v (.int .u64 0)))):=by
  match vs,hA with
  | [v0],h=>exact⟨v0,rfl,h.1⟩
  | [],h=>exact h.elim
  |_::_::_,h=>exact h.2.elim
 have:=r0.exact_inv;subst this;have hl:=Any.bits_Len (SlLaysF0.n15.bits (P:=Tryz.prog) (ρ:=d8) {dm with}) (0:Int) w (by omega) (by omega);refine Calls.mono hl λe w' ⟨he,hw⟩=>?_;subst he hw;exact⟨_,S,ρ,rfl,.d (.p (.v _ rfl)),hS.inv⟩
theorem A26:CallOk Tryz.prog 106 [.d (.p (.s [])),.d (.fn (.func 107) [] [])] [] (.tup []) []:=by
 refine Ek 14 Tryz.func106 rfl rfl rfl λC hC=>?_;exact V6 (bs:=[]) Ca (List.range 14) 40 [] [.call 172 [.d (.p (.v (.int .u64 0)))] [] (.d (I 0)) [] [],.call 171 [.d (.p (.s [])),.d (I 0),.d (I 0),.d (I 0),.d (.fn (.func 107) [] [])] [] (.tup []) [] []] [] [] 0 [] rfl hC ⟨⟨Go.SL.Dd Tryz.func172 (by kernel_rfl) (by kernel_rfl),A4a⟩,⟨Go.SL.Dd Tryz.func171 (by kernel_rfl) (by kernel_rfl),A33⟩,trivial⟩ trivial (by kernel_rfl) (by kernel_rfl)
theorem Avf(hC:jH)(l:List Ab)(hl:l.length<4611686018427387904) :
  CallOk Tryz.prog 106 [.d (.os 0),.d (.fn (.func 107) [] [])] [.sl 88 2 (l.map q88)] (.tup []) [.sl 88 2 ((Hc l).map q88)]:=by
 intro S w ρ vs hS hA;obtain⟨v0,v1,rfl,r0,r1⟩:∃v0 v1,vs=[v0,v1]/\RdA S w ρ v0 (.d (.os 0))/\RdA S w ρ v1 (.d (.fn (.func 107) [] [])):=by
  match vs,hA with
  | [v0,v1],h=>exact⟨v0,v1,rfl,h.1,h.2.1⟩
  | [],h=>exact h.elim
  | [_],h=>exact h.2.elim
  |_::_::_::_,h=>exact h.2.2.elim
 have e1:v1=.func (.func 107) #[] #[]:=by
  obtain⟨xs,cs,h1,h2,h3⟩:=r1.d_inv.fn_inv
  match xs,cs,h2,h3 with
  | [],[],_,_=>exact h1
  |_::_,_,h,_=>exact h.elim
  | [],_::_,_,h=>exact h.elim
 subst e1;have h0:=r0.d_inv.os_inv;have h1:=r0.d_inv.one;obtain⟨h,rfl⟩:∃h,ρ=[h]:=by
  match ρ,hS.len with
  | [h],_=>exact⟨h,rfl⟩
 have hh:h=v0:=by simpa using h0
 subst hh;have hlen:(Hc l).length=l.length:=(Mm l).length_eq;rcases(hS.ok 0 _ h rfl rfl).live h1 with⟨hv,hnil⟩|⟨b,o,cap,cur,rfl,hb,hcap,hmax,hfit,hrow,hcell⟩
 ·have hl0:l=[]:=by simpa using hnil
  subst hl0;subst hv;have hst:Go.SL.Start S w [] []:=⟨rfl,λi r h hr=>by simp at hr,λi j r r' h h' b _ hr=>by simp at hr,λi r h b hr=>by simp at hr,hS.sup,gl0 _ _⟩;refine Calls.mono (A26 S w [] [.slice none 0 0,.func (.func 107) #[] #[]] hst ⟨.d (.p (.s none default 0 1 [] (λ_ _=>.int .i64 0) (ag _) (by decide) (by decide) (by simp) (by simp) (by simp))),.d (.fn (xs:=[]) (cs:=[]) rfl rfl (by simp) (by simp)),trivial⟩) λe w' hp=>?_;obtain⟨v,S',ρ',he,hr,hI⟩:=hp;have hfr:∀k,k<w.heap.size->w'.heap[k]? = w.heap[k]?:=λk hk=>hI.frm k hk λ⟨i,r,h,g1,_⟩=>by simp at g1
  refine⟨v,S,_,he,?_,hS.inv.grow (λ_ h=>h) (λ_ h=>.inl h) hfr hI.size hI.os hI.tape hI.output⟩;obtain⟨xs,rfl,hl⟩:∃xs:List Value,v=.tuple xs.toArray/\xs.length=0:=by
   cases hr with
   |tup hl h=>exact⟨_,rfl,hl⟩
  have:xs=[]:=List.length_eq_zero_iff.1 hl;subst this;exact .tup rfl (λj x a hx=>by simp at hx)
 have hb:=hb.zero rfl;rw[au]at hcap;have hbw:b<w.heap.size:=(aN.1 hb).1;have hcurr:∀(i:Nat)(p:Ab),l[i]? = some p->cur[o+i*2+0]? = some (.int .i64 p.Kind)/\cur[o+i*2+1]? = some (.int .i64 p.Number):=λi p hp=>by
  have hr:(l.map q88)[i]? = some (q88 p):=by rw[aA,hp];rfl
  obtain⟨x,hx,hd⟩:=hcell i _ hr 0 _ rfl;obtain⟨y,hy,hd'⟩:=hcell i _ hr 1 _ rfl;rw[hd.v_form]at hx;rw[hd'.v_form]at hy;exact⟨hx,hy⟩
 have hH:HoldsK F_ 2 w b o l.toArray:=λj hj=>by
  rw[size_flatK]at hj;simp only[bU]at hj;have hi:j / 2<l.length:=by omega
  have hp:=aj hi;obtain⟨c0,c1⟩:=hcurr _ _ hp;have hg:(flatK F_ 2 l.toArray)[j]! = (F_ l[j / 2])[j % 2]!:=by
   rw[get_flatK _ _ _ _ (by simpa using hj)];congr 2;simp[hi]
  refine⟨?_,by simp[World.frozen?,hb]⟩;rw[hg];simp only[World.cell?,hb];rcases Nat.mod_two_eq_zero_or_one j with e|e
  ·rw[e,show o+j=o+j / 2*2+0 by omega];simpa[F_]using c0
  ·rw[e,show o+j=o+j / 2*2+1 by omega];simpa[F_]using c1
 have hsort:=AnyQ.slices_SortFunc (P:=Tryz.prog) (ρ:=d8) dm 2 (λw=>by kernel_rfl) (λw=>Cu (by kernel_rfl)) F_ (λ_=>rfl) (λx v hv=>by
   simp[F_]at hv;rcases hv with rfl|rfl <;> rfl) Rv Apj 107 #[] b o cap l.toArray w (λargs w=>(Go.SL.Dd Tryz.func107 (by kernel_rfl) (by kernel_rfl):El Tryz.prog 107) args w) (λm os dk hs x y=>Api hC x y _) hH hbw (by simpa using hl)
 rw[au];refine Calls.mono hsort λe w' ⟨he,d',n,os,hp,hs,hw⟩=>?_;subst he hw;have hd':d'.toList=Hc l:=by
  have hsz:d'.size=l.length:=by simpa using hp.1
  refine X4 (Agj (by rw[hsz];simpa using hs)) (S6 l) ?_;have:=hp.2.2;have e1:d'.extract 0 l.toArray.size=d':=by
   have:l.toArray.size=d'.size:=by simp[hsz]
   rw[this];exact Array.extract_size
  have e2:l.toArray.extract 0 l.toArray.size=l.toArray:=Array.extract_size;rw[e1,e2]at this;exact this.trans (Mm l).symm
 have hsz:d'.size=l.length:=by simpa using hp.1
 have hI:=hS.inv;have hfl:(flatK F_ 2 d').size=l.length*2:=by rw[size_flatK,hsz]
 have hW:Go.SL.Inv ⟨w,S,Dx [.slice (some ⟨b,o,none⟩) l.length cap] [.sl 88 2 (l.map q88)],[.slice (some ⟨b,o,none⟩) l.length cap],[]⟩ S (putRow id (Go.Sort.ahead w n) b o (flatK F_ 2 d')) [.slice (some ⟨b,o,none⟩) l.length cap] [.sl 88 2 ((Hc l).map q88)]:=by
  rw[au]at hI;refine hI.put (i:=0) (r':=.sl 88 2 ((Hc l).map q88)) (b:=b) rfl rfl rfl (λk hk=>by simp[Res.foot]at hk;exact hk.symm) (λk hk=>Aj7 hk) (by simp[Go.Sort.ahead]) rfl ⟨rfl,λ_=>Nat.le_add_right _ _⟩ rfl
   (.inr (.inr ⟨b,o,cap,putCells id o (flatK F_ 2 d') cur,by rw[au,hlen],Blk.of (An2 hb),by rw[au,hlen];exact hcap,hmax,by simpa[putCells]using hfit,λrow hr=>?_,λi row hi j d hj=>?_⟩))
  ·obtain⟨p,_,rfl⟩:=ao.1 hr;rfl
  ·rw[aA]at hi;obtain⟨p,hpi,rfl⟩:=Dp hi;have hil:i<l.length:=by rw[←hlen];exact(aa.1 hpi).1
   have hjl:j<2:=by have:=(aa.1 hj).1;exact this
   have hdi:d'[i]! = p:=by
    rw[←hd',bV]at hpi;rw[getElem!_def,hpi]
   refine⟨(F_ p)[j]!,?_,?_⟩
   ·rw[bi,Abt _ (by rw[hfl];omega) (by rw[hfl];omega),Ate d' i j (by omega) hjl,hdi]
   ·match j,hjl with
    |0,_=>cases hj;exact .v _ rfl
    |1,_=>cases hj;exact .v _ rfl
 refine⟨_,S,[.slice (some ⟨b,o,none⟩) l.length cap],rfl,.tup rfl (λj x a hx=>by simp at hx),?_⟩;have hsub:∀k,k<(putRow id (Go.Sort.ahead w n) b o (flatK F_ 2 d')).heap.size->(grow (putRow id (Go.Sort.ahead w n) b o (flatK F_ 2 d')) os).heap[k]? = (putRow id (Go.Sort.ahead w n) b o (flatK F_ 2 d')).heap[k]?:=λk hk=>by
  show ((putRow id (Go.Sort.ahead w n) b o (flatK F_ 2 d')).heap++os)[k]? = _;exact cL hk
 exact hW.grow (λ_ h=>h) (λ_ h=>.inl h) hsub (by show _<=((putRow id (Go.Sort.ahead w n) b o (flatK F_ 2 d')).heap++os).size;rw[Array.size_append];exact Nat.le_add_right _ _) rfl ⟨rfl,λ_=>ag _⟩ rfl
end Go.Proofs.YtiaaaghdkhnonaaGreat
