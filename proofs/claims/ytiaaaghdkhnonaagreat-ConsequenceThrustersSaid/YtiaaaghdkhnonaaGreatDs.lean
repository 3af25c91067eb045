import Derived.Test.YtiaaaghdkhnonaaGreatIt
import Derived.Test.YtiaaaghdkhnonaaGreatSg
import Derived.Test.YtiaaaghdkhnonaaGreatDx
set_option linter.unusedVariables false
set_option linter.unusedSimpArgs false
namespace Go.Proofs.YtiaaaghdkhnonaaGreat
open Go Go.RowKit Go.SL Go.Sort
def Rm (a b:Ab):Int:=if Lib.compareInt a.Kind b.Kind=0 then Lib.compareInt a.Number b.Number else Lib.compareInt a.Kind b.Kind
theorem Azk (x y:Int):(Lib.compareInt x y = -1/\x<y)\/(Lib.compareInt x y=0/\x=y)\/(Lib.compareInt x y=1/\y<x):=by
 unfold Lib.compareInt
 split
 ·exact .inl ⟨rfl,by assumption⟩
 ·split
  ·exact .inr (.inr ⟨rfl,by omega⟩)
  ·exact .inr (.inl ⟨rfl,by omega⟩)
theorem P3 (a b:Ab):ltOf Rm a b=Dh a b:=by
 rw [bP,Ga]
 unfold ltOf Rm
 rw [dE]
 rcases Azk a.Kind b.Kind with⟨h,g⟩ | ⟨h,g⟩ | ⟨h,g⟩
 ·rw [h,if_neg (by decide)]
  exact⟨λ _=>.inl g,λ _=>by decide⟩
 ·rw [h,if_pos rfl]
  rcases Azk a.Number b.Number with⟨k,q⟩ | ⟨k,q⟩ | ⟨k,q⟩
  ·rw [k];exact⟨λ _=>.inr ⟨g,q⟩,λ _=>by decide⟩
  ·rw [k];exact⟨λ e=>absurd e (by decide),λ e=>by omega⟩
  ·rw [k];exact⟨λ e=>absurd e (by decide),λ e=>by omega⟩
 ·rw [h,if_neg (by decide)]
  exact⟨λ e=>absurd e (by decide),λ e=>by omega⟩
theorem vS {a b:Ab} (h:Dh a b=true):Dh b a=false:=by
 cases g:Dh b a with
 | false=>rfl
 | true=>rw [Ga] at h g;omega
theorem Am4:SWO (ltOf Rm) where
 irrefl x:=by rw [P3];exact K5 x
 trans x y z h1 h2:=by rw [P3] at *;exact Ki h1 h2
 ntrans x y z h1 h2:=by
  rw [P3] at *
  cases g:Dh x z with
  | false=>rfl
  | true=>
   exfalso
   have n1:¬(x.Kind<y.Kind\/x.Kind=y.Kind/\x.Number<y.Number):=λ q=>by rw [Ga.2 q] at h1;cases h1
   have n2:¬(y.Kind<z.Kind\/y.Kind=z.Kind/\y.Number<z.Number):=λ q=>by rw [Ga.2 q] at h2;cases h2
   rw [Ga] at g
   omega
def Wy (p:Ab):List Ab->List Ab
 | []=>[p]
 | q::l=>bif Dh q p then q::Wy p l else p::q::l
def Kd (l:List Ab):List Ab:=l.foldr Wy []
theorem Td (p:Ab):∀ l:List Ab,(Wy p l).Perm (p::l)
 | []=>.refl _
 | q::l=>by
  unfold Wy
  cases Dh q p with
  | true=>exact ((Td p l).cons q).trans (.swap p q l)
  | false=>exact .refl _
theorem Mo:∀ l:List Ab,(Kd l).Perm l
 | []=>.refl _
 | p::l=>(Td p (Kd l)).trans ((Mo l).cons p)
abbrev Ui (l:List Ab):Prop:=l.Pairwise λ a b=>Dh b a=false
theorem Abi (p:Ab):∀ {l:List Ab},Ui l->Ui (Wy p l)
 | [],_=>by simp [Wy,Ui]
 | q::l,h=>by
  obtain⟨hq,hl⟩:=aP.1 h
  unfold Wy
  cases h1:Dh q p with
  | true=>
   refine aP.2 ⟨λ x hx=>?_,Abi p hl⟩
   rcases ag.1 ((Td p l).mem_iff.1 hx) with e | e
   ·rw [e];exact vS h1
   ·exact hq x e
  | false=>
   refine aP.2 ⟨λ x hx=>?_,h⟩
   rcases ag.1 hx with e | e
   ·rw [e];exact h1
   ·have:=hq x e
    rw [←P3] at this h1 ⊢
    exact Am4.ntrans _ _ _ this h1
theorem Sp:∀ l:List Ab,Ui (Kd l)
 | []=>bQ
 | p::l=>Abi p (Sp l)
theorem Xy {l m:List Ab} (h1:Ui l) (h2:Ui m) (hp:l.Perm m):l=m:=
 List.Perm.eq_of_pairwise (λ a b _ _ g1 g2=>by
  rcases Ws a b with h | h | h
  ·rw [h] at g2;cases g2
  ·exact h
  ·rw [h] at g1;cases g1) h1 h2 hp
theorem Ae2 {l:List Ab} (h:l.Nodup):Kd l=Ip l:=by
 refine Xy (Sp l) ((Hc l).imp λ h=>vS h) ?_
 refine (Mo l).trans ?_
 refine (List.perm_ext_iff_of_nodup h ?_).2 λ x=>(H5 l x).symm
 exact (Hc l).imp λ h e=>by rw [e,K5] at h;cases h
theorem Ae1 {d:Array Ab} (h:SortedIn (ltOf Rm) 0 d.size d):Ui d.toList:=by
 unfold Ui
 rw [bS]
 intro i j hi hj hij
 have:=h i j (bH _) hij (by simpa using hj)
 rw [P3] at this
 simp only [cy] at hi hj
 rw [getElem!_pos d i hi,getElem!_pos d j hj] at this
 simpa using this
def Gd (p:Ab):List Value:=[.int .i64 p.Kind,.int .i64 p.Number]
abbrev Aak:Prop:=∀ x y:Ab,CallOk Tryz.prog 107 [.agg (d88 x),.agg (d88 y)] [] (.d (I (Rm x y))) []
theorem gl0 (S:Nat->Prop) (w:World):Pe S w:=⟨λ g c h=>by simp [globTab] at h,λ g h=>by simp [globIf] at h⟩
theorem Z5 (S:Nat->Prop) (w:World) (ρ:List Value) (x:Ab):RdA S w ρ (.agg (Gd x).toArray) (.agg (d88 x)):=
 .agg ⟨.p (.v _ rfl),.p (.v _ rfl),trivial⟩
theorem Am3 (hC:Aak) (x y:Ab) (W:World) :
  Calls Tryz.prog 107 #[.agg (Gd x).toArray,.agg (Gd y).toArray] W λ e w'=>e = .returned (.int .i64 (Rm x y))/\∃ q os',w'=grow (W.drewN q) os':=by
 have hst:Go.SL.Start (λ b=>b<W.heap.size) W [] []:=⟨rfl,λ i r h hr=>by simp at hr,λ i j r r' h h' b _ hr=>by simp at hr,λ i r h b hr=>by simp at hr,λ b hb=>hb,gl0 _ _⟩
 refine Calls.mono (hC x y (λ b=>b<W.heap.size) W [] [.agg (Gd x).toArray,.agg (Gd y).toArray] hst ⟨Z5 _ _ _ x,Z5 _ _ _ y,trivial⟩) λ e w' hp=>?_
 obtain⟨v,S',ρ',rfl,hr,hI⟩:=hp
 refine⟨by rw [hr.exact_inv],w'.drawn-W.drawn,w'.heap.extract W.heap.size w'.heap.size,?_⟩
 obtain⟨heap',tape',drawn',os',output'⟩:=w'
 have e1:os'=W.os:=hI.os
 have e2:tape'=W.tape:=hI.tape.1
 have e3:output'=W.output:=hI.output
 have e4:W.drawn<=drawn':=hI.tape.2 rfl
 have hs:W.heap.size<=heap'.size:=hI.size
 have hb:∀ k,k<W.heap.size->heap'[k]? = W.heap[k]?:=λ k hk=>hI.frm k hk λ ⟨i,r,h,h1,_⟩=>by simp at h1
 subst e1 e2 e3
 have eh:heap'=W.heap++heap'.extract W.heap.size heap'.size:=by
  apply Array.ext_getElem?
  intro k
  by_cases hk:k<W.heap.size
  ·rw [cP hk];exact hb k hk
  ·rw [Array.getElem?_append_right (by omega),Array.getElem?_extract]
   by_cases hk2:k<heap'.size
   ·rw [if_pos (by omega)];congr 1;omega
   ·rw [if_neg (by omega),Array.getElem?_eq_none (by omega)]
 simp only [grow,World.drewN]
 congr 1
 omega
theorem Alo {w:World} {b o:Nat} {F:Array Value} {cs:Array Value} {t:TypeId} {fr:Nat×Nat} (h:w.heap[b]? = some (.cells cs t fr)):(putRow id w b o F).heap[b]? = some (.cells (putCells id o F cs) t fr):=by
 simp [putRow,mapBlock,Array.getElem?_modify,h,onCells]
theorem Aid {w:World} {b o k:Nat} {F:Array Value} (h:k≠b):(putRow id w b o F).heap[k]? = w.heap[k]?:=by
 simp [putRow,mapBlock,Array.getElem?_modify,Ne.symm h]
theorem Aay {o:Nat} {F cs:Array Value} (j:Nat) (hj:j<F.size) (hf:o+F.size<=cs.size):(putCells id o F cs)[o+j]? = some F[j]!:=by
 unfold putCells
 rw [Array.getElem?_mapIdx,be (by omega),aU,if_pos ⟨by omega,by omega⟩,show o+j-o=j by omega]
 rfl
theorem Arl (d:Array Ab) (i j:Nat) (hi:i<d.size) (hj:j<2):(flatK Gd 2 d)[i*2+j]! = (Gd d[i]!)[j]!:=by
 rw [get_flatK _ _ _ _ (by omega)]
 have e1:(i*2+j) / 2=i:=by omega
 have e2:(i*2+j) % 2=j:=by omega
 rw [e1,e2]
theorem B9:Tryz.prog.follows .mixedOrders=true:=by kernel_rfl
theorem A3p:CallOk Tryz.prog 235 [.d (.p (.s [])),.d (I 0),.d (I 0),.d (.fn (.func 107) [] [])] [] (.tup []) []:=by
 refine D8 53 Tryz.func235 rfl rfl rfl λ C hC=>?_
 exact Vz (bs:=[(false,false)]) B9 (List.range 53) 60 [true,true,false] [] [] [] 0 [] rfl hC trivial ⟨rfl,trivial⟩ (by kernel_rfl) (by kernel_rfl)
theorem A3b:CallOk Tryz.prog 171 [.d (.p (.s [])),.d (I 0),.d (I 0),.d (I 0),.d (.fn (.func 107) [] [])] [] (.tup []) []:=by
 refine D8 148 Tryz.func171 rfl rfl rfl λ C hC=>?_
 exact Im (bs:=[(true,true)]) B9 (List.range 40) 60 [true,true,true] [.call 235 [.d (.p (.s [])),.d (I 0),.d (I 0),.d (.fn (.func 107) [] [])] [] (.tup []) [] []] [] [] 0 [] rfl hC ⟨⟨Go.SL.Dg Tryz.func235 (by kernel_rfl) (by kernel_rfl),A3p⟩,trivial⟩ ⟨rfl,trivial⟩ (by kernel_rfl)
theorem A3h:CallOk Tryz.prog 172 [.d (.p (.v (.int .u64 0)))] [] (.d (I 0)) []:=by
 intro S w ρ vs hS hA
 obtain⟨v0,rfl,r0⟩:∃ v0,vs=[v0]/\RdA S w ρ v0 (.d (.p (.v (.int .u64 0)))):=by
  match vs,hA with
  | [v0],h=>exact⟨v0,rfl,h.1⟩
  | [],h=>exact h.elim
  | _::_::_,h=>exact h.2.elim
 have:=r0.exact_inv
 subst this
 have hl:=Any.bits_Len (SlLaysF0.n15.bits (P:=Tryz.prog) (ρ:=db) {dq with}) (0:Int) w (by omega) (by omega)
 refine Calls.mono hl λ e w' ⟨he,hw⟩=>?_
 subst he hw
 exact⟨_,S,ρ,rfl,.d (.p (.v _ rfl)),hS.inv⟩
theorem Att:CallOk Tryz.prog 106 [.d (.p (.s [])),.d (.fn (.func 107) [] [])] [] (.tup []) []:=by
 refine D8 14 Tryz.func106 rfl rfl rfl λ C hC=>?_
 exact Vz (bs:=[]) B9 (List.range 14) 40 [] [.call 172 [.d (.p (.v (.int .u64 0)))] [] (.d (I 0)) [] [],.call 171 [.d (.p (.s [])),.d (I 0),.d (I 0),.d (I 0),.d (.fn (.func 107) [] [])] [] (.tup []) [] []] [] [] 0 [] rfl hC ⟨⟨Go.SL.Dg Tryz.func172 (by kernel_rfl) (by kernel_rfl),A3h⟩,⟨Go.SL.Dg Tryz.func171 (by kernel_rfl) (by kernel_rfl),A3b⟩,trivial⟩ trivial (by kernel_rfl) (by kernel_rfl)
theorem A2j (hC:Aak) (l:List Ab) (hl:l.length<4611686018427387904) :
  CallOk Tryz.prog 106 [.d (.os 0),.d (.fn (.func 107) [] [])] [.sl 88 2 (l.map q88)] (.tup []) [.sl 88 2 ((Kd l).map q88)]:=by
 intro S w ρ vs hS hA
 obtain⟨v0,v1,rfl,r0,r1⟩:∃ v0 v1,vs=[v0,v1]/\RdA S w ρ v0 (.d (.os 0))/\RdA S w ρ v1 (.d (.fn (.func 107) [] [])):=by
  match vs,hA with
  | [v0,v1],h=>exact⟨v0,v1,rfl,h.1,h.2.1⟩
  | [],h=>exact h.elim
  | [_],h=>exact h.2.elim
  | _::_::_::_,h=>exact h.2.2.elim
 have e1:v1 = .func (.func 107) #[] #[]:=by
  obtain⟨xs,cs,h1,h2,h3⟩:=r1.d_inv.fn_inv
  match xs,cs,h2,h3 with
  | [],[],_,_=>exact h1
  | _::_,_,h,_=>exact h.elim
  | [],_::_,_,h=>exact h.elim
 subst e1
 have h0:=r0.d_inv.os_inv
 have h1:=r0.d_inv.one
 obtain⟨h,rfl⟩:∃ h,ρ=[h]:=by
  match ρ,hS.len with
  | [h],_=>exact⟨h,rfl⟩
 have hh:h=v0:=by simpa using h0
 subst hh
 have hlen:(Kd l).length=l.length:=(Mo l).length_eq
 rcases (hS.ok 0 _ h rfl rfl).live h1 with⟨hv,hnil⟩ | ⟨b,o,cap,cur,rfl,hb,hcap,hmax,hfit,hrow,hcell⟩
 ·have hl0:l=[]:=by simpa using hnil
  subst hl0
  subst hv
  have hst:Go.SL.Start S w [] []:=⟨rfl,λ i r h hr=>by simp at hr,λ i j r r' h h' b _ hr=>by simp at hr,λ i r h b hr=>by simp at hr,hS.sup,gl0 _ _⟩
  refine Calls.mono (Att S w [] [.slice none 0 0,.func (.func 107) #[] #[]] hst ⟨.d (.p (.s none default 0 1 [] (λ _ _=>.int .i64 0) (af _) (by decide) (by decide) (by simp) (by simp) (by simp))),.d (.fn (xs:=[]) (cs:=[]) rfl rfl (by simp) (by simp)),trivial⟩) λ e w' hp=>?_
  obtain⟨v,S',ρ',he,hr,hI⟩:=hp
  have hfr:∀ k,k<w.heap.size->w'.heap[k]? = w.heap[k]?:=λ k hk=>hI.frm k hk λ ⟨i,r,h,g1,_⟩=>by simp at g1
  refine⟨v,S,_,he,?_,hS.inv.grow (λ _ h=>h) (λ _ h=>.inl h) hfr hI.size hI.os hI.tape hI.output⟩
  obtain⟨xs,rfl,hl⟩:∃ xs:List Value,v = .tuple xs.toArray/\xs.length=0:=by
   cases hr with
   | tup hl h=>exact⟨_,rfl,hl⟩
  have:xs=[]:=List.length_eq_zero_iff.1 hl
  subst this
  exact .tup rfl (λ j x a hx=>by simp at hx)
 have hb:=hb.zero rfl
 rw [au] at hcap
 have hbw:b<w.heap.size:=(aO.1 hb).1
 have hcurr:∀ (i:Nat) (p:Ab),l[i]? = some p->cur[o+i*2+0]? = some (.int .i64 p.Kind)/\cur[o+i*2+1]? = some (.int .i64 p.Number):=λ i p hp=>by
  have hr:(l.map q88)[i]? = some (q88 p):=by rw [az,hp];rfl
  obtain⟨x,hx,hd⟩:=hcell i _ hr 0 _ rfl
  obtain⟨y,hy,hd'⟩:=hcell i _ hr 1 _ rfl
  rw [hd.v_form] at hx;rw [hd'.v_form] at hy
  exact⟨hx,hy⟩
 have hH:HoldsK Gd 2 w b o l.toArray:=λ j hj=>by
  rw [size_flatK] at hj
  simp only [bY] at hj
  have hi:j / 2<l.length:=by omega
  have hp:=ai hi
  obtain⟨c0,c1⟩:=hcurr _ _ hp
  have hg:(flatK Gd 2 l.toArray)[j]! = (Gd l[j / 2])[j % 2]!:=by
   rw [get_flatK _ _ _ _ (by simpa using hj)]
   congr 2
   simp [hi]
  refine⟨?_,by simp [World.frozen?,hb]⟩
  rw [hg]
  simp only [World.cell?,hb]
  rcases Nat.mod_two_eq_zero_or_one j with e | e
  ·rw [e,show o+j=o+j / 2*2+0 by omega];simpa [Gd] using c0
  ·rw [e,show o+j=o+j / 2*2+1 by omega];simpa [Gd] using c1
 have hsort:=AnyQ.slices_SortFunc (P:=Tryz.prog) (ρ:=db) dq 2 (λ w=>by kernel_rfl) (λ w=>Co (by kernel_rfl)) Gd (λ _=>rfl) (λ x v hv=>by
   simp [Gd] at hv;rcases hv with rfl | rfl <;> rfl) Rm Am4 107 #[] b o cap l.toArray w (λ args w=>(Go.SL.Dg Tryz.func107 (by kernel_rfl) (by kernel_rfl):Em Tryz.prog 107) args w) (λ m os dk hs x y=>Am3 hC x y _) hH hbw (by simpa using hl)
 rw [au]
 refine Calls.mono hsort λ e w' ⟨he,d',n,os,hp,hs,hw⟩=>?_
 subst he hw
 have hd':d'.toList=Kd l:=by
  have hsz:d'.size=l.length:=by simpa using hp.1
  refine Xy (Ae1 (by rw [hsz];simpa using hs)) (Sp l) ?_
  have:=hp.2.2
  have e1:d'.extract 0 l.toArray.size=d':=by
   have:l.toArray.size=d'.size:=by simp [hsz]
   rw [this];exact Array.extract_size
  have e2:l.toArray.extract 0 l.toArray.size=l.toArray:=Array.extract_size
  rw [e1,e2] at this
  exact this.trans (Mo l).symm
 have hsz:d'.size=l.length:=by simpa using hp.1
 have hI:=hS.inv
 have hfl:(flatK Gd 2 d').size=l.length*2:=by rw [size_flatK,hsz]
 have hW:Go.SL.Inv ⟨w,S,Dz [.slice (some ⟨b,o,none⟩) l.length cap] [.sl 88 2 (l.map q88)],[.slice (some ⟨b,o,none⟩) l.length cap],[]⟩ S (putRow id (Go.Sort.ahead w n) b o (flatK Gd 2 d')) [.slice (some ⟨b,o,none⟩) l.length cap] [.sl 88 2 ((Kd l).map q88)]:=by
  rw [au] at hI
  refine hI.put (i:=0) (r':=.sl 88 2 ((Kd l).map q88)) (b:=b) rfl rfl rfl (λ k hk=>by simp [Res.foot] at hk;exact hk.symm) (λ k hk=>Aid hk) (by simp [Go.Sort.ahead]) rfl ⟨rfl,λ _=>Nat.le_add_right _ _⟩ rfl
   (.inr (.inr ⟨b,o,cap,putCells id o (flatK Gd 2 d') cur,by rw [au,hlen],Blk.of (Alo hb),by rw [au,hlen];exact hcap,hmax,by simpa [putCells] using hfit,λ row hr=>?_,λ i row hi j d hj=>?_⟩))
  ·obtain⟨p,_,rfl⟩:=ao.1 hr;rfl
  ·rw [az] at hi
   obtain⟨p,hpi,rfl⟩:=Dl hi
   have hil:i<l.length:=by rw [←hlen];exact (aa.1 hpi).1
   have hjl:j<2:=by have:=(aa.1 hj).1;exact this
   have hdi:d'[i]! = p:=by
    rw [←hd',bZ] at hpi
    rw [getElem!_def,hpi]
   refine⟨(Gd p)[j]!,?_,?_⟩
   ·rw [bj,Aay _ (by rw [hfl];omega) (by rw [hfl];omega),Arl d' i j (by omega) hjl,hdi]
   ·match j,hjl with
    | 0,_=>cases hj;exact .v _ rfl
    | 1,_=>cases hj;exact .v _ rfl
 refine⟨_,S,[.slice (some ⟨b,o,none⟩) l.length cap],rfl,.tup rfl (λ j x a hx=>by simp at hx),?_⟩
 have hsub:∀ k,k<(putRow id (Go.Sort.ahead w n) b o (flatK Gd 2 d')).heap.size->(grow (putRow id (Go.Sort.ahead w n) b o (flatK Gd 2 d')) os).heap[k]? = (putRow id (Go.Sort.ahead w n) b o (flatK Gd 2 d')).heap[k]?:=λ k hk=>by
  show ((putRow id (Go.Sort.ahead w n) b o (flatK Gd 2 d')).heap++os)[k]? = _
  exact cP hk
 exact hW.grow (λ _ h=>h) (λ _ h=>.inl h) hsub (by show _<=((putRow id (Go.Sort.ahead w n) b o (flatK Gd 2 d')).heap++os).size;rw [Array.size_append];exact Nat.le_add_right _ _) rfl ⟨rfl,λ _=>af _⟩ rfl
end Go.Proofs.YtiaaaghdkhnonaaGreat
