import Derived.Lib.ItoaNum
import Derived.Lib.Join
import Derived.Test.YtedojeimigneaaaGreatDoorIt
import Derived.Test.YtedojeimigneaaaGreatDoorSlEX
set_option linter.unusedVariables false
namespace Go.Proofs.YtedojeimigneaaaGreatDoor
open Go Go.RowKit Go.Proofs Go.Sort Go.SL
variable{ρ:eA}{S:Nat->Prop}{v:Value}{w:World}
theorem At9{α:Type}{f:α->Value}{l:List α}(hS:∀b,S b->b<w.heap.size)(h:RdP S w v (.s (l.map λx=>[Pd.v (f x)]))) :
  ∃ao cap,v=.slice ao l.length cap/\l.length<=cap/\cap<=maxLen/\∀(i:Nat) x,l[i]?=some x->∃ab o,ao=some ⟨ab,o,none⟩/\ab<w.heap.size/\w.cell? ⟨ab,o+i,none⟩=some (f x):=by
 generalize hR:(l.map λx=>[Pd.v (f x)])=R at h;cases h with
 | s a ad cap z _ xs hc hm hz hsz2 hx hr=>
  have hl:R.length=l.length:=by rw[←hR];simp
  rw[hl]at hc ⊢;refine⟨a,cap,rfl,hc,hm,λi x hi=>?_⟩;have at1:∀(i:Nat) x,l[i]?=some x->R[i]?=some [Pd.v (f x)]:=λi x hi=>by rw[←hR,au,hi];rfl
  have hz2:z=1:=by have:=hsz2 _ (ag (at1 i x hi));simp at this;omega
  subst hz2;obtain⟨x0,h0⟩:∃x,l[0]?=some x:=⟨_,ak (by have:=(ac.1 hi).1;omega)⟩;obtain⟨ha,hS0,hcell⟩:=hx 0 _ (at1 0 x0 h0) 0 _ rfl;rw[Nat.zero_mul,aJ,M9]at hcell;have spot:∃b o,ad=⟨b,o,none⟩:=by
   obtain⟨b,o,sp⟩:=ad;cases sp with
   |none=>exact⟨b,o,rfl⟩
   |some q=>
    exfalso;unfold World.cell? at hcell;split at hcell
    .simp at hcell
    .cases hcell
  obtain⟨b,o,rfl⟩:=spot;refine⟨b,o,ha,hS _ hS0,?_⟩;obtain⟨_,_,hcj⟩:=hx i _ (at1 i x hi) 0 _ rfl;have hv:=(hr i _ (at1 i x hi) 0 _ rfl).v_form;rw[Cn,hv]at hcj;rw[Nat.mul_one,bo]at hcj;exact hcj
theorem rdS{x:List (List Pd)}(h:Rd S w ρ v (.p (.s x))):RdP S w v (.s x):=by cases h;assumption
theorem A5a{w':World}{R:List Res}(hS:SL.Start S w ρ R)(hb:Below w.heap.size w w')(h1:v.oneCell'=true){e:Ending}(he:e=.returned v) :
  ∃v' S' ρ',e=.returned v'/\RdA S' w' ρ' v' (.d (.p (.v v)))/\Inv ⟨w,S,Ei ρ R,ρ,[]⟩ S' w' ρ' R:=
 ⟨v,S,ρ,he,.d (.p (.v _ h1)),hS.inv.grow (λ_ h=>h) (λb hb=>.inl hb) hb.block hb.size hb.os ⟨hb.tape,λe=>absurd (show false=true from e) (by decide)⟩ hb.output⟩
theorem An8(i:Nat)(h:i<10):CallOk Tryz.prog 208 [.d (.p (.v (.int .i64 (i:Int))))] [] (.d (.p (.v (.string ⟨#[UInt8.ofNat (48+i)]⟩)))) []:=by
 intro S w ρ vs hS hA;obtain⟨v0,rfl,r0⟩:∃v0,vs=[v0]/\RdA S w ρ v0 (.d (.p (.v (.int .i64 (i:Int))))):=by
  match vs,hA with
  | [v0],h=>exact⟨v0,rfl,h.1⟩
  | [],h=>exact h.elim
  |_::_::_,h=>exact h.2.elim
 have e0:=r0.exact_inv;subst e0;refine(Tryz.strconv_Itoa_small i (by omega) w).mono λe w' hp=>?_;obtain⟨he,rfl⟩:=hp;have hd:Lib.decDigits i=[UInt8.ofNat (48+i)]:=by rw[Lib.decDigits,dif_pos h]
 rw[hd]at he;exact⟨_,S,ρ,he,.d (.p (.v _ rfl)),hS.inv⟩
theorem An7(l:List ByteArray)(s:ByteArray)(hne:l≠[])(hN:l.length<=1000000)(hlen:(Lib.join (l.map (·.data.toList)) s.data.toList).length<=140737488355328) :
  CallOk Tryz.prog 209 [.d (.p (.s (l.map λx=>[.v (.string x)]))),.d (.p (.v (.string s)))] [] (.d (.p (.v (.string ⟨(Lib.join (l.map (·.data.toList)) s.data.toList).toArray⟩)))) []:=by
 intro S w ρ vs hS hA;obtain⟨v0,v1,rfl,r0,r1⟩:∃v0 v1,vs=[v0,v1]/\RdA S w ρ v0 (.d (.p (.s (l.map λx=>[.v (.string x)]))))/\RdA S w ρ v1 (.d (.p (.v (.string s)))):=by
  match vs,hA with
  | [v0,v1],h=>exact⟨v0,v1,rfl,h.1,h.2.1⟩
  | [],h=>exact h.elim
  | [_],h=>exact h.2.elim
  |_::_::_::_,h=>exact h.2.2.elim
 have e1:=r1.exact_inv;subst e1;obtain⟨ao,cap,rfl,hcap,_,hcells⟩:=At9 (f:=Value.string) hS.sup (rdS r0.d_inv);obtain⟨x0,h0⟩:∃x,l[0]?=some x:=by
  cases l with
  |nil=>exact absurd rfl hne
  |cons a r=>exact⟨a,rfl⟩
 obtain⟨ab,o,rfl,hab,_⟩:=hcells 0 x0 h0;refine(Tryz.strings_Join ab o cap l s w (λj x hj=>?_) hab (by omega) hcap hlen).mono λe w' hp=>A5a hS hp.2 rfl hp.1;obtain⟨ab',o',e,_,hcl⟩:=hcells j x hj;cases e;exact hcl
end Go.Proofs.YtedojeimigneaaaGreatDoor
