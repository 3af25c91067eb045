import Derived.Test.YtaplakgdkkmpfaaGreatDoorIt
import Derived.Test.YtaplakgdkkmpfaaGreatDoorSx
import Derived.Test.YtaplakgdkkmpfaaGreatDoorSlV
namespace Go.Proofs.YtaplakgdkkmpfaaGreatDoor
open Go Go.RowKit Go.Proofs Go.Sort Go.SL
theorem Y3 {α:Type} {S:Nat->Prop} {w:World} {v:Value} {f:α->Value} {l:List α} (hS:∀ b,S b->b<w.heap.size) (h:RdP S w v (.s (l.map λ x=>[Pd.v (f x)]))) :
  ∃ ao cap,v = .slice ao l.length cap/\l.length<=cap/\cap<=maxLen/\∀ (i:Nat) x,l[i]? = some x->∃ ab o,ao=some ⟨ab,o,none⟩/\ab<w.heap.size/\w.cell? ⟨ab,o+i,none⟩=some (f x):=by
 generalize hR:(l.map λ x=>[Pd.v (f x)])=R at h
 cases h with
 | s a ad cap z _ xs hc hm hz hsz2 hx hr=>
  have hl:R.length=l.length:=by rw [←hR];simp
  rw [hl] at hc ⊢
  refine⟨a,cap,rfl,hc,hm,λ i x hi=>?_⟩
  have at1:∀ (i:Nat) x,l[i]? = some x->R[i]? = some [Pd.v (f x)]:=λ i x hi=>by rw [←hR,al,hi];rfl
  have hz2:z=1:=by
   have:=hsz2 _ (aq (at1 i x hi))
   simp at this
   omega
  subst hz2
  obtain⟨x0,h0⟩:∃ x,l[0]? = some x:=⟨_,am (by have:=(aa.1 hi).1;omega)⟩
  obtain⟨ha,hS0,hcell⟩:=hx 0 _ (at1 0 x0 h0) 0 _ rfl
  rw [Nat.zero_mul,aQ,Ej] at hcell
  have spot:∃ b o,ad=⟨b,o,none⟩:=by
   obtain⟨b,o,sp⟩:=ad
   cases sp with
   | none=>exact⟨b,o,rfl⟩
   | some q=>
    exfalso
    unfold World.cell? at hcell
    split at hcell
    ·simp at hcell
    ·cases hcell
  obtain⟨b,o,rfl⟩:=spot
  refine⟨b,o,ha,hS _ hS0,?_⟩
  obtain⟨_,_,hcj⟩:=hx i _ (at1 i x hi) 0 _ rfl
  have hv:=(hr i _ (at1 i x hi) 0 _ rfl).v_form
  rw [A3,hv] at hcj
  rw [Nat.mul_one,bf] at hcj
  exact hcj
theorem rdS {S:Nat->Prop} {w:World} {ρ:List Value} {v:Value} {x:List (List Pd)} (h:Rd S w ρ v (.p (.s x))):RdP S w v (.s x):=by cases h;assumption
theorem P6 {S:Nat->Prop} {w:World} {g:Nat} {zs:List Int} {k:IntKind} (h:Co S w ⟨g,0,none⟩ (zs.map λ z=>Pd.v (.int k z))) {vs:Array Value} {t:TypeId} {fr:Nat×Nat} (h3:w.heap[g]? = some (.cells vs t fr)) (h4:vs.size=zs.length) :
  vs=(zs.map λ z=>Value.int k z).toArray:=by
 apply Array.ext'
 apply bp
 intro j
 by_cases hj:j<zs.length
 ·obtain⟨z,hz⟩:∃ z,zs[j]? = some z:=⟨_,am hj⟩
  obtain⟨x,_,hx,hr⟩:=h j (.v (.int k z)) (by rw [al,hz];rfl)
  have:=hr.v_form
  subst this
  rw [A3,aQ] at hx
  have hc:w.cell? ⟨g,j,none⟩=vs[j]?:=by simp [World.cell?,h3]
  rw [hc] at hx
  rw [bD,hx]
  simp [hz]
 ·rw [bM (by simp;omega),bM (by simp;omega)]
theorem N9 : Tryz.prog.globalNamed "internal/strconv.uint64pow10" = some 3 := by kernel_rfl
theorem qK {S : Nat -> Prop} {w : World} (h : Dn S w) : Lib.TabIs Tryz.prog w "internal/strconv.uint64pow10" .u64 Lib.pow10Tab := by
 obtain⟨h1,_,vs,t,fr,h3,h4⟩:=h.1 3 (Lib.pow10Tab.map λ z=>Pd.v (.int .u64 z)) rfl
 have e:=P6 h1 h3 (by rw [h4,aL])
 unfold Lib.TabIs World.var?
 rw [N9]
 simp [h3,e]
theorem Nh (w:World) (k:Nat):(w.drewN k).heap=w.heap:=rfl
theorem Wp {S:Nat->Prop} {w w':World} {ρ:List Value} {R:List Res} {v:Value} (hS:SL.Start S w ρ R) (hb:Below w.heap.size w w') (h1:v.oneCell'=true) {e:Ending} (he:e = .returned v) :
  ∃ v' S' ρ',e = .returned v'/\RdA S' w' ρ' v' (.d (.p (.v v)))/\Inv ⟨w,S,Gw ρ R,ρ,[]⟩ S' w' ρ' R:=
 ⟨v,S,ρ,he,.d (.p (.v _ h1)),hS.inv.grow (λ _ h=>h) (λ b hb=>.inl hb) hb.block hb.size hb.os hb.tape hb.output⟩
theorem vV (x:Int) (r:ByteArray) (h:M6 x=some r):CallOk Tryz.prog 41 [.d (I x)] [] (.d (.p (.v (.string r)))) []:=by
 intro S w ρ vs hS hA
 obtain⟨v0,rfl,r0⟩:∃ v0,vs=[v0]/\RdA S w ρ v0 (.d (I x)):=by
  match vs,hA with
  | [v0],h=>exact⟨v0,rfl,h.1⟩
  | [],h=>exact h.elim
  | _::_::_,h=>exact h.2.elim
 have e0:=r0.exact_inv
 subst e0
 unfold M6 at h
 cases hc:decide (-9223372036854775808<=x)&&decide (x<=9223372036854775807) with
 | false=>rw [hc] at h;cases h
 | true=>
  rw [hc] at h
  simp only [af,cR] at hc
  have h:=aP h
  subst h
  refine (Tryz.strconv_Itoa x hc.1 hc.2 w (qK hS.gl)).mono λ e w' hp=>?_
  obtain⟨he,k,os,rfl⟩:=hp
  have hg:w.grownBy (Sort.grow (w.drewN k) os) none:=⟨rfl,rfl,rfl,by simp [Sort.grow,Nh],λ j hj _=>by
   simp only [Sort.grow,Nh]
   rw [Array.getElem?_append_left hj]⟩
  exact Wp hS ((Below.refl _ w).grown hg (ae _) (λ j hj=>by cases hj)) rfl he
theorem vU (l:List ByteArray) (s r:ByteArray) (h:Pq l s=some r):CallOk Tryz.prog 42 [.d (DS pS l),.d (.p (.v (.string s)))] [] (.d (.p (.v (.string r)))) []:=by
 intro S w ρ vs hS hA
 obtain⟨v0,v1,rfl,r0,r1⟩:∃ v0 v1,vs=[v0,v1]/\RdA S w ρ v0 (.d (DS pS l))/\RdA S w ρ v1 (.d (.p (.v (.string s)))):=by
  match vs,hA with
  | [v0,v1],h=>exact⟨v0,v1,rfl,h.1,h.2.1⟩
  | [],h=>exact h.elim
  | [_],h=>exact h.2.elim
  | _::_::_::_,h=>exact h.2.2.elim
 have e1:=r1.exact_inv
 subst e1
 unfold Pq at h
 cases hc:(!l.isEmpty&&decide (l.length<=1000000))&&decide ((M5 l s).length<=140737488355328) with
 | false=>rw [hc] at h;cases h
 | true=>
  rw [hc] at h
  simp only [af,cR,br] at hc
  obtain⟨⟨hne,hN⟩,hlen⟩:=hc
  have h:=aP h
  subst h
  obtain⟨ao,cap,rfl,hcap,_,hcells⟩:=Y3 (f:=Value.string) hS.sup (rdS r0.d_inv)
  obtain⟨x0,h0⟩:∃ x,l[0]? = some x:=by
   cases l with
   | nil=>cases hne
   | cons a r=>exact⟨a,rfl⟩
  obtain⟨ab,o,rfl,hab,_⟩:=hcells 0 x0 h0
  refine (Tryz.strings_Join ab o cap l s w (λ j x hj=>?_) hab (by omega) hcap hlen).mono λ e w' hp=>Wp hS hp.2 rfl hp.1
  obtain⟨ab',o',e,_,hcl⟩:=hcells j x hj
  cases e
  exact hcl
end Go.Proofs.YtaplakgdkkmpfaaGreatDoor
