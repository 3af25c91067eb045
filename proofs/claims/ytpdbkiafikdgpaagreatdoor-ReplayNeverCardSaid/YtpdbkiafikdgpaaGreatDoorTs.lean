import Derived.Test.YtpdbkiafikdgpaaGreatDoorTr
import Derived.Test.YtpdbkiafikdgpaaGreatDoorBt
import Derived.Test.YtpdbkiafikdgpaaGreatDoorTy
namespace Go.Proofs.YtpdbkiafikdgpaaGreatDoor
open Go Go.RowKit Go.SL
theorem Ads {S:Nat->Prop} {w:World} {g:Nat} {zs:List Int} {k:IntKind} (h:Dw S w ⟨g,0,none⟩ (zs.map λ z=>Pd.v (.int k z))) {vs:Array Value} {t:TypeId} {fr:Nat×Nat} (h3:w.heap[g]? = some (.cells vs t fr)) (h4:vs.size=zs.length) :
  vs=(zs.map λ z=>Value.int k z).toArray:=by
 apply ch
 apply bJ
 intro j
 by_cases hj:j<zs.length
 ·obtain⟨z,hz⟩:∃ z,zs[j]? = some z:=⟨_,ag hj⟩
  obtain⟨x,_,hx,hr⟩:=h j (.v (.int k z)) (by rw [ax,hz];rfl)
  have:=hr.v_form
  subst this
  rw [Ca,aG] at hx
  have hc:w.cell? ⟨g,j,none⟩=vs[j]?:=by simp [World.cell?,h3]
  rw [hc] at hx
  rw [cw,hx]
  simp [hz]
 ·rw [bY (by simp;omega),bY (by simp;omega)]
theorem Vy : Tryz.prog.globalNamed "internal/strconv.uint64pow10" = some 0 := by kernel_rfl
theorem A2r {S : Nat -> Prop} {w : World} (h : Q7 S w) : Lib.TabIs Tryz.prog w "internal/strconv.uint64pow10" .u64 Lib.pow10Tab := by
 obtain⟨h1,_,vs,t,fr,h3,h4⟩:=h 0 (Lib.pow10Tab.map λ z=>Pd.v (.int .u64 z)) rfl
 have e:=Ads h1 h3 (by rw [h4,au])
 unfold Lib.TabIs World.var?
 rw [Vy]
 simp [h3,e]
theorem Aq0 {w w' : World} (h : Lib.TabIs Tryz.prog w "internal/strconv.uint64pow10" .u64 Lib.pow10Tab) (hb : Below w.heap.size w w') : Lib.TabIs Tryz.prog w' "internal/strconv.uint64pow10" .u64 Lib.pow10Tab := by
 unfold Lib.TabIs World.var? at *
 rw [Vy] at *
 simp only [ac] at *
 cases hq:w.heap[0]? with
 | none=>rw [hq] at h;cases h
 | some o=>rw [hb.block 0 (aY.1 hq).1];exact h
theorem rdS {S:Nat->Prop} {w:World} {ρ:List Value} {v:Value} {x:List (List Pd)} (h:Rd S w ρ v (.p (.s x))):RdP S w v (.s x):=by cases h;assumption
theorem A1r {S:Nat->Prop} {w:World} {ρ:List Value} {v x:Value} (h:Rd S w ρ v (.p (.v x))):v=x:=by
 cases h with | p h=>exact h.v_form
set_option maxRecDepth 100000 in
theorem A6n (x0:Ar) (r:ByteArray) (h:O2 ([[x0.Time],x0.Power.Ag.map Du]++x0.Power.Ac.map (λ s=>[s.State,s.Since,s.Aq,s.Phase])++[x0.Power.Ap]++x0.Power.Am.map (λ s=>[s.Kind,s.Number])++x0.A2.map (λ s=>[s.High,s.Low]))=some r) :
  CallOk Tryz.prog 22 [.agg (d43 x0)] [] (.d (.p (.v (.string r)))) []:=by
 intro S w ρ vs hS hA
 obtain⟨v0,rfl,r0⟩:∃ v0,vs=[v0]/\RdA S w ρ v0 (.agg (d43 x0)):=by
  match vs,hA with
  | [v0],h=>exact⟨v0,rfl,h.1⟩
  | [],h=>exact h.elim
  | _::_::_,h=>exact h.2.elim
 obtain⟨cs,rfl,hc⟩:=r0.agg_inv
 unfold d43 at hc
 obtain⟨c0,c1,c2,c3,c4,c5,c6,rfl⟩:∃ c0 c1 c2 c3 c4 c5 c6,cs=[c0,c1,c2,c3,c4,c5,c6]:=by
  have hl:=hc.length
  match cs,hl with
  | [c0,c1,c2,c3,c4,c5,c6],_=>exact⟨c0,c1,c2,c3,c4,c5,c6,rfl⟩
 obtain⟨h0,h1,h2,h3,h4,h5,h6,_⟩:=hc
 obtain⟨er,hr,hlen⟩:=As3 h
 have hSl:∀ b,S b->b<w.heap.size:=hS.sup
 have e0:=A1r h0
 subst e0
 obtain⟨aC,kC,rfl,nC1,nC2,hC⟩:=Ayr (l:=x0.Power.Ag) hSl (rdS h1)
 obtain⟨aS,kS,rfl,nS1,nS2,hSo⟩:=Vi (rows:=x0.Power.Ac.map (λ s=>[s.State,s.Since,s.Aq,s.Phase])) (size:=4) hSl (by rw [cF];exact rdS h2) (λ r hr=>by obtain⟨_,_,rfl⟩:=am.1 hr;rfl)
 obtain⟨aL,kL,rfl,nL1,nL2,hL⟩:=Vi (rows:=x0.Power.Ap.map (λ x=>[x])) (size:=1) hSl (by rw [cF];exact rdS h3) (λ r hr=>by obtain⟨_,_,rfl⟩:=am.1 hr;rfl)
 obtain⟨aB,kB,rfl,nB1,nB2,hB⟩:=Vi (rows:=x0.Power.Am.map (λ s=>[s.Kind,s.Number])) (size:=2) hSl (by rw [cF];exact rdS h4) (λ r hr=>by obtain⟨_,_,rfl⟩:=am.1 hr;rfl)
 obtain⟨aR,kR,rfl,nR1,nR2,hR⟩:=Vi (rows:=x0.A2.map (λ s=>[s.High,s.Low])) (size:=2) hSl (by rw [cF];exact rdS h5) (λ r hr=>by obtain⟨_,_,rfl⟩:=am.1 hr;rfl)
 obtain⟨aE,nE,kE,rfl⟩:∃ a n k,c6=Value.slice a n k:=by
  obtain⟨a,k,e,_,_⟩:=(rdS h6).slice_form
  exact⟨a,_,k,e⟩
 rw [au] at nL1
 have eL:(List.map (λ (x:Int)=>[x]) x0.Power.Ap).length=x0.Power.Ap.length:=au _
 rw [eL]
 have ht:=A2r hS.gl
 have hcl:x0.Power.Ag.length<=1000000:=by
  have:=(hr (x0.Power.Ag.map Du) (by simp)).1
  rwa [au] at this
 have key:=A6l w x0.Time x0.Power.Ag _ x0.Power.Ap _ _ aC aS aL aB aR aE kC kS kL kB kR kE nE hC (hSo (by omega)) (hL (by omega)) (hB (by omega)) (hR (by omega))
  (λ r hr=>by obtain⟨_,_,rfl⟩:=am.1 hr;rfl) (λ r hr=>by obtain⟨_,_,rfl⟩:=am.1 hr;rfl) (λ r hr=>by obtain⟨_,_,rfl⟩:=am.1 hr;rfl)
  ⟨nC1,nC2⟩ ⟨nS1,nS2⟩ ⟨nL1,nL2⟩ ⟨nB1,nB2⟩ ⟨nR1,nR2⟩ (by omega) (λ l hl=>(hr l hl).2) (by have:=hlen;unfold C4;omega) (λ w' hb=>Aq0 ht hb)
 refine Calls.mono key λ e w' hp=>?_
 obtain⟨rfl,hb⟩:=hp
 refine⟨_,S,ρ,rfl,?_,hS.inv.grow (λ _ h=>h) (λ b hb=>.inl hb) hb.block hb.size hb.os hb.tape hb.output⟩
 rw [er]
 exact .d (.p (.v _ rfl))
end Go.Proofs.YtpdbkiafikdgpaaGreatDoor
