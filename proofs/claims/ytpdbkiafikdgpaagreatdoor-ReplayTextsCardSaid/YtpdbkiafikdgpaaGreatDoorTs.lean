import Derived.Test.YtpdbkiafikdgpaaGreatDoorTr
import Derived.Test.YtpdbkiafikdgpaaGreatDoorBt
import Derived.Test.YtpdbkiafikdgpaaGreatDoorTy
namespace Go.Proofs.YtpdbkiafikdgpaaGreatDoor
open Go Go.RowKit Go.SL
theorem Wa {S:Nat->Prop} {w:World} {g:Nat} {zs:List Int} {k:IntKind} (h:Dv S w ⟨g,0,none⟩ (zs.map λ z=>Pd.v (.int k z))) {vs:Array Value} {t:TypeId} {fr:Nat×Nat} (h3:w.heap[g]? = some (.cells vs t fr)) (h4:vs.size=zs.length) :
  vs=(zs.map λ z=>Value.int k z).toArray:=by
 apply Array.ext'
 apply bj
 intro j
 by_cases hj:j<zs.length
 ·obtain⟨z,hz⟩:∃ z,zs[j]? = some z:=⟨_,ai hj⟩
  obtain⟨x,_,hx,hr⟩:=h j (.v (.int k z)) (by rw [ap,hz];rfl)
  have:=hr.v_form
  subst this
  rw [B9,aO] at hx
  have hc:w.cell? ⟨g,j,none⟩=vs[j]?:=by simp [World.cell?,h3]
  rw [hc] at hx
  rw [cm,hx]
  simp [hz]
 ·rw [bl (by simp;omega),bl (by simp;omega)]
theorem M5 : Tryz.prog.globalNamed "internal/strconv.uint64pow10" = some 0 := by kernel_rfl
theorem Amg {S : Nat -> Prop} {w : World} (h : Kj S w) : Lib.TabIs Tryz.prog w "internal/strconv.uint64pow10" .u64 Lib.pow10Tab := by
 obtain⟨h1,_,vs,t,fr,h3,h4⟩:=h 0 (Lib.pow10Tab.map λ z=>Pd.v (.int .u64 z)) rfl
 have e:=Wa h1 h3 (by rw [h4,aw])
 unfold Lib.TabIs World.var?
 rw [M5]
 simp [h3,e]
theorem Adh {w w' : World} (h : Lib.TabIs Tryz.prog w "internal/strconv.uint64pow10" .u64 Lib.pow10Tab) (hb : Below w.heap.size w w') : Lib.TabIs Tryz.prog w' "internal/strconv.uint64pow10" .u64 Lib.pow10Tab := by
 unfold Lib.TabIs World.var? at *
 rw [M5] at *
 simp only [al] at *
 cases hq:w.heap[0]? with
 | none=>rw [hq] at h;cases h
 | some o=>rw [hb.block 0 (bt.1 hq).1];exact h
theorem rdS {S:Nat->Prop} {w:World} {ρ:List Value} {v:Value} {x:List (List Pd)} (h:Rd S w ρ v (.p (.s x))):RdP S w v (.s x):=by cases h;assumption
theorem Aly {S:Nat->Prop} {w:World} {ρ:List Value} {v x:Value} (h:Rd S w ρ v (.p (.v x))):v=x:=by
 cases h with | p h=>exact h.v_form
set_option maxRecDepth 100000 in
theorem Ao3 (x0:Al) (r:ByteArray) (h:Jc ([[x0.Time],x0.Power.Am.map Cm]++x0.Power.Ac.map (λ s=>[s.State,s.Since,s.An,s.Phase])++[x0.Power.Aw]++x0.Power.As.map (λ s=>[s.Kind,s.Number])++x0.Av.map (λ s=>[s.High,s.Low]))=some r) :
  CallOk Tryz.prog 22 [.agg (d43 x0)] [] (.d (.p (.v (.string r)))) []:=by
 intro S w ρ vs hS hA
 obtain⟨v0,rfl,r0⟩:∃ v0,vs=[v0]/\RdA S w ρ v0 (.agg (d43 x0)):=by
  match vs,hA with
  | [v0],h=>exact⟨v0,rfl,h.1⟩
  | [],h=>exact h.elim
  | _::_::_,h=>exact h.2.elim
 obtain⟨cs,rfl,hc⟩:=r0.agg_inv
 unfold d43 at hc
 obtain⟨c0,c1,c2,c3,c4,c5,c6,rfl⟩:∃ c0 c1 c2 c3 c4 c5 c6,cs=[c0,c1,c2,c3,c4,c5,c6]:=by
  have hl:=hc.length
  match cs,hl with
  | [c0,c1,c2,c3,c4,c5,c6],_=>exact⟨c0,c1,c2,c3,c4,c5,c6,rfl⟩
 obtain⟨h0,h1,h2,h3,h4,h5,h6,_⟩:=hc
 obtain⟨er,hr,hlen⟩:=Afb h
 have hSl:∀ b,S b->b<w.heap.size:=hS.sup
 have e0:=Aly h0
 subst e0
 obtain⟨aC,kC,rfl,nC1,nC2,hC⟩:=Ajw (l:=x0.Power.Am) hSl (rdS h1)
 obtain⟨aS,kS,rfl,nS1,nS2,hSo⟩:=Mv (rows:=x0.Power.Ac.map (λ s=>[s.State,s.Since,s.An,s.Phase])) (size:=4) hSl (by rw [bW];exact rdS h2) (λ r hr=>by obtain⟨_,_,rfl⟩:=aq.1 hr;rfl)
 obtain⟨aL,kL,rfl,nL1,nL2,hL⟩:=Mv (rows:=x0.Power.Aw.map (λ x=>[x])) (size:=1) hSl (by rw [bW];exact rdS h3) (λ r hr=>by obtain⟨_,_,rfl⟩:=aq.1 hr;rfl)
 obtain⟨aB,kB,rfl,nB1,nB2,hB⟩:=Mv (rows:=x0.Power.As.map (λ s=>[s.Kind,s.Number])) (size:=2) hSl (by rw [bW];exact rdS h4) (λ r hr=>by obtain⟨_,_,rfl⟩:=aq.1 hr;rfl)
 obtain⟨aR,kR,rfl,nR1,nR2,hR⟩:=Mv (rows:=x0.Av.map (λ s=>[s.High,s.Low])) (size:=2) hSl (by rw [bW];exact rdS h5) (λ r hr=>by obtain⟨_,_,rfl⟩:=aq.1 hr;rfl)
 obtain⟨aE,nE,kE,rfl⟩:∃ a n k,c6=Value.slice a n k:=by
  obtain⟨a,k,e,_,_⟩:=(rdS h6).slice_form
  exact⟨a,_,k,e⟩
 rw [aw] at nL1
 have eL:(List.map (λ (x:Int)=>[x]) x0.Power.Aw).length=x0.Power.Aw.length:=aw _
 rw [eL]
 have ht:=Amg hS.gl
 have hcl:x0.Power.Am.length<=1000000:=by
  have:=(hr (x0.Power.Am.map Cm) (by simp)).1
  rwa [aw] at this
 have key:=Ao2 w x0.Time x0.Power.Am _ x0.Power.Aw _ _ aC aS aL aB aR aE kC kS kL kB kR kE nE hC (hSo (by omega)) (hL (by omega)) (hB (by omega)) (hR (by omega))
  (λ r hr=>by obtain⟨_,_,rfl⟩:=aq.1 hr;rfl) (λ r hr=>by obtain⟨_,_,rfl⟩:=aq.1 hr;rfl) (λ r hr=>by obtain⟨_,_,rfl⟩:=aq.1 hr;rfl)
  ⟨nC1,nC2⟩ ⟨nS1,nS2⟩ ⟨nL1,nL2⟩ ⟨nB1,nB2⟩ ⟨nR1,nR2⟩ (by omega) (λ l hl=>(hr l hl).2) (by have:=hlen;unfold Cf;omega) (λ w' hb=>Adh ht hb)
 refine Calls.mono key λ e w' hp=>?_
 obtain⟨rfl,hb⟩:=hp
 refine⟨_,S,ρ,rfl,?_,hS.inv.grow (λ _ h=>h) (λ b hb=>.inl hb) hb.block hb.size hb.os hb.tape hb.output⟩
 rw [er]
 exact .d (.p (.v _ rfl))
end Go.Proofs.YtpdbkiafikdgpaaGreatDoor
