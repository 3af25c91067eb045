import Derived.Test.YtaplakgdkkmpfaaDoorSlC
namespace Go.SL
def pt (a:Act) (p:Az):Prop:=∀ g,g∈p->a.tmps[g.1]? = some (.bool g.2)
def Is (S:Nat->Prop) (w:World) (ρ:List Value) (a:Act) (e:Ent):Prop:=
 (pt a e.p->∃ v,a.tmps[e.t]? = some v/\RdA S w ρ v e.v)/\(¬pt a e.p->a.tmps[e.t]? = some undef)
def Ay (S:Nat->Prop) (w:World) (ρ:List Value) (a:Act) (L:List Ent):Prop:=∀ e,e∈L->Is S w ρ a e
def Sat (n:Nat) (C:Ctx) (L:List Ent) (R:List Res) (a:Act) (w:World):Prop:=
 a.defers=C.df/\a.tmps.size=n/\∃ S ρ,Inv C S w ρ R/\Ay S w ρ a L
theorem A9:∀ {L:List Ent} {t:Nat} {e:Ent},Cc L t=some e->e∈L/\e.t=t
 | [],_,_,h=>by simp [Cc] at h
 | x::r,t,e,h=>by
  simp only [Cc] at h
  cases hb:Nat.beq x.t t with
  | true=>rw [hb] at h;simp at h;subst h;exact⟨aj,ae hb⟩
  | false=>rw [hb] at h;simp at h;obtain⟨h1,h2⟩:=A9 h;exact⟨ai _ h1,h2⟩
theorem G2 {a:Act}:∀ {p q:Az},B5 p q=true->pt a q->pt a p
 | [],_,_,_=>λ g hg=>by cases hg
 | (t,x)::p,(u,y)::q,h,hq=>by
  simp only [B5,aa,beq_iff_eq] at h
  obtain⟨⟨h1,h2⟩,h3⟩:=h
  have ht:=ae h1
  subst ht;subst h2
  intro g hg
  rcases af.1 hg with rfl | hg
  ·exact hq _ aj
  ·exact G2 h3 (λ g hg=>hq g (ai _ hg)) g hg
 | _::_,[],h,_=>by simp [B5] at h
section
variable {P:Program} {C:Ctx} {S:Nat->Prop} {w:World} {ρ:List Value} {R:List Res} {L:List Ent} {cur:Az} {a:Act}
theorem Q2 {v:Value} {d:D} (h:dOf v=some d):Rd S w ρ v d:=by
 unfold dOf at h
 cases hb:v.oneCell' with
 | true=>rw [hb] at h;simp at h;subst h;exact .p (.v v hb)
 | false=>rw [hb] at h;simp at h
theorem C9:∀ {l:List Value} {ds:List D},Bv l=some ds->Ad (Rd S w ρ) l ds
 | [],ds,h=>by simp [Bv] at h;subst h;trivial
 | v::r,ds,h=>by
  simp only [Bv] at h
  split at h
  ·rename_i d ds' h1 h2
   simp at h;subst h
   exact⟨Q2 h1,C9 h2⟩
  ·cases h
theorem Tu {v:Value} {av:AV} (h:Fi v=some av):RdA S w ρ v av:=by
 unfold Fi at h
 split at h
 ·rename_i cs
  cases hd:Bv cs.toList with
  | none=>rw [hd] at h;cases h
  | some ds=>
   rw [hd] at h;simp at h;subst h
   have:=RdA.agg (S:=S) (w:=w) (ρ:=ρ) (C9 (S:=S) (w:=w) (ρ:=ρ) hd)
   simpa using this
 ·cases h
 ·cases hd:dOf v with
  | none=>rw [hd] at h;cases h
  | some d=>rw [hd] at h;simp at h;subst h;exact .d (Q2 hd)
theorem Ai (hL:Ay S w ρ a L) (hp:pt a cur) {x:Operand} {av:AV} (h:Aj L cur x=some av):RdA S w ρ (a.eval x) av:=by
 unfold Aj at h
 split at h
 ·exact Tu h
 ·rename_i t
  split at h
  ·rename_i e he
   obtain⟨hm,ht⟩:=A9 he
   cases hb:B5 e.p cur with
   | false=>rw [hb] at h;simp at h
   | true=>
    rw [hb] at h;simp at h;subst h
    obtain⟨v,hv,hr⟩:=(hL e hm).1 (G2 hb hp)
    rw [ht] at hv
    have:a.eval (.tmp t)=v:=by simp [Act.eval,Array.getD_eq_getD_getElem?,hv]
    rw [this];exact hr
  ·cases h
 ·simp at h;subst h
  exact .d (.fn (xs:=[]) (cs:=[]) rfl rfl (by simp) (by simp))
 ·cases h
theorem Bj (hL:Ay S w ρ a L) (hp:pt a cur):∀ {l:List Operand} {avs:List AV},Be L cur l=some avs->Ad (RdA S w ρ) (l.map a.eval) avs
 | [],avs,h=>by simp [Be] at h;subst h;trivial
 | x::r,avs,h=>by
  simp only [Be] at h
  split at h
  ·rename_i v l h1 h2
   simp at h;subst h
   exact⟨Ai hL hp h1,Bj hL hp h2⟩
  ·cases h
theorem Ag (hL:Ay S w ρ a L) (hp:pt a cur) {x:Operand} {v:Value} (h:(Aj L cur x).bind Aw=some v):a.eval x=v:=by
 cases hx:Aj L cur x with
 | none=>rw [hx] at h;cases h
 | some av=>
  rw [hx] at h
  simp only [bg] at h
  unfold Aw at h
  split at h
  ·simp at h;subst h;exact (Ai hL hp hx).exact_inv
  ·cases h
theorem Hy (hL:Ay S w ρ a L) (hp:pt a cur) {x:Operand} {b:Bool} (h:(Aj L cur x).bind D7=some b):a.eval x = .bool b:=by
 cases hx:Aj L cur x with
 | none=>rw [hx] at h;cases h
 | some av=>
  rw [hx] at h
  simp only [bg] at h
  unfold D7 at h
  split at h
  ·simp at h;subst h;exact (Ai hL hp hx).exact_inv
  ·cases h
theorem E2 {v:Value} {av:AV} {ds:List D} (hr:RdA S w ρ v av) (h:Cu av=some ds):Ad (Rd S w ρ) v.cells.toList ds:=by
 cases av with
 | d x=>
  simp [Cu] at h;subst h
  have hx:=hr.d_inv
  have h1:=hx.one
  have:v.cells = #[v]:=by cases v <;> first | rfl | simp [Value.oneCell'] at h1
  rw [this]
  exact⟨hx,trivial⟩
 | agg ds'=>
  simp [Cu] at h;subst h
  obtain⟨vs,rfl,h2⟩:=hr.agg_inv
  simpa [Value.cells] using h2
 | tup l=>simp [Cu] at h
theorem Bg {v:Value} (h:v.oneCell'=true):RdA S w ρ v (ofV v):=.d (.p (.v v h))
theorem Fo {t:TypeId} {d:TypeDesc} (h:P.underlying t=some d):(isAgg t).run P w = .ok (Fc d) w:=by
 cases d <;> simp [isAgg,run_underlying h,Fc]
theorem Ap {t:TypeId} {n:Nat} (h:Ah P t=some n):(sizeOf t).run P w = .ok n w:=by
 unfold Ah at h
 cases hi:P.info? t with
 | none=>rw [hi] at h;cases h
 | some i=>
  rw [hi] at h;simp at h
  simp [sizeOf,typeInfo,hi,h]
theorem B4 {t:TypeId} {z:Value} (h:Bf P t=some z):(zeroValue t).run P w = .ok z w:=by
 unfold Bf at h
 cases hi:P.info? t with
 | none=>rw [hi] at h;cases h
 | some i=>
  rw [hi] at h;simp at h
  simp [zeroValue,typeInfo,hi,h]
theorem Cj {t : TypeId} {ad : Addr} {ds : List D} {av : AV} (h : Cw P t ds = some av)
  (hc:∀ (j:Nat) d,ds[j]? = some d->∃ x,w.cell? (ad.add j)=some x/\Rd S w ρ x d) :
  ∃ v,(loadVar t ad).run P w = .ok v w/\RdA S w ρ v av:=by
 unfold Cw at h
 cases hu:P.underlying t with
 | none=>simp [Gw,hu] at h
 | some td =>
  have ha:Gw P t=some (Fc td):=by simp [Gw,hu]
  rw [ha] at h
  cases hb:Fc td with
  | true=>
   rw [hb] at h
   split at h
   ·rename_i n hn hsz
    cases hl:Nat.beq ds.length n with
    | false=>rw [hl] at h;simp at h
    | true=>
     rw [hl] at h;simp at h;subst h
     have hlen:ds.length=n:=ae hl
     have hxs:∃ xs:List Value,xs.length=ds.length/\∀ (j:Nat) x,xs[j]? = some x->w.cell? (ad.add j)=some x/\∀ d,ds[j]? = some d->Rd S w ρ x d:=by
      refine⟨(List.range ds.length).map λ j=>(w.cell? (ad.add j)).getD undef,by simp,λ j x hx=>?_⟩
      rw [ak] at hx
      cases hj:(List.range ds.length)[j]? with
      | none=>rw [hj] at hx;cases hx
      | some k=>
       rw [hj] at hx
       have hk:j<ds.length/\k=j:=by
        obtain⟨h1,h2⟩:=ac.1 hj
        simp at h1 h2;exact⟨h1,h2.symm⟩
       obtain⟨hk1,rfl⟩:=hk
       obtain⟨y,hy,hR⟩:=hc k ds[k] (am hk1)
       simp [hy] at hx;subst hx
       refine⟨hy,λ d hd=>?_⟩
       rw [am hk1] at hd;cases hd;exact hR
     obtain⟨xs,hxl,hx⟩:=hxs
     have hlc:=run_loadCells_list (P:=P) w ad xs (λ j v hv=>(hx j v hv).1)
     refine⟨.agg xs.toArray,?_,.agg (bI hxl λ j x d h1 h2=>(hx j x h1).2 d h2)⟩
     simp [loadVar,Fo hu,hb,Ap hsz,←hlen,←hxl,hlc]
   all_goals simp_all
  | false=>
   rw [hb] at h
   split at h
   ·simp_all
   ·split at h
    ·rename_i d
     simp at h;subst h
     obtain⟨x,hx,hR⟩:=hc 0 d rfl
     rw [Dt] at hx
     refine⟨x,?_,.d hR⟩
     simp [loadVar,Fo hu,hb,hx]
    ·cases h
   ·cases h
end
end Go.SL
