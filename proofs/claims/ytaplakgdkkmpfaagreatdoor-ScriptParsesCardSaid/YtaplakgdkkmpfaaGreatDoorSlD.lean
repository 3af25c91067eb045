import Derived.Test.YtaplakgdkkmpfaaGreatDoorSlC
namespace Go.SL
def pt (a:Act) (p:A6):Prop:=∀ g,g∈p->a.tmps[g.1]? = some (.bool g.2)
def K8 (S:Nat->Prop) (w:World) (ρ:List Value) (a:Act) (e:Ent):Prop:=
 (pt a e.p->∃ v,a.tmps[e.t]? = some v/\RdA S w ρ v e.v)/\(¬pt a e.p->a.tmps[e.t]? = some undef)
def Az (S:Nat->Prop) (w:World) (ρ:List Value) (a:Act) (L:List Ent):Prop:=∀ e,e∈L->K8 S w ρ a e
def Sat (n:Nat) (C:Ctx) (L:List Ent) (R:List Res) (a:Act) (w:World):Prop:=
 a.defers=C.df/\a.tmps.size=n/\∃ S ρ,Inv C S w ρ R/\Az S w ρ a L
theorem Bi:∀ {L:List Ent} {t:Nat} {e:Ent},Ct L t=some e->e∈L/\e.t=t
 | [],_,_,h=>by simp [Ct] at h
 | x::r,t,e,h=>by
  simp only [Ct] at h
  cases hb:Nat.beq x.t t with
  | true=>rw [hb] at h;simp at h;subst h;exact⟨ak,ac hb⟩
  | false=>rw [hb] at h;simp at h;obtain⟨h1,h2⟩:=Bi h;exact⟨ai _ h1,h2⟩
theorem Iv {a:Act}:∀ {p q:A6},Cm p q=true->pt a q->pt a p
 | [],_,_,_=>λ g hg=>by cases hg
 | (t,x)::p,(u,y)::q,h,hq=>by
  simp only [Cm,af,beq_iff_eq] at h
  obtain⟨⟨h1,h2⟩,h3⟩:=h
  have ht:=ac h1
  subst ht;subst h2
  intro g hg
  rcases ag.1 hg with rfl | hg
  ·exact hq _ ak
  ·exact Iv h3 (λ g hg=>hq g (ai _ hg)) g hg
 | _::_,[],h,_=>by simp [Cm] at h
section
variable {P:Program} {C:Ctx} {S:Nat->Prop} {w:World} {ρ:List Value} {R:List Res} {L:List Ent} {cur:A6} {a:Act}
theorem Xc {v:Value} {d:D} (h:dOf v=some d):Rd S w ρ v d:=by
 unfold dOf at h
 cases hb:v.oneCell' with
 | true=>rw [hb] at h;simp at h;subst h;exact .p (.v v hb)
 | false=>rw [hb] at h;simp at h
theorem Du:∀ {l:List Value} {ds:List D},Cc l=some ds->Ae (Rd S w ρ) l ds
 | [],ds,h=>by simp [Cc] at h;subst h;trivial
 | v::r,ds,h=>by
  simp only [Cc] at h
  split at h
  ·rename_i d ds' h1 h2
   simp at h;subst h
   exact⟨Xc h1,Du h2⟩
  ·cases h
theorem jU {v:Value} {av:AV} (h:G1 v=some av):RdA S w ρ v av:=by
 unfold G1 at h
 split at h
 ·rename_i cs
  cases hd:Cc cs.toList with
  | none=>rw [hd] at h;cases h
  | some ds=>
   rw [hd] at h;simp at h;subst h
   have:=RdA.agg (S:=S) (w:=w) (ρ:=ρ) (Du (S:=S) (w:=w) (ρ:=ρ) hd)
   simpa using this
 ·cases h
 ·cases hd:dOf v with
  | none=>rw [hd] at h;cases h
  | some d=>rw [hd] at h;simp at h;subst h;exact .d (Xc hd)
theorem Ak (hL:Az S w ρ a L) (hp:pt a cur) {x:Operand} {av:AV} (h:Am L cur x=some av):RdA S w ρ (a.eval x) av:=by
 unfold Am at h
 split at h
 ·exact jU h
 ·rename_i t
  split at h
  ·rename_i e he
   obtain⟨hm,ht⟩:=Bi he
   cases hb:Cm e.p cur with
   | false=>rw [hb] at h;simp at h
   | true=>
    rw [hb] at h;simp at h;subst h
    obtain⟨v,hv,hr⟩:=(hL e hm).1 (Iv hb hp)
    rw [ht] at hv
    have:a.eval (.tmp t)=v:=by simp [Act.eval,Array.getD_eq_getD_getElem?,hv]
    rw [this];exact hr
  ·cases h
 ·simp at h;subst h
  exact .d (.fn (xs:=[]) (cs:=[]) rfl rfl (by simp) (by simp))
 ·cases h
theorem B3 (hL:Az S w ρ a L) (hp:pt a cur):∀ {l:List Operand} {avs:List AV},Bv L cur l=some avs->Ae (RdA S w ρ) (l.map a.eval) avs
 | [],avs,h=>by simp [Bv] at h;subst h;trivial
 | x::r,avs,h=>by
  simp only [Bv] at h
  split at h
  ·rename_i v l h1 h2
   simp at h;subst h
   exact⟨Ak hL hp h1,B3 hL hp h2⟩
  ·cases h
theorem Ag (hL:Az S w ρ a L) (hp:pt a cur) {x:Operand} {v:Value} (h:(Am L cur x).bind A0=some v):a.eval x=v:=by
 cases hx:Am L cur x with
 | none=>rw [hx] at h;cases h
 | some av=>
  rw [hx] at h
  simp only [aj] at h
  unfold A0 at h
  split at h
  ·simp at h;subst h;exact (Ak hL hp hx).exact_inv
  ·cases h
theorem J3 (hL:Az S w ρ a L) (hp:pt a cur) {x:Operand} {b:Bool} (h:(Am L cur x).bind Ez=some b):a.eval x = .bool b:=by
 cases hx:Am L cur x with
 | none=>rw [hx] at h;cases h
 | some av=>
  rw [hx] at h
  simp only [aj] at h
  unfold Ez at h
  split at h
  ·simp at h;subst h;exact (Ak hL hp hx).exact_inv
  ·cases h
theorem Ga {v:Value} {av:AV} {ds:List D} (hr:RdA S w ρ v av) (h:Dd av=some ds):Ae (Rd S w ρ) v.cells.toList ds:=by
 cases av with
 | d x=>
  simp [Dd] at h;subst h
  have hx:=hr.d_inv
  have h1:=hx.one
  have:v.cells = #[v]:=by cases v <;> first | rfl | simp [Value.oneCell'] at h1
  rw [this]
  exact⟨hx,trivial⟩
 | agg ds'=>
  simp [Dd] at h;subst h
  obtain⟨vs,rfl,h2⟩:=hr.agg_inv
  simpa [Value.cells] using h2
 | tup l=>simp [Dd] at h
theorem Bm {v:Value} (h:v.oneCell'=true):RdA S w ρ v (ofV v):=.d (.p (.v v h))
theorem G9 {t:TypeId} {d:TypeDesc} (h:P.underlying t=some d):(isAgg t).run P w = .ok (Gu d) w:=by
 cases d <;> simp [isAgg,run_underlying h,Gu]
theorem Ar {t:TypeId} {n:Nat} (h:Aj P t=some n):(sizeOf t).run P w = .ok n w:=by
 unfold Aj at h
 cases hi:P.info? t with
 | none=>rw [hi] at h;cases h
 | some i=>
  rw [hi] at h;simp at h
  simp [sizeOf,typeInfo,hi,h]
theorem Cj {t:TypeId} {z:Value} (h:By P t=some z):(zeroValue t).run P w = .ok z w:=by
 unfold By at h
 cases hi:P.info? t with
 | none=>rw [hi] at h;cases h
 | some i=>
  rw [hi] at h;simp at h
  simp [zeroValue,typeInfo,hi,h]
theorem C1 {t : TypeId} {ad : Addr} {ds : List D} {av : AV} (h : Cz P t ds = some av)
  (hc:∀ (j:Nat) d,ds[j]? = some d->∃ x,w.cell? (ad.add j)=some x/\Rd S w ρ x d) :
  ∃ v,(loadVar t ad).run P w = .ok v w/\RdA S w ρ v av:=by
 unfold Cz at h
 cases hu:P.underlying t with
 | none=>simp [Im,hu] at h
 | some td =>
  have ha:Im P t=some (Gu td):=by simp [Im,hu]
  rw [ha] at h
  cases hb:Gu td with
  | true=>
   rw [hb] at h
   split at h
   ·rename_i n hn hsz
    cases hl:Nat.beq ds.length n with
    | false=>rw [hl] at h;simp at h
    | true=>
     rw [hl] at h;simp at h;subst h
     have hlen:ds.length=n:=ac hl
     have hxs:∃ xs:List Value,xs.length=ds.length/\∀ (j:Nat) x,xs[j]? = some x->w.cell? (ad.add j)=some x/\∀ d,ds[j]? = some d->Rd S w ρ x d:=by
      refine⟨(List.range ds.length).map λ j=>(w.cell? (ad.add j)).getD undef,by simp,λ j x hx=>?_⟩
      rw [al] at hx
      cases hj:(List.range ds.length)[j]? with
      | none=>rw [hj] at hx;cases hx
      | some k=>
       rw [hj] at hx
       have hk:j<ds.length/\k=j:=by
        obtain⟨h1,h2⟩:=aa.1 hj
        simp at h1 h2;exact⟨h1,h2.symm⟩
       obtain⟨hk1,rfl⟩:=hk
       obtain⟨y,hy,hR⟩:=hc k ds[k] (am hk1)
       simp [hy] at hx;subst hx
       refine⟨hy,λ d hd=>?_⟩
       rw [am hk1] at hd;cases hd;exact hR
     obtain⟨xs,hxl,hx⟩:=hxs
     have hlc:=run_loadCells_list (P:=P) w ad xs (λ j v hv=>(hx j v hv).1)
     refine⟨.agg xs.toArray,?_,.agg (c7 hxl λ j x d h1 h2=>(hx j x h1).2 d h2)⟩
     simp [loadVar,G9 hu,hb,Ar hsz,←hlen,←hxl,hlc]
   all_goals simp_all
  | false=>
   rw [hb] at h
   split at h
   ·simp_all
   ·split at h
    ·rename_i d
     simp at h;subst h
     obtain⟨x,hx,hR⟩:=hc 0 d rfl
     rw [Ej] at hx
     refine⟨x,?_,.d hR⟩
     simp [loadVar,G9 hu,hb,hx]
    ·cases h
   ·cases h
end
end Go.SL
