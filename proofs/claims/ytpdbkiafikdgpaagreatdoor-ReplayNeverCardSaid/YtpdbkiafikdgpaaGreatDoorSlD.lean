import Derived.Test.YtpdbkiafikdgpaaGreatDoorSlC
namespace Go.SL
def pt (a:Act) (p:Ci):Prop:=∀ g,g∈p->a.tmps[g.1]? = some (.bool g.2)
def Wq (S:Nat->Prop) (w:World) (ρ:List Value) (a:Act) (e:Ent):Prop:=
 (pt a e.p->∃ v,a.tmps[e.t]? = some v/\RdA S w ρ v e.v)/\(¬pt a e.p->a.tmps[e.t]? = some undef)
def Cc (S:Nat->Prop) (w:World) (ρ:List Value) (a:Act) (L:List Ent):Prop:=∀ e,e∈L->Wq S w ρ a e
def Sat (n:Nat) (C:Ctx) (L:List Ent) (R:List Res) (a:Act) (w:World):Prop:=
 a.defers=C.df/\a.tmps.size=n/\∃ S ρ,Inv C S w ρ R/\Cc S w ρ a L
theorem Cq:∀ {L:List Ent} {t:Nat} {e:Ent},D_ L t=some e->e∈L/\e.t=t
 | [],_,_,h=>by simp [D_] at h
 | x::r,t,e,h=>by
  simp only [D_] at h
  cases hb:Nat.beq x.t t with
  | true=>rw [hb] at h;simp at h;subst h;exact⟨aj,ak hb⟩
  | false=>rw [hb] at h;simp at h;obtain⟨h1,h2⟩:=Cq h;exact⟨ai _ h1,h2⟩
theorem P9 {a:Act}:∀ {p q:Ci},Ey p q=true->pt a q->pt a p
 | [],_,_,_=>λ g hg=>by cases hg
 | (t,x)::p,(u,y)::q,h,hq=>by
  simp only [Ey,ae,dH] at h
  obtain⟨⟨h1,h2⟩,h3⟩:=h
  have ht:=ak h1
  subst ht;subst h2
  intro g hg
  rcases ah.1 hg with rfl | hg
  ·exact hq _ aj
  ·exact P9 h3 (λ g hg=>hq g (ai _ hg)) g hg
 | _::_,[],h,_=>by simp [Ey] at h
section
variable {P:Program} {C:Ctx} {S:Nat->Prop} {w:World} {ρ:List Value} {R:List Res} {L:List Ent} {cur:Ci} {a:Act}
theorem Auc {v:Value} {d:D} (h:dOf v=some d):Rd S w ρ v d:=by
 unfold dOf at h
 cases hb:v.oneCell' with
 | true=>rw [hb] at h;simp at h;subst h;exact .p (.v v hb)
 | false=>rw [hb] at h;simp at h
theorem H1:∀ {l:List Value} {ds:List D},Ej l=some ds->Bb (Rd S w ρ) l ds
 | [],ds,h=>by simp [Ej] at h;subst h;trivial
 | v::r,ds,h=>by
  simp only [Ej] at h
  split at h
  ·rename_i d ds' h1 h2
   simp at h;subst h
   exact⟨Auc h1,H1 h2⟩
  ·cases h
theorem A2i {v:Value} {av:AV} (h:M2 v=some av):RdA S w ρ v av:=by
 unfold M2 at h
 split at h
 ·rename_i cs
  cases hd:Ej cs.toList with
  | none=>rw [hd] at h;cases h
  | some ds=>
   rw [hd] at h;simp at h;subst h
   have:=RdA.agg (S:=S) (w:=w) (ρ:=ρ) (H1 (S:=S) (w:=w) (ρ:=ρ) hd)
   simpa using this
 ·cases h
 ·cases hd:dOf v with
  | none=>rw [hd] at h;cases h
  | some d=>rw [hd] at h;simp at h;subst h;exact .d (Auc hd)
theorem Bw (hL:Cc S w ρ a L) (hp:pt a cur) {x:Operand} {av:AV} (h:B0 L cur x=some av):RdA S w ρ (a.eval x) av:=by
 unfold B0 at h
 split at h
 ·exact A2i h
 ·rename_i t
  split at h
  ·rename_i e he
   obtain⟨hm,ht⟩:=Cq he
   cases hb:Ey e.p cur with
   | false=>rw [hb] at h;simp at h
   | true=>
    rw [hb] at h;simp at h;subst h
    obtain⟨v,hv,hr⟩:=(hL e hm).1 (P9 hb hp)
    rw [ht] at hv
    have:a.eval (.tmp t)=v:=by simp [Act.eval,Array.getD_eq_getD_getElem?,hv]
    rw [this];exact hr
  ·cases h
 ·simp at h;subst h
  exact .d (.fn (xs:=[]) (cs:=[]) rfl rfl (by simp) (by simp))
 ·cases h
theorem D3 (hL:Cc S w ρ a L) (hp:pt a cur):∀ {l:List Operand} {avs:List AV},Df L cur l=some avs->Bb (RdA S w ρ) (l.map a.eval) avs
 | [],avs,h=>by simp [Df] at h;subst h;trivial
 | x::r,avs,h=>by
  simp only [Df] at h
  split at h
  ·rename_i v l h1 h2
   simp at h;subst h
   exact⟨Bw hL hp h1,D3 hL hp h2⟩
  ·cases h
theorem Bq (hL:Cc S w ρ a L) (hp:pt a cur) {x:Operand} {v:Value} (h:(B0 L cur x).bind Cp=some v):a.eval x=v:=by
 cases hx:B0 L cur x with
 | none=>rw [hx] at h;cases h
 | some av=>
  rw [hx] at h
  simp only [ac] at h
  unfold Cp at h
  split at h
  ·simp at h;subst h;exact (Bw hL hp hx).exact_inv
  ·cases h
theorem S4 (hL:Cc S w ρ a L) (hp:pt a cur) {x:Operand} {b:Bool} (h:(B0 L cur x).bind Jl=some b):a.eval x = .bool b:=by
 cases hx:B0 L cur x with
 | none=>rw [hx] at h;cases h
 | some av=>
  rw [hx] at h
  simp only [ac] at h
  unfold Jl at h
  split at h
  ·simp at h;subst h;exact (Bw hL hp hx).exact_inv
  ·cases h
theorem Lo {v:Value} {av:AV} {ds:List D} (hr:RdA S w ρ v av) (h:Gu av=some ds):Bb (Rd S w ρ) v.cells.toList ds:=by
 cases av with
 | d x=>
  simp [Gu] at h;subst h
  have hx:=hr.d_inv
  have h1:=hx.one
  have:v.cells = #[v]:=by cases v <;> first | rfl | simp [Value.oneCell'] at h1
  rw [this]
  exact⟨hx,trivial⟩
 | agg ds'=>
  simp [Gu] at h;subst h
  obtain⟨vs,rfl,h2⟩:=hr.agg_inv
  simpa [Value.cells] using h2
 | tup l=>simp [Gu] at h
theorem Dv {v:Value} (h:v.oneCell'=true):RdA S w ρ v (ofV v):=.d (.p (.v v h))
theorem Np {t:TypeId} {d:TypeDesc} (h:P.underlying t=some d):(isAgg t).run P w = .ok (Mt d) w:=by
 cases d <;> simp [isAgg,run_underlying h,Mt]
theorem B6 {t:TypeId} {n:Nat} (h:Bu P t=some n):(sizeOf t).run P w = .ok n w:=by
 unfold Bu at h
 cases hi:P.info? t with
 | none=>rw [hi] at h;cases h
 | some i=>
  rw [hi] at h;simp at h
  simp [sizeOf,typeInfo,hi,h]
theorem Ew {t:TypeId} {z:Value} (h:Dk P t=some z):(zeroValue t).run P w = .ok z w:=by
 unfold Dk at h
 cases hi:P.info? t with
 | none=>rw [hi] at h;cases h
 | some i=>
  rw [hi] at h;simp at h
  simp [zeroValue,typeInfo,hi,h]
theorem Fw {t : TypeId} {ad : Addr} {ds : List D} {av : AV} (h : G2 P t ds = some av)
  (hc:∀ (j:Nat) d,ds[j]? = some d->∃ x,w.cell? (ad.add j)=some x/\Rd S w ρ x d) :
  ∃ v,(loadVar t ad).run P w = .ok v w/\RdA S w ρ v av:=by
 unfold G2 at h
 cases hu:P.underlying t with
 | none=>simp [Pt,hu] at h
 | some td =>
  have ha:Pt P t=some (Mt td):=by simp [Pt,hu]
  rw [ha] at h
  cases hb:Mt td with
  | true=>
   rw [hb] at h
   split at h
   ·rename_i n hn hsz
    cases hl:Nat.beq ds.length n with
    | false=>rw [hl] at h;simp at h
    | true=>
     rw [hl] at h;simp at h;subst h
     have hlen:ds.length=n:=ak hl
     have hxs:∃ xs:List Value,xs.length=ds.length/\∀ (j:Nat) x,xs[j]? = some x->w.cell? (ad.add j)=some x/\∀ d,ds[j]? = some d->Rd S w ρ x d:=by
      refine⟨(List.range ds.length).map λ j=>(w.cell? (ad.add j)).getD undef,by simp,λ j x hx=>?_⟩
      rw [ax] at hx
      cases hj:(List.range ds.length)[j]? with
      | none=>rw [hj] at hx;cases hx
      | some k=>
       rw [hj] at hx
       have hk:j<ds.length/\k=j:=by
        obtain⟨h1,h2⟩:=aa.1 hj
        simp at h1 h2;exact⟨h1,h2.symm⟩
       obtain⟨hk1,rfl⟩:=hk
       obtain⟨y,hy,hR⟩:=hc k ds[k] (ag hk1)
       simp [hy] at hx;subst hx
       refine⟨hy,λ d hd=>?_⟩
       rw [ag hk1] at hd;cases hd;exact hR
     obtain⟨xs,hxl,hx⟩:=hxs
     have hlc:=run_loadCells_list (P:=P) w ad xs (λ j v hv=>(hx j v hv).1)
     refine⟨.agg xs.toArray,?_,.agg (d9 hxl λ j x d h1 h2=>(hx j x h1).2 d h2)⟩
     simp [loadVar,Np hu,hb,B6 hsz,←hlen,←hxl,hlc]
   all_goals simp_all
  | false=>
   rw [hb] at h
   split at h
   ·simp_all
   ·split at h
    ·rename_i d
     simp at h;subst h
     obtain⟨x,hx,hR⟩:=hc 0 d rfl
     rw [I2] at hx
     refine⟨x,?_,.d hR⟩
     simp [loadVar,Np hu,hb,hx]
    ·cases h
   ·cases h
end
end Go.SL
