import Derived.Test.YtaplakgdkkmpfaaDoorSlC
namespace Go.SL
def pt (a:Act) (p:A0):Prop:=∀ g,g∈p->a.tmps[g.1]? = some (.bool g.2)
def Jv (S:Nat->Prop) (w:World) (ρ:List Value) (a:Act) (e:Ent):Prop:=
 (pt a e.p->∃ v,a.tmps[e.t]? = some v/\RdA S w ρ v e.v)/\(¬pt a e.p->a.tmps[e.t]? = some undef)
def Az (S:Nat->Prop) (w:World) (ρ:List Value) (a:Act) (L:List Ent):Prop:=∀ e,e∈L->Jv S w ρ a e
def Sat (n:Nat) (C:Ctx) (L:List Ent) (R:List Res) (a:Act) (w:World):Prop:=
 a.defers=C.df/\a.tmps.size=n/\∃ S ρ,Inv C S w ρ R/\Az S w ρ a L
theorem Bd:∀ {L:List Ent} {t:Nat} {e:Ent},Cp L t=some e->e∈L/\e.t=t
 | [],_,_,h=>by simp [Cp] at h
 | x::r,t,e,h=>by
  simp only [Cp] at h
  cases hb:Nat.beq x.t t with
  | true=>rw [hb] at h;simp at h;subst h;exact⟨ak,af hb⟩
  | false=>rw [hb] at h;simp at h;obtain⟨h1,h2⟩:=Bd h;exact⟨aj _ h1,h2⟩
theorem Hm {a:Act}:∀ {p q:A0},Ce p q=true->pt a q->pt a p
 | [],_,_,_=>λ g hg=>by cases hg
 | (t,x)::p,(u,y)::q,h,hq=>by
  simp only [Ce,ae,beq_iff_eq] at h
  obtain⟨⟨h1,h2⟩,h3⟩:=h
  have ht:=af h1
  subst ht;subst h2
  intro g hg
  rcases ag.1 hg with rfl | hg
  ·exact hq _ ak
  ·exact Hm h3 (λ g hg=>hq g (aj _ hg)) g hg
 | _::_,[],h,_=>by simp [Ce] at h
section
variable {P:Program} {C:Ctx} {S:Nat->Prop} {w:World} {ρ:List Value} {R:List Res} {L:List Ent} {cur:A0} {a:Act}
theorem T5 {v:Value} {d:D} (h:dOf v=some d):Rd S w ρ v d:=by
 unfold dOf at h
 cases hb:v.oneCell' with
 | true=>rw [hb] at h;simp at h;subst h;exact .p (.v v hb)
 | false=>rw [hb] at h;simp at h
theorem Dw:∀ {l:List Value} {ds:List D},B6 l=some ds->Ag (Rd S w ρ) l ds
 | [],ds,h=>by simp [B6] at h;subst h;trivial
 | v::r,ds,h=>by
  simp only [B6] at h
  split at h
  ·rename_i d ds' h1 h2
   simp at h;subst h
   exact⟨T5 h1,Dw h2⟩
  ·cases h
theorem Xm {v:Value} {av:AV} (h:Gd v=some av):RdA S w ρ v av:=by
 unfold Gd at h
 split at h
 ·rename_i cs
  cases hd:B6 cs.toList with
  | none=>rw [hd] at h;cases h
  | some ds=>
   rw [hd] at h;simp at h;subst h
   have:=RdA.agg (S:=S) (w:=w) (ρ:=ρ) (Dw (S:=S) (w:=w) (ρ:=ρ) hd)
   simpa using this
 ·cases h
 ·cases hd:dOf v with
  | none=>rw [hd] at h;cases h
  | some d=>rw [hd] at h;simp at h;subst h;exact .d (T5 hd)
theorem Ak (hL:Az S w ρ a L) (hp:pt a cur) {x:Operand} {av:AV} (h:Al L cur x=some av):RdA S w ρ (a.eval x) av:=by
 unfold Al at h
 split at h
 ·exact Xm h
 ·rename_i t
  split at h
  ·rename_i e he
   obtain⟨hm,ht⟩:=Bd he
   cases hb:Ce e.p cur with
   | false=>rw [hb] at h;simp at h
   | true=>
    rw [hb] at h;simp at h;subst h
    obtain⟨v,hv,hr⟩:=(hL e hm).1 (Hm hb hp)
    rw [ht] at hv
    have:a.eval (.tmp t)=v:=by simp [Act.eval,Array.getD_eq_getD_getElem?,hv]
    rw [this];exact hr
  ·cases h
 ·simp at h;subst h
  exact .d (.fn (xs:=[]) (cs:=[]) rfl rfl (by simp) (by simp))
 ·cases h
theorem Bt (hL:Az S w ρ a L) (hp:pt a cur):∀ {l:List Operand} {avs:List AV},Bl L cur l=some avs->Ag (RdA S w ρ) (l.map a.eval) avs
 | [],avs,h=>by simp [Bl] at h;subst h;trivial
 | x::r,avs,h=>by
  simp only [Bl] at h
  split at h
  ·rename_i v l h1 h2
   simp at h;subst h
   exact⟨Ak hL hp h1,Bt hL hp h2⟩
  ·cases h
theorem Ah (hL:Az S w ρ a L) (hp:pt a cur) {x:Operand} {v:Value} (h:(Al L cur x).bind Aw=some v):a.eval x=v:=by
 cases hx:Al L cur x with
 | none=>rw [hx] at h;cases h
 | some av=>
  rw [hx] at h
  simp only [ap] at h
  unfold Aw at h
  split at h
  ·simp at h;subst h;exact (Ak hL hp hx).exact_inv
  ·cases h
theorem Im (hL:Az S w ρ a L) (hp:pt a cur) {x:Operand} {b:Bool} (h:(Al L cur x).bind Es=some b):a.eval x = .bool b:=by
 cases hx:Al L cur x with
 | none=>rw [hx] at h;cases h
 | some av=>
  rw [hx] at h
  simp only [ap] at h
  unfold Es at h
  split at h
  ·simp at h;subst h;exact (Ak hL hp hx).exact_inv
  ·cases h
theorem Fq {v:Value} {av:AV} {ds:List D} (hr:RdA S w ρ v av) (h:Dg av=some ds):Ag (Rd S w ρ) v.cells.toList ds:=by
 cases av with
 | d x=>
  simp [Dg] at h;subst h
  have hx:=hr.d_inv
  have h1:=hx.one
  have:v.cells = #[v]:=by cases v <;> first | rfl | simp [Value.oneCell'] at h1
  rw [this]
  exact⟨hx,trivial⟩
 | agg ds'=>
  simp [Dg] at h;subst h
  obtain⟨vs,rfl,h2⟩:=hr.agg_inv
  simpa [Value.cells] using h2
 | tup l=>simp [Dg] at h
theorem Bp {v:Value} (h:v.oneCell'=true):RdA S w ρ v (ofV v):=.d (.p (.v v h))
theorem Gh {t:TypeId} {d:TypeDesc} (h:P.underlying t=some d):(isAgg t).run P w = .ok (F5 d) w:=by
 cases d <;> simp [isAgg,run_underlying h,F5]
theorem Ar {t:TypeId} {n:Nat} (h:Aj P t=some n):(sizeOf t).run P w = .ok n w:=by
 unfold Aj at h
 cases hi:P.info? t with
 | none=>rw [hi] at h;cases h
 | some i=>
  rw [hi] at h;simp at h
  simp [sizeOf,typeInfo,hi,h]
theorem Cd {t:TypeId} {z:Value} (h:Bn P t=some z):(zeroValue t).run P w = .ok z w:=by
 unfold Bn at h
 cases hi:P.info? t with
 | none=>rw [hi] at h;cases h
 | some i=>
  rw [hi] at h;simp at h
  simp [zeroValue,typeInfo,hi,h]
theorem Cx {t : TypeId} {ad : Addr} {ds : List D} {av : AV} (h : Dk P t ds = some av)
  (hc:∀ (j:Nat) d,ds[j]? = some d->∃ x,w.cell? (ad.add j)=some x/\Rd S w ρ x d) :
  ∃ v,(loadVar t ad).run P w = .ok v w/\RdA S w ρ v av:=by
 unfold Dk at h
 cases hu:P.underlying t with
 | none=>simp [Hf,hu] at h
 | some td =>
  have ha:Hf P t=some (F5 td):=by simp [Hf,hu]
  rw [ha] at h
  cases hb:F5 td with
  | true=>
   rw [hb] at h
   split at h
   ·rename_i n hn hsz
    cases hl:Nat.beq ds.length n with
    | false=>rw [hl] at h;simp at h
    | true=>
     rw [hl] at h;simp at h;subst h
     have hlen:ds.length=n:=af hl
     have hxs:∃ xs:List Value,xs.length=ds.length/\∀ (j:Nat) x,xs[j]? = some x->w.cell? (ad.add j)=some x/\∀ d,ds[j]? = some d->Rd S w ρ x d:=by
      refine⟨(List.range ds.length).map λ j=>(w.cell? (ad.add j)).getD undef,by simp,λ j x hx=>?_⟩
      rw [am] at hx
      cases hj:(List.range ds.length)[j]? with
      | none=>rw [hj] at hx;cases hx
      | some k=>
       rw [hj] at hx
       have hk:j<ds.length/\k=j:=by
        obtain⟨h1,h2⟩:=aa.1 hj
        simp at h1 h2;exact⟨h1,h2.symm⟩
       obtain⟨hk1,rfl⟩:=hk
       obtain⟨y,hy,hR⟩:=hc k ds[k] (al hk1)
       simp [hy] at hx;subst hx
       refine⟨hy,λ d hd=>?_⟩
       rw [al hk1] at hd;cases hd;exact hR
     obtain⟨xs,hxl,hx⟩:=hxs
     have hlc:=run_loadCells_list (P:=P) w ad xs (λ j v hv=>(hx j v hv).1)
     refine⟨.agg xs.toArray,?_,.agg (bR hxl λ j x d h1 h2=>(hx j x h1).2 d h2)⟩
     simp [loadVar,Gh hu,hb,Ar hsz,←hlen,←hxl,hlc]
   all_goals simp_all
  | false=>
   rw [hb] at h
   split at h
   ·simp_all
   ·split at h
    ·rename_i d
     simp at h;subst h
     obtain⟨x,hx,hR⟩:=hc 0 d rfl
     rw [Ee] at hx
     refine⟨x,?_,.d hR⟩
     simp [loadVar,Gh hu,hb,hx]
    ·cases h
   ·cases h
end
end Go.SL
