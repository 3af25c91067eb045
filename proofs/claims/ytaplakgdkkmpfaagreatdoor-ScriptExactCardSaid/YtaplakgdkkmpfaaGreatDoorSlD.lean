import Derived.Test.YtaplakgdkkmpfaaGreatDoorSlC
namespace Go.SL
def pt (a:Act) (p:A8):Prop:=∀ g,g∈p->a.tmps[g.1]? = some (.bool g.2)
def K9 (S:Nat->Prop) (w:World) (ρ:List Value) (a:Act) (e:Ent):Prop:=
 (pt a e.p->∃ v,a.tmps[e.t]? = some v/\RdA S w ρ v e.v)/\(¬pt a e.p->a.tmps[e.t]? = some undef)
def A7 (S:Nat->Prop) (w:World) (ρ:List Value) (a:Act) (L:List Ent):Prop:=∀ e,e∈L->K9 S w ρ a e
def Sat (n:Nat) (C:Ctx) (L:List Ent) (R:List Res) (a:Act) (w:World):Prop:=
 a.defers=C.df/\a.tmps.size=n/\∃ S ρ,Inv C S w ρ R/\A7 S w ρ a L
theorem Bi:∀ {L:List Ent} {t:Nat} {e:Ent},C2 L t=some e->e∈L/\e.t=t
 | [],_,_,h=>by simp [C2] at h
 | x::r,t,e,h=>by
  simp only [C2] at h
  cases hb:Nat.beq x.t t with
  | true=>rw [hb] at h;simp at h;subst h;exact⟨al,af hb⟩
  | false=>rw [hb] at h;simp at h;obtain⟨h1,h2⟩:=Bi h;exact⟨aj _ h1,h2⟩
theorem Ir {a:Act}:∀ {p q:A8},Cn p q=true->pt a q->pt a p
 | [],_,_,_=>λ g hg=>by cases hg
 | (t,x)::p,(u,y)::q,h,hq=>by
  simp only [Cn,aa,beq_iff_eq] at h
  obtain⟨⟨h1,h2⟩,h3⟩:=h
  have ht:=af h1
  subst ht;subst h2
  intro g hg
  rcases ag.1 hg with rfl | hg
  ·exact hq _ al
  ·exact Ir h3 (λ g hg=>hq g (aj _ hg)) g hg
 | _::_,[],h,_=>by simp [Cn] at h
section
variable {P:Program} {C:Ctx} {S:Nat->Prop} {w:World} {ρ:List Value} {R:List Res} {L:List Ent} {cur:A8} {a:Act}
theorem Xz {v:Value} {d:D} (h:dOf v=some d):Rd S w ρ v d:=by
 unfold dOf at h
 cases hb:v.oneCell' with
 | true=>rw [hb] at h;simp at h;subst h;exact .p (.v v hb)
 | false=>rw [hb] at h;simp at h
theorem Ee:∀ {l:List Value} {ds:List D},Cc l=some ds->Af (Rd S w ρ) l ds
 | [],ds,h=>by simp [Cc] at h;subst h;trivial
 | v::r,ds,h=>by
  simp only [Cc] at h
  split at h
  ·rename_i d ds' h1 h2
   simp at h;subst h
   exact⟨Xz h1,Ee h2⟩
  ·cases h
theorem uO {v:Value} {av:AV} (h:G9 v=some av):RdA S w ρ v av:=by
 unfold G9 at h
 split at h
 ·rename_i cs
  cases hd:Cc cs.toList with
  | none=>rw [hd] at h;cases h
  | some ds=>
   rw [hd] at h;simp at h;subst h
   have:=RdA.agg (S:=S) (w:=w) (ρ:=ρ) (Ee (S:=S) (w:=w) (ρ:=ρ) hd)
   simpa using this
 ·cases h
 ·cases hd:dOf v with
  | none=>rw [hd] at h;cases h
  | some d=>rw [hd] at h;simp at h;subst h;exact .d (Xz hd)
theorem Ao (hL:A7 S w ρ a L) (hp:pt a cur) {x:Operand} {av:AV} (h:Aq L cur x=some av):RdA S w ρ (a.eval x) av:=by
 unfold Aq at h
 split at h
 ·exact uO h
 ·rename_i t
  split at h
  ·rename_i e he
   obtain⟨hm,ht⟩:=Bi he
   cases hb:Cn e.p cur with
   | false=>rw [hb] at h;simp at h
   | true=>
    rw [hb] at h;simp at h;subst h
    obtain⟨v,hv,hr⟩:=(hL e hm).1 (Ir hb hp)
    rw [ht] at hv
    have:a.eval (.tmp t)=v:=by simp [Act.eval,Array.getD_eq_getD_getElem?,hv]
    rw [this];exact hr
  ·cases h
 ·simp at h;subst h
  exact .d (.fn (xs:=[]) (cs:=[]) rfl rfl (by simp) (by simp))
 ·cases h
theorem B3 (hL:A7 S w ρ a L) (hp:pt a cur):∀ {l:List Operand} {avs:List AV},Bu L cur l=some avs->Af (RdA S w ρ) (l.map a.eval) avs
 | [],avs,h=>by simp [Bu] at h;subst h;trivial
 | x::r,avs,h=>by
  simp only [Bu] at h
  split at h
  ·rename_i v l h1 h2
   simp at h;subst h
   exact⟨Ao hL hp h1,B3 hL hp h2⟩
  ·cases h
theorem Ak (hL:A7 S w ρ a L) (hp:pt a cur) {x:Operand} {v:Value} (h:(Aq L cur x).bind A5=some v):a.eval x=v:=by
 cases hx:Aq L cur x with
 | none=>rw [hx] at h;cases h
 | some av=>
  rw [hx] at h
  simp only [ak] at h
  unfold A5 at h
  split at h
  ·simp at h;subst h;exact (Ao hL hp hx).exact_inv
  ·cases h
theorem Js (hL:A7 S w ρ a L) (hp:pt a cur) {x:Operand} {b:Bool} (h:(Aq L cur x).bind Fa=some b):a.eval x = .bool b:=by
 cases hx:Aq L cur x with
 | none=>rw [hx] at h;cases h
 | some av=>
  rw [hx] at h
  simp only [ak] at h
  unfold Fa at h
  split at h
  ·simp at h;subst h;exact (Ao hL hp hx).exact_inv
  ·cases h
theorem Gp {v:Value} {av:AV} {ds:List D} (hr:RdA S w ρ v av) (h:Dw av=some ds):Af (Rd S w ρ) v.cells.toList ds:=by
 cases av with
 | d x=>
  simp [Dw] at h;subst h
  have hx:=hr.d_inv
  have h1:=hx.one
  have:v.cells = #[v]:=by cases v <;> first | rfl | simp [Value.oneCell'] at h1
  rw [this]
  exact⟨hx,trivial⟩
 | agg ds'=>
  simp [Dw] at h;subst h
  obtain⟨vs,rfl,h2⟩:=hr.agg_inv
  simpa [Value.cells] using h2
 | tup l=>simp [Dw] at h
theorem By {v:Value} (h:v.oneCell'=true):RdA S w ρ v (ofV v):=.d (.p (.v v h))
theorem Hc {t:TypeId} {d:TypeDesc} (h:P.underlying t=some d):(isAgg t).run P w = .ok (G4 d) w:=by
 cases d <;> simp [isAgg,run_underlying h,G4]
theorem Aw {t:TypeId} {n:Nat} (h:Am P t=some n):(sizeOf t).run P w = .ok n w:=by
 unfold Am at h
 cases hi:P.info? t with
 | none=>rw [hi] at h;cases h
 | some i=>
  rw [hi] at h;simp at h
  simp [sizeOf,typeInfo,hi,h]
theorem Cm {t:TypeId} {z:Value} (h:Bw P t=some z):(zeroValue t).run P w = .ok z w:=by
 unfold Bw at h
 cases hi:P.info? t with
 | none=>rw [hi] at h;cases h
 | some i=>
  rw [hi] at h;simp at h
  simp [zeroValue,typeInfo,hi,h]
theorem Da {t : TypeId} {ad : Addr} {ds : List D} {av : AV} (h : C_ P t ds = some av)
  (hc:∀ (j:Nat) d,ds[j]? = some d->∃ x,w.cell? (ad.add j)=some x/\Rd S w ρ x d) :
  ∃ v,(loadVar t ad).run P w = .ok v w/\RdA S w ρ v av:=by
 unfold C_ at h
 cases hu:P.underlying t with
 | none=>simp [Ij,hu] at h
 | some td =>
  have ha:Ij P t=some (G4 td):=by simp [Ij,hu]
  rw [ha] at h
  cases hb:G4 td with
  | true=>
   rw [hb] at h
   split at h
   ·rename_i n hn hsz
    cases hl:Nat.beq ds.length n with
    | false=>rw [hl] at h;simp at h
    | true=>
     rw [hl] at h;simp at h;subst h
     have hlen:ds.length=n:=af hl
     have hxs:∃ xs:List Value,xs.length=ds.length/\∀ (j:Nat) x,xs[j]? = some x->w.cell? (ad.add j)=some x/\∀ d,ds[j]? = some d->Rd S w ρ x d:=by
      refine⟨(List.range ds.length).map λ j=>(w.cell? (ad.add j)).getD undef,by simp,λ j x hx=>?_⟩
      rw [am] at hx
      cases hj:(List.range ds.length)[j]? with
      | none=>rw [hj] at hx;cases hx
      | some k=>
       rw [hj] at hx
       have hk:j<ds.length/\k=j:=by
        obtain⟨h1,h2⟩:=ae.1 hj
        simp at h1 h2;exact⟨h1,h2.symm⟩
       obtain⟨hk1,rfl⟩:=hk
       obtain⟨y,hy,hR⟩:=hc k ds[k] (an hk1)
       simp [hy] at hx;subst hx
       refine⟨hy,λ d hd=>?_⟩
       rw [an hk1] at hd;cases hd;exact hR
     obtain⟨xs,hxl,hx⟩:=hxs
     have hlc:=run_loadCells_list (P:=P) w ad xs (λ j v hv=>(hx j v hv).1)
     refine⟨.agg xs.toArray,?_,.agg (bZ hxl λ j x d h1 h2=>(hx j x h1).2 d h2)⟩
     simp [loadVar,Hc hu,hb,Aw hsz,←hlen,←hxl,hlc]
   all_goals simp_all
  | false=>
   rw [hb] at h
   split at h
   ·simp_all
   ·split at h
    ·rename_i d
     simp at h;subst h
     obtain⟨x,hx,hR⟩:=hc 0 d rfl
     rw [Ey] at hx
     refine⟨x,?_,.d hR⟩
     simp [loadVar,Hc hu,hb,hx]
    ·cases h
   ·cases h
end
end Go.SL
