import Derived.Test.YtpdbkiafikdgpaaGreatDoorSlC
namespace Go.SL
def pt (a:Act) (p:Cg):Prop:=∀ g,g∈p->a.tmps[g.1]? = some (.bool g.2)
def V_ (S:Nat->Prop) (w:World) (ρ:List Value) (a:Act) (e:Ent):Prop:=
 (pt a e.p->∃ v,a.tmps[e.t]? = some v/\RdA S w ρ v e.v)/\(¬pt a e.p->a.tmps[e.t]? = some undef)
def B_ (S:Nat->Prop) (w:World) (ρ:List Value) (a:Act) (L:List Ent):Prop:=∀ e,e∈L->V_ S w ρ a e
def Sat (n:Nat) (C:Ctx) (L:List Ent) (R:List Res) (a:Act) (w:World):Prop:=
 a.defers=C.df/\a.tmps.size=n/\∃ S ρ,Inv C S w ρ R/\B_ S w ρ a L
theorem Co:∀ {L:List Ent} {t:Nat} {e:Ent},D6 L t=some e->e∈L/\e.t=t
 | [],_,_,h=>by simp [D6] at h
 | x::r,t,e,h=>by
  simp only [D6] at h
  cases hb:Nat.beq x.t t with
  | true=>rw [hb] at h;simp at h;subst h;exact⟨aj,ak hb⟩
  | false=>rw [hb] at h;simp at h;obtain⟨h1,h2⟩:=Co h;exact⟨ai _ h1,h2⟩
theorem Pw {a:Act}:∀ {p q:Cg},Ev p q=true->pt a q->pt a p
 | [],_,_,_=>λ g hg=>by cases hg
 | (t,x)::p,(u,y)::q,h,hq=>by
  simp only [Ev,ae,dD] at h
  obtain⟨⟨h1,h2⟩,h3⟩:=h
  have ht:=ak h1
  subst ht;subst h2
  intro g hg
  rcases ah.1 hg with rfl | hg
  ·exact hq _ aj
  ·exact Pw h3 (λ g hg=>hq g (ai _ hg)) g hg
 | _::_,[],h,_=>by simp [Ev] at h
section
variable {P:Program} {C:Ctx} {S:Nat->Prop} {w:World} {ρ:List Value} {R:List Res} {L:List Ent} {cur:Cg} {a:Act}
theorem As6 {v:Value} {d:D} (h:dOf v=some d):Rd S w ρ v d:=by
 unfold dOf at h
 cases hb:v.oneCell' with
 | true=>rw [hb] at h;simp at h;subst h;exact .p (.v v hb)
 | false=>rw [hb] at h;simp at h
theorem Hw:∀ {l:List Value} {ds:List D},Eg l=some ds->Ba (Rd S w ρ) l ds
 | [],ds,h=>by simp [Eg] at h;subst h;trivial
 | v::r,ds,h=>by
  simp only [Eg] at h
  split at h
  ·rename_i d ds' h1 h2
   simp at h;subst h
   exact⟨As6 h1,Hw h2⟩
  ·cases h
theorem A0t {v:Value} {av:AV} (h:Mt v=some av):RdA S w ρ v av:=by
 unfold Mt at h
 split at h
 ·rename_i cs
  cases hd:Eg cs.toList with
  | none=>rw [hd] at h;cases h
  | some ds=>
   rw [hd] at h;simp at h;subst h
   have:=RdA.agg (S:=S) (w:=w) (ρ:=ρ) (Hw (S:=S) (w:=w) (ρ:=ρ) hd)
   simpa using this
 ·cases h
 ·cases hd:dOf v with
  | none=>rw [hd] at h;cases h
  | some d=>rw [hd] at h;simp at h;subst h;exact .d (As6 hd)
theorem Bw (hL:B_ S w ρ a L) (hp:pt a cur) {x:Operand} {av:AV} (h:By L cur x=some av):RdA S w ρ (a.eval x) av:=by
 unfold By at h
 split at h
 ·exact A0t h
 ·rename_i t
  split at h
  ·rename_i e he
   obtain⟨hm,ht⟩:=Co he
   cases hb:Ev e.p cur with
   | false=>rw [hb] at h;simp at h
   | true=>
    rw [hb] at h;simp at h;subst h
    obtain⟨v,hv,hr⟩:=(hL e hm).1 (Pw hb hp)
    rw [ht] at hv
    have:a.eval (.tmp t)=v:=by simp [Act.eval,Array.getD_eq_getD_getElem?,hv]
    rw [this];exact hr
  ·cases h
 ·simp at h;subst h
  exact .d (.fn (xs:=[]) (cs:=[]) rfl rfl (by simp) (by simp))
 ·cases h
theorem Dz (hL:B_ S w ρ a L) (hp:pt a cur):∀ {l:List Operand} {avs:List AV},Dc L cur l=some avs->Ba (RdA S w ρ) (l.map a.eval) avs
 | [],avs,h=>by simp [Dc] at h;subst h;trivial
 | x::r,avs,h=>by
  simp only [Dc] at h
  split at h
  ·rename_i v l h1 h2
   simp at h;subst h
   exact⟨Bw hL hp h1,Dz hL hp h2⟩
  ·cases h
theorem Bp (hL:B_ S w ρ a L) (hp:pt a cur) {x:Operand} {v:Value} (h:(By L cur x).bind Cn=some v):a.eval x=v:=by
 cases hx:By L cur x with
 | none=>rw [hx] at h;cases h
 | some av=>
  rw [hx] at h
  simp only [ac] at h
  unfold Cn at h
  split at h
  ·simp at h;subst h;exact (Bw hL hp hx).exact_inv
  ·cases h
theorem Sl (hL:B_ S w ρ a L) (hp:pt a cur) {x:Operand} {b:Bool} (h:(By L cur x).bind Jf=some b):a.eval x = .bool b:=by
 cases hx:By L cur x with
 | none=>rw [hx] at h;cases h
 | some av=>
  rw [hx] at h
  simp only [ac] at h
  unfold Jf at h
  split at h
  ·simp at h;subst h;exact (Bw hL hp hx).exact_inv
  ·cases h
theorem Lg {v:Value} {av:AV} {ds:List D} (hr:RdA S w ρ v av) (h:Gp av=some ds):Ba (Rd S w ρ) v.cells.toList ds:=by
 cases av with
 | d x=>
  simp [Gp] at h;subst h
  have hx:=hr.d_inv
  have h1:=hx.one
  have:v.cells = #[v]:=by cases v <;> first | rfl | simp [Value.oneCell'] at h1
  rw [this]
  exact⟨hx,trivial⟩
 | agg ds'=>
  simp [Gp] at h;subst h
  obtain⟨vs,rfl,h2⟩:=hr.agg_inv
  simpa [Value.cells] using h2
 | tup l=>simp [Gp] at h
theorem Dr {v:Value} (h:v.oneCell'=true):RdA S w ρ v (ofV v):=.d (.p (.v v h))
theorem Nb {t:TypeId} {d:TypeDesc} (h:P.underlying t=some d):(isAgg t).run P w = .ok (Mk d) w:=by
 cases d <;> simp [isAgg,run_underlying h,Mk]
theorem B3 {t:TypeId} {n:Nat} (h:Bt P t=some n):(sizeOf t).run P w = .ok n w:=by
 unfold Bt at h
 cases hi:P.info? t with
 | none=>rw [hi] at h;cases h
 | some i=>
  rw [hi] at h;simp at h
  simp [sizeOf,typeInfo,hi,h]
theorem Eu {t:TypeId} {z:Value} (h:Dh P t=some z):(zeroValue t).run P w = .ok z w:=by
 unfold Dh at h
 cases hi:P.info? t with
 | none=>rw [hi] at h;cases h
 | some i=>
  rw [hi] at h;simp at h
  simp [zeroValue,typeInfo,hi,h]
theorem Fp {t : TypeId} {ad : Addr} {ds : List D} {av : AV} (h : Gx P t ds = some av)
  (hc:∀ (j:Nat) d,ds[j]? = some d->∃ x,w.cell? (ad.add j)=some x/\Rd S w ρ x d) :
  ∃ v,(loadVar t ad).run P w = .ok v w/\RdA S w ρ v av:=by
 unfold Gx at h
 cases hu:P.underlying t with
 | none=>simp [Pf,hu] at h
 | some td =>
  have ha:Pf P t=some (Mk td):=by simp [Pf,hu]
  rw [ha] at h
  cases hb:Mk td with
  | true=>
   rw [hb] at h
   split at h
   ·rename_i n hn hsz
    cases hl:Nat.beq ds.length n with
    | false=>rw [hl] at h;simp at h
    | true=>
     rw [hl] at h;simp at h;subst h
     have hlen:ds.length=n:=ak hl
     have hxs:∃ xs:List Value,xs.length=ds.length/\∀ (j:Nat) x,xs[j]? = some x->w.cell? (ad.add j)=some x/\∀ d,ds[j]? = some d->Rd S w ρ x d:=by
      refine⟨(List.range ds.length).map λ j=>(w.cell? (ad.add j)).getD undef,by simp,λ j x hx=>?_⟩
      rw [aw] at hx
      cases hj:(List.range ds.length)[j]? with
      | none=>rw [hj] at hx;cases hx
      | some k=>
       rw [hj] at hx
       have hk:j<ds.length/\k=j:=by
        obtain⟨h1,h2⟩:=aa.1 hj
        simp at h1 h2;exact⟨h1,h2.symm⟩
       obtain⟨hk1,rfl⟩:=hk
       obtain⟨y,hy,hR⟩:=hc k ds[k] (ag hk1)
       simp [hy] at hx;subst hx
       refine⟨hy,λ d hd=>?_⟩
       rw [ag hk1] at hd;cases hd;exact hR
     obtain⟨xs,hxl,hx⟩:=hxs
     have hlc:=run_loadCells_list (P:=P) w ad xs (λ j v hv=>(hx j v hv).1)
     refine⟨.agg xs.toArray,?_,.agg (d3 hxl λ j x d h1 h2=>(hx j x h1).2 d h2)⟩
     simp [loadVar,Nb hu,hb,B3 hsz,←hlen,←hxl,hlc]
   all_goals simp_all
  | false=>
   rw [hb] at h
   split at h
   ·simp_all
   ·split at h
    ·rename_i d
     simp at h;subst h
     obtain⟨x,hx,hR⟩:=hc 0 d rfl
     rw [Iy] at hx
     refine⟨x,?_,.d hR⟩
     simp [loadVar,Nb hu,hb,hx]
    ·cases h
   ·cases h
end
end Go.SL
