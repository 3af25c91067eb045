import Derived.Test.YtaplakgdkkmpfaaGreatDoorSlI
namespace Go.SL
section
variable {P:Program} {C:Ctx} {S S':Nat->Prop} {w w':World} {ρ ρ':List Value} {R:List Res} {L:List Ent} {cur:A6} {a:Act}
theorem Hv {α:Type} (n:Nat) (l:List α):(Bt n l).length=n*l.length:=by
 induction n with
 | zero=>simp [Bt]
 | succ n ih=>simp [Bt,ih,Nat.add_mul];omega
theorem Tb {α β:Type} {Q:α->β->Prop} {xs:List α} {ds:List β} (h:Ae Q xs ds) (n:Nat):Ae Q (Bt n xs) (Bt n ds):=by
 induction n with
 | zero=>trivial
 | succ n ih=>exact h.append ih
theorem Gn (zs:Array Value) (n:Nat):((Array.range (n*zs.size)).map (λ i=>zs[i % zs.size]!)).toList=Bt n zs.toList:=by
 rw [Array.toList_map,Array.toList_range]
 induction n with
 | zero=>simp [Bt]
 | succ n ih=>
  have e:(n+1)*zs.size=zs.size+n*zs.size:=by rw [ar];omega
  rw [e,List.range_add,bO,bH]
  simp only [Bt]
  congr 1
  ·apply bp
   intro i
   rw [al]
   by_cases hi:i<zs.size
   ·rw [List.getElem?_range hi]
    simp [Nat.mod_eq_of_lt hi,hi]
   ·rw [bM (by simp;omega),bM (by simp;omega)];rfl
  ·rw [←ih]
   apply List.map_congr_left
   intro i _
   simp [Nat.add_mod_left]
theorem S8:∀ {l:List Value} {ds:List D},Cc l=some ds->ds.length=l.length:=λ h=>(Du (S:=λ _=>False) (w:=default) (ρ:=[]) h).length.symm
theorem N0 {t e:TypeId} {size len:Nat} {z:Value} {zs out:List D} {ps:List (Nat×List D)} {vs:List (Nat×Value)} (hu:P.underlying t=some (.slice e)) (hs:Aj P e=some (size+1)) (hz:By P e=some z)
  (hd:Cc z.cells.toList=some zs) (hzl:zs.length=size+1) (hle:len*(size+1)<=16777216)
  (hp:Ae (λ (p:Nat×Value) (q:Nat×List D)=>p.1=q.1/\Ae (Rd S w ρ) p.2.cells.toList q.2) vs ps)
  (hf:Dt ((List.range len).map λ i=>(i*(size+1),size+1)) (Bt len zs) ps=some out) (hin:∀ q,q∈vs->q.1<len) :
  ∃ cs:Array Value,(Instr.buildSlice t len vs.toArray).run P w = .ok (.slice (some ⟨w.heap.size,0,none⟩) len len) (w.alloc (.cells cs e))/\Ae (Rd S w ρ) cs.toList out:=by
 have hzs:z.cells.size=size+1:=by have:=S8 hd;rw [hzl] at this;simpa using this.symm
 have hbase:Ae (Rd S w ρ) ((Array.range (len*(size+1))).map (λ i=>z.cells[i % z.cells.size]!)).toList (Bt len zs):=by
  rw [←hzs,Gn z.cells]
  exact Tb (Du hd) len
 obtain⟨r,hr1,hr2⟩:=K0 (λ (i:Nat)=>((List.range len).map λ i=>(i*(size+1),size+1))[i]?) _ (λ _ _ h=>h) vs ps _ _ out hp hbase hf
 have hfill:∀ (vs:List (Nat×Value)) (cs:Array Value),(∀ q,q∈vs->q.1<len)->Instr.fill (λ i=>some (i*(size+1),size+1)) cs vs=Instr.fill (λ (i:Nat)=>((List.range len).map λ i=>(i*(size+1),size+1))[i]?) cs vs:=by
  intro vs
  induction vs with
  | nil=>intro cs _;rfl
  | cons q vs ih=>
   intro cs hq
   have h1:=hq q ak
   have e:((List.range len).map λ i=>(i*(size+1),size+1))[q.1]? = some (q.1*(size+1),size+1):=by simp [h1]
   simp only [Instr.fill]
   rw [e]
   dsimp only
   by_cases hc:(decide (q.2.cells.size≠size+1) || decide (q.1*(size+1)+q.2.cells.size>cs.size))=true
   ·rw [if_pos hc,if_pos hc]
   ·rw [if_neg hc,if_neg hc]
    exact ih _ (λ q h=>hq q (ai _ h))
 refine⟨r,?_,hr2⟩
 have hle':¬(len*(size+1)>2 ^ 24):=by simp;omega
 simp only [Instr.buildSlice,Sem.run_bind,run_underlying hu,Result.andThen_ok,Ar hs]
 rw [if_neg hle']
 by_cases h0:len*(size+1)=0
 ·rw [if_pos h0]
  simp only [Sem.run_bind,Sem.run_pure,Result.andThen_ok]
  have hcs:(Array.range (len*(size+1))).map (λ i=>(#[]:Array Value)[i % (#[]:Array Value).size]!)=(Array.range (len*(size+1))).map (λ i=>z.cells[i % z.cells.size]!):=by simp [h0]
  rw [hcs,hfill vs _ hin,hr1]
  simp [newRow]
 ·rw [if_neg h0]
  simp only [Sem.run_bind,Sem.run_pure,Result.andThen_ok,Cj hz]
  rw [hfill vs _ hin,hr1]
  simp [newRow]
theorem Ra {n:Nat} {pl:List (Nat×Nat)} (hpl:pl.length=n):∀ {ds:List D} {ps:List (Nat×List D)} {out:List D},Dt pl ds ps=some out->∀ q,q∈ps->q.1<n
 | _,[],_,_,q,hq=>by cases hq
 | ds,(i,es)::ps,out,h,q,hq=>by
  simp only [Dt] at h
  split at h
  ·rename_i off size hp
   have hi:i<n:=by rw [←hpl];exact (aa.1 hp).1
   cases hb:(Nat.beq es.length size&&Nat.ble (off+es.length) ds.length) with
   | false=>rw [hb] at h;simp at h
   | true=>
    rw [hb] at h
    simp only [cond_true] at h
    rcases ag.1 hq with rfl | hq
    ·exact hi
    ·exact Ra hpl h q hq
  ·cases h
theorem J7 {pl:List (Nat×Nat)}:∀ {ds:List D} {ps:List (Nat×List D)} {out:List D},Dt pl ds ps=some out->out.length=ds.length
 | _,[],_,h=>by simp [Dt] at h;rw [h]
 | ds,(i,es)::ps,out,h=>by
  simp only [Dt] at h
  split at h
  ·rename_i off size hp
   cases hb:(Nat.beq es.length size&&Nat.ble (off+es.length) ds.length) with
   | false=>rw [hb] at h;simp at h
   | true=>
    rw [hb] at h
    simp only [cond_true] at h
    simp only [af] at hb
    have:=aT hb.2
    rw [J7 h]
    simp [Gk];omega
  ·cases h
theorem RdP.nz {x:Value} {d:Pd} (h:RdP S w x d):RdP S w x d.nz:=by
 unfold Pd.nz
 split
 ·have:=h.v_form
  subst this
  exact .s none ⟨0,0,none⟩ 0 0 [] (λ _ _=>undef) (ae _) (by simp [maxLen]) (λ _=>rfl) (by simp) (by simp) (by simp)
 ·exact h
theorem cN {xs:List Value} {ds:List Pd} (h:Ae (RdP S w) xs ds):Ae (RdP S w) xs (ds.map Pd.nz):=h.map_right λ _ _ h=>h.nz
theorem Nf (hI:Inv C S w ρ R) {c:Cl} {t:TypeId} {len:Nat} {ps:List (Nat×List D)} {vs:List (Nat×Value)} {out:Out}
  (hp:Ae (λ (p:Nat×Value) (q:Nat×List D)=>p.1=q.1/\Ae (Rd S w ρ) p.2.cells.toList q.2) vs ps) (h:C3 P R c t len ps=some out) :
  (Ky c=false->out.R=R)/\∃ v w' S' ρ',(Instr.buildSlice t len vs.toArray).run P w = .ok v w'/\Bw C S w ρ out.R v out.v S' w' ρ':=by
 unfold C3 at h
 split at h
 ·rename_i e hu
  split at h
  ·rename_i size zs hs hz
   obtain⟨z,hz1,hz2⟩:=Ah hz
   cases hb:(Nat.beq zs.length (size+1)&&Nat.ble (len*(size+1)) 16777216) with
   | false=>rw [hb] at h;simp at h
   | true=>
    rw [hb] at h
    simp only [cond_true] at h
    simp only [af] at hb
    have hzl:=ac hb.1
    have hle:=aT hb.2
    split at h
    ·rename_i pd he
     obtain⟨ds,hf,hd⟩:=Ah he
     have hin:∀ q,q∈vs->q.1<len:=by
      intro q hq
      obtain⟨j,hj,hjq⟩:=List.getElem_of_mem hq
      have hjl:j<ps.length:=by rw [←hp.length];exact hj
      have:=hp.both (am hj) (am hjl)
      rw [hjq] at this
      rw [this.1]
      exact Ra (by simp) hf _ (List.getElem_mem hjl)
     obtain⟨cs,hrun,hcs⟩:=N0 hu hs hz1 hz2 hzl hle hp hf hin
     have hpd:=cN (Kf hd hcs)
     have hcl:cs.size=len*(size+1):=by
      have h1:=hcs.length
      have h2:=J7 hf
      rw [Hv,hzl] at h2
      simpa [h2] using h1
     have hmax:len<=maxLen:=by
      have:len<=len*(size+1):=Nat.le_mul_of_pos_right _ (by omega)
      simp [maxLen];omega
     cases ho:Ky c with
     | true=>
      rw [ho] at h
      simp at h;subst h
      refine⟨by simp,_,_,S,ρ++[.slice (some ⟨w.heap.size,0,none⟩) len len],hrun,?_⟩
      have:=hI.newSl (e:=e) (n:=len) (cap:=len) hpd hcl (ae _) hmax
      have htake:(pd.map Pd.nz).take (len*(size+1))=pd.map Pd.nz:=bF (by have:=hpd.length;simp at this ⊢;omega)
      rw [htake] at this
      exact this
     | false=>
      rw [ho] at h
      simp at h;subst h
      exact⟨λ _=>rfl,_,_,_,ρ,hrun,hI.newImm hpd hcl hmax⟩
    ·cases h
  ·cases h
 ·cases h
end
end Go.SL
