import Derived.Test.YtaplakgdkkmpfaaGreatDoorSlI
namespace Go.SL
section
variable {P:Program} {C:Ctx} {S S':Nat->Prop} {w w':World} {ρ ρ':List Value} {R:List Res} {L:List Ent} {cur:A8} {a:Act}
theorem Hy {α:Type} (n:Nat) (l:List α):(Bs n l).length=n*l.length:=by
 induction n with
 | zero=>simp [Bs]
 | succ n ih=>simp [Bs,ih,Nat.add_mul];omega
theorem Tv {α β:Type} {Q:α->β->Prop} {xs:List α} {ds:List β} (h:Af Q xs ds) (n:Nat):Af Q (Bs n xs) (Bs n ds):=by
 induction n with
 | zero=>trivial
 | succ n ih=>exact h.append ih
theorem Gz (zs:Array Value) (n:Nat):((Array.range (n*zs.size)).map (λ i=>zs[i % zs.size]!)).toList=Bs n zs.toList:=by
 rw [Array.toList_map,Array.toList_range]
 induction n with
 | zero=>simp [Bs]
 | succ n ih=>
  have e:(n+1)*zs.size=zs.size+n*zs.size:=by rw [ar];omega
  rw [e,List.range_add,bR,List.map_map]
  simp only [Bs]
  congr 1
  ·apply bC
   intro i
   rw [am]
   by_cases hi:i<zs.size
   ·rw [List.getElem?_range hi]
    simp [Nat.mod_eq_of_lt hi,hi]
   ·rw [bL (by simp;omega),bL (by simp;omega)];rfl
  ·rw [←ih]
   apply List.map_congr_left
   intro i _
   simp [Nat.add_mod_left]
theorem Ts:∀ {l:List Value} {ds:List D},Cc l=some ds->ds.length=l.length:=λ h=>(Ee (S:=λ _=>False) (w:=default) (ρ:=[]) h).length.symm
theorem N3 {t e:TypeId} {size len:Nat} {z:Value} {zs out:List D} {ps:List (Nat×List D)} {vs:List (Nat×Value)} (hu:P.underlying t=some (.slice e)) (hs:Am P e=some (size+1)) (hz:Bw P e=some z)
  (hd:Cc z.cells.toList=some zs) (hzl:zs.length=size+1) (hle:len*(size+1)<=16777216)
  (hp:Af (λ (p:Nat×Value) (q:Nat×List D)=>p.1=q.1/\Af (Rd S w ρ) p.2.cells.toList q.2) vs ps)
  (hf:Ed ((List.range len).map λ i=>(i*(size+1),size+1)) (Bs len zs) ps=some out) (hin:∀ q,q∈vs->q.1<len) :
  ∃ cs:Array Value,(Instr.buildSlice t len vs.toArray).run P w = .ok (.slice (some ⟨w.heap.size,0,none⟩) len len) (w.alloc (.cells cs e))/\Af (Rd S w ρ) cs.toList out:=by
 have hzs:z.cells.size=size+1:=by have:=Ts hd;rw [hzl] at this;simpa using this.symm
 have hbase:Af (Rd S w ρ) ((Array.range (len*(size+1))).map (λ i=>z.cells[i % z.cells.size]!)).toList (Bs len zs):=by
  rw [←hzs,Gz z.cells]
  exact Tv (Ee hd) len
 obtain⟨r,hr1,hr2⟩:=Kt (λ (i:Nat)=>((List.range len).map λ i=>(i*(size+1),size+1))[i]?) _ (λ _ _ h=>h) vs ps _ _ out hp hbase hf
 have hfill:∀ (vs:List (Nat×Value)) (cs:Array Value),(∀ q,q∈vs->q.1<len)->Instr.fill (λ i=>some (i*(size+1),size+1)) cs vs=Instr.fill (λ (i:Nat)=>((List.range len).map λ i=>(i*(size+1),size+1))[i]?) cs vs:=by
  intro vs
  induction vs with
  | nil=>intro cs _;rfl
  | cons q vs ih=>
   intro cs hq
   have h1:=hq q al
   have e:((List.range len).map λ i=>(i*(size+1),size+1))[q.1]? = some (q.1*(size+1),size+1):=by simp [h1]
   simp only [Instr.fill]
   rw [e]
   dsimp only
   by_cases hc:(decide (q.2.cells.size≠size+1) || decide (q.1*(size+1)+q.2.cells.size>cs.size))=true
   ·rw [if_pos hc,if_pos hc]
   ·rw [if_neg hc,if_neg hc]
    exact ih _ (λ q h=>hq q (aj _ h))
 refine⟨r,?_,hr2⟩
 have hle':¬(len*(size+1)>2 ^ 24):=by simp;omega
 simp only [Instr.buildSlice,Sem.run_bind,run_underlying hu,Result.andThen_ok,Aw hs]
 rw [if_neg hle']
 by_cases h0:len*(size+1)=0
 ·rw [if_pos h0]
  simp only [Sem.run_bind,Sem.run_pure,Result.andThen_ok]
  have hcs:(Array.range (len*(size+1))).map (λ i=>(#[]:Array Value)[i % (#[]:Array Value).size]!)=(Array.range (len*(size+1))).map (λ i=>z.cells[i % z.cells.size]!):=by simp [h0]
  rw [hcs,hfill vs _ hin,hr1]
  simp [newRow]
 ·rw [if_neg h0]
  simp only [Sem.run_bind,Sem.run_pure,Result.andThen_ok,Cm hz]
  rw [hfill vs _ hin,hr1]
  simp [newRow]
theorem Rm {n:Nat} {pl:List (Nat×Nat)} (hpl:pl.length=n):∀ {ds:List D} {ps:List (Nat×List D)} {out:List D},Ed pl ds ps=some out->∀ q,q∈ps->q.1<n
 | _,[],_,_,q,hq=>by cases hq
 | ds,(i,es)::ps,out,h,q,hq=>by
  simp only [Ed] at h
  split at h
  ·rename_i off size hp
   have hi:i<n:=by rw [←hpl];exact (ae.1 hp).1
   cases hb:(Nat.beq es.length size&&Nat.ble (off+es.length) ds.length) with
   | false=>rw [hb] at h;simp at h
   | true=>
    rw [hb] at h
    simp only [cond_true] at h
    rcases ag.1 hq with rfl | hq
    ·exact hi
    ·exact Rm hpl h q hq
  ·cases h
theorem Jw {pl:List (Nat×Nat)}:∀ {ds:List D} {ps:List (Nat×List D)} {out:List D},Ed pl ds ps=some out->out.length=ds.length
 | _,[],_,h=>by simp [Ed] at h;rw [h]
 | ds,(i,es)::ps,out,h=>by
  simp only [Ed] at h
  split at h
  ·rename_i off size hp
   cases hb:(Nat.beq es.length size&&Nat.ble (off+es.length) ds.length) with
   | false=>rw [hb] at h;simp at h
   | true=>
    rw [hb] at h
    simp only [cond_true] at h
    simp only [aa] at hb
    have:=aT hb.2
    rw [Jw h]
    simp [Gx];omega
  ·cases h
theorem RdP.nz {x:Value} {d:Pd} (h:RdP S w x d):RdP S w x d.nz:=by
 unfold Pd.nz
 split
 ·have:=h.v_form
  subst this
  exact .s none ⟨0,0,none⟩ 0 0 [] (λ _ _=>undef) (ai _) (by simp [maxLen]) (λ _=>rfl) (by simp) (by simp) (by simp)
 ·exact h
theorem cK {xs:List Value} {ds:List Pd} (h:Af (RdP S w) xs ds):Af (RdP S w) xs (ds.map Pd.nz):=h.map_right λ _ _ h=>h.nz
theorem Nh (hI:Inv C S w ρ R) {c:Cl} {t:TypeId} {len:Nat} {ps:List (Nat×List D)} {vs:List (Nat×Value)} {out:Out}
  (hp:Af (λ (p:Nat×Value) (q:Nat×List D)=>p.1=q.1/\Af (Rd S w ρ) p.2.cells.toList q.2) vs ps) (h:Dj P R c t len ps=some out) :
  (Kr c=false->out.R=R)/\∃ v w' S' ρ',(Instr.buildSlice t len vs.toArray).run P w = .ok v w'/\B1 C S w ρ out.R v out.v S' w' ρ':=by
 unfold Dj at h
 split at h
 ·rename_i e hu
  split at h
  ·rename_i size zs hs hz
   obtain⟨z,hz1,hz2⟩:=Ah hz
   cases hb:(Nat.beq zs.length (size+1)&&Nat.ble (len*(size+1)) 16777216) with
   | false=>rw [hb] at h;simp at h
   | true=>
    rw [hb] at h
    simp only [cond_true] at h
    simp only [aa] at hb
    have hzl:=af hb.1
    have hle:=aT hb.2
    split at h
    ·rename_i pd he
     obtain⟨ds,hf,hd⟩:=Ah he
     have hin:∀ q,q∈vs->q.1<len:=by
      intro q hq
      obtain⟨j,hj,hjq⟩:=List.getElem_of_mem hq
      have hjl:j<ps.length:=by rw [←hp.length];exact hj
      have:=hp.both (an hj) (an hjl)
      rw [hjq] at this
      rw [this.1]
      exact Rm (by simp) hf _ (List.getElem_mem hjl)
     obtain⟨cs,hrun,hcs⟩:=N3 hu hs hz1 hz2 hzl hle hp hf hin
     have hpd:=cK (J3 hd hcs)
     have hcl:cs.size=len*(size+1):=by
      have h1:=hcs.length
      have h2:=Jw hf
      rw [Hy,hzl] at h2
      simpa [h2] using h1
     have hmax:len<=maxLen:=by
      have:len<=len*(size+1):=Nat.le_mul_of_pos_right _ (by omega)
      simp [maxLen];omega
     cases ho:Kr c with
     | true=>
      rw [ho] at h
      simp at h;subst h
      refine⟨by simp,_,_,S,ρ++[.slice (some ⟨w.heap.size,0,none⟩) len len],hrun,?_⟩
      have:=hI.newSl (e:=e) (n:=len) (cap:=len) hpd hcl (ai _) hmax
      have htake:(pd.map Pd.nz).take (len*(size+1))=pd.map Pd.nz:=bY (by have:=hpd.length;simp at this ⊢;omega)
      rw [htake] at this
      exact this
     | false=>
      rw [ho] at h
      simp at h;subst h
      exact⟨λ _=>rfl,_,_,_,ρ,hrun,hI.newImm hpd hcl hmax⟩
    ·cases h
  ·cases h
 ·cases h
end
end Go.SL
