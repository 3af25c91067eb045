import Derived.Test.YtaplakgdkkmpfaaGreatDoorSlE
namespace Go.SL
section
variable {P:Program} {C:Ctx} {S:Nat->Prop} {w:World} {ρ:List Value} {R:List Res} {L:List Ent} {cur:A6} {a:Act}
theorem Ah {α β:Type} {x:Option α} {f:α->Option β} {y:β} (h:x.bind f=some y):∃ z,x=some z/\f z=some y:=by
 cases x with
 | none=>cases h
 | some z=>exact⟨z,rfl,h⟩
theorem A5 {α β:Type} {x:Option α} {f:α->β} {y:β} (h:x.map f=some y):∃ z,x=some z/\f z=y:=by
 cases x with
 | none=>cases h
 | some z=>exact⟨z,rfl,by simpa using h⟩
theorem Wy (hL : Az S w ρ a L) (hp : pt a cur) {k x y : Operand} {v : AV} (h : Rf L cur k x y = some v) :
  ∃ b,a.eval k = .bool b/\RdA S w ρ (if b then a.eval x else a.eval y) v:=by
 unfold Rf at h
 split at h
 ·rename_i t
  split at h
  ·rename_i b hb
   have hk:=J3 hL hp hb
   refine⟨b,hk,?_⟩
   have hslot:a.tmps[t]? = some (.bool b):=by
    simp only [Act.eval,aV] at hk
    cases hs:a.tmps[t]? with
    | none=>rw [hs] at hk;simp [undef] at hk
    | some z=>rw [hs] at hk;simp at hk;rw [hk]
   cases hx:N7 x with
   | true=>
    rw [hx] at h
    simp only [cond_true] at h
    have hxe:a.eval x = .bool true:=by
     unfold N7 at hx
     split at hx
     ·subst hx;rfl
     ·cases hx
    split at h
    ·rename_i z hz
     simp at h;subst h
     cases b with
     | true=>simp [hxe];exact Bm rfl
     | false=>
      have hp':pt a (cur++[(t,false)]):=by
       intro g hg
       rcases az.1 hg with hg | hg
       ·exact hp g hg
       ·simp at hg;subst hg;exact hslot
      have:=J3 hL hp' hz
      simp [this];exact Bm rfl
    ·cases h
   | false=>
    rw [hx] at h
    simp only [cond_false] at h
    cases hy:Mb y with
    | false=>rw [hy] at h;simp at h
    | true=>
     rw [hy] at h
     simp only [cond_true] at h
     have hye:a.eval y = .bool false:=by
      unfold Mb at hy
      split at hy
      ·rename_i q;cases q <;> simp at hy ⊢;rfl
      ·cases hy
     split at h
     ·rename_i z hz
      simp at h;subst h
      cases b with
      | false=>simp [hye];exact Bm rfl
      | true=>
       have hp':pt a (cur++[(t,true)]):=by
        intro g hg
        rcases az.1 hg with hg | hg
        ·exact hp g hg
        ·simp at hg;subst hg;exact hslot
       have:=J3 hL hp' hz
       simp [this];exact Bm rfl
     ·cases h
  ·cases h
 ·cases h
theorem K0 (places:Nat->Option (Nat×Nat)) (pl:List (Nat×Nat)) (hpl:∀ (i:Nat) x,pl[i]? = some x->places i=some x) :
  ∀ (ps:List (Nat×Value)) (qs:List (Nat×List D)) (cs:Array Value) (ds out:List D),
   Ae (λ (p:Nat×Value) (q:Nat×List D)=>p.1=q.1/\Ae (Rd S w ρ) p.2.cells.toList q.2) ps qs->Ae (Rd S w ρ) cs.toList ds->Dt pl ds qs=some out ->
   ∃ r,Instr.fill places cs ps=some r/\Ae (Rd S w ρ) r.toList out
 | [],[],cs,ds,out,_,h2,h3=>by simp [Dt] at h3;subst h3;exact⟨cs,rfl,h2⟩
 | [],_::_,_,_,_,h1,_,_=>h1.elim
 | _::_,[],_,_,_,h1,_,_=>h1.elim
 | (i, v) :: ps, (j, es) :: qs, cs, ds, out, h1, h2, h3 => by
  obtain⟨⟨e,hv⟩,h1⟩:=h1
  simp only at e;subst e
  simp only [Dt] at h3
  split at h3
  ·rename_i off size hp
   cases hb:(Nat.beq es.length size&&Nat.ble (off+es.length) ds.length) with
   | false=>rw [hb] at h3;simp at h3
   | true=>
    rw [hb] at h3
    simp only [cond_true] at h3
    rw [af] at hb
    have hl1:es.length=size:=ac hb.1
    have hl2:off+es.length<=ds.length:=aT hb.2
    have hcs:cs.size=ds.length:=by have:=h2.length;simpa using this
    have hvl:v.cells.size=es.length:=by have:=hv.length;simpa using this
    have step:∀ (l:List Value) (k:Nat) (cs:Array Value),off+k+l.length<=cs.size ->
      ((l.zipIdx k).foldl (λ cs (x:Value×Nat)=>cs.setIfInBounds (off+x.2) x.1) cs).toList=cs.toList.take (off+k)++(l++cs.toList.drop (off+k+l.length)):=by
     intro l
     induction l with
     | nil=>intro k cs _;simp
     | cons x l ih=>
      intro k cs hk
      simp only [List.zipIdx_cons,List.foldl_cons]
      simp only [ap] at hk
      rw [ih (k+1) _ (by simp;omega)]
      have hlt:off+k<cs.toList.length:=by simp;omega
      rw [Array.toList_setIfInBounds]
      rw [show off+(k+1)=off+k+1 from by omega]
      rw [List.take_succ_eq_append_getElem (by simpa using hlt)]
      rw [List.take_set_of_le (ae _)]
      rw [List.drop_set_of_lt (by omega)]
      simp only [List.getElem_set_self,aY,bq,bG,ap]
      congr 4
      omega
    have hz:=step v.cells.toList 0 cs (by simp;omega)
    simp only [bf] at hz
    obtain⟨r,hr1,hr2⟩:=K0 places pl hpl ps qs ((v.cells.zipIdx).foldl (λ cs (x:Value×Nat)=>cs.setIfInBounds (off+x.2) x.1) cs) (Gk ds off es) out h1 (by
     have e:(v.cells.zipIdx).foldl (λ cs (x:Value×Nat)=>cs.setIfInBounds (off+x.2) x.1) cs=(v.cells.toList.zipIdx).foldl (λ cs (x:Value×Nat)=>cs.setIfInBounds (off+x.2) x.1) cs:=by
      rw [←Array.foldl_toList,Array.toList_zipIdx]
     rw [e,hz]
     unfold Gk
     refine (h2.take off).append (hv.append ?_)
     have hl:v.cells.toList.length=es.length:=hv.length
     rw [hl]
     exact h2.drop _) h3
    refine⟨r,?_,hr2⟩
    simp only [Instr.fill,hpl _ _ hp]
    rw [if_neg (by simp [hvl,hl1,hcs];omega)]
    exact hr1
  ·cases h3
theorem Et (hL:Az S w ρ a L) (hp:pt a cur):∀ {l:List (Nat×Operand)} {qs:List (Nat×List D)},Ef L cur l=some qs ->
  Ae (λ (p:Nat×Value) (q:Nat×List D)=>p.1=q.1/\Ae (Rd S w ρ) p.2.cells.toList q.2) (l.map λ x=>(x.1,a.eval x.2)) qs
 | [],qs,h=>by simp [Ef] at h;subst h;trivial
 | (i,x)::r,qs,h=>by
  simp only [Ef] at h
  split at h
  ·rename_i v l h1 h2
   simp at h;subst h
   obtain⟨av,ha,hc⟩:=Ah h1
   exact⟨⟨rfl,Ga (Ak hL hp ha) hc⟩,Et hL hp h2⟩
  ·cases h
theorem Lj:∀ {l:List Field} {pl:List (Nat×Nat)},E6 P l=some pl ->
  (l.mapM λ f=>do pure (f.offset,←sizeOf f.type):Sem (List (Nat×Nat))).run P w = .ok pl w
 | [],pl,h=>by simp [E6] at h;subst h;simp
 | f::r,pl,h=>by
  simp only [E6] at h
  split at h
  ·rename_i n l h1 h2
   simp at h;subst h
   have ih:=Lj h2
   simp only [List.mapM_cons,Sem.run_bind,Sem.run_pure,Ar h1,Result.andThen_ok]
   rw [ih]
   simp
  ·cases h
theorem Jp {α β:Type} (f:α->Sem β) (xs:Array α):(xs.mapM f:Sem (Array β)).run P w=((xs.toList.mapM f:Sem (List β)).run P w).andThen λ l w'=>.ok l.toArray w':=by
 rw [Array.mapM_eq_mapM_toList]
 simp
theorem L6 {t:TypeId} {fields:Array Field} {z:Value} {pl:List (Nat×Nat)} {parts:Array (Nat×Value)} {r:Array Value} (hz:By P t=some z) (hu:P.underlying t=some (.struct fields))
  (hpl:E6 P fields.toList=some pl) (hf:Instr.fill (λ (x:Nat)=>pl[x]?) z.cells parts.toList=some r):(Instr.build t parts).run P w = .ok (.agg r) w:=by
 have:=Lj (P:=P) (w:=w) hpl
 simp only [Instr.build,Sem.run_bind,Cj hz,run_underlying hu,Result.andThen_ok,Jp,this]
 have e:(λ (x:Nat)=>(pl.toArray)[x]?)=(λ (x:Nat)=>pl[x]?):=by funext x;simp
 simp only [e,hf]
 rfl
theorem My {t e:TypeId} {n s:Nat} {z:Value} {parts:Array (Nat×Value)} {r:Array Value} (hz:By P t=some z) (hu:P.underlying t=some (.array n e)) (hs:Aj P e=some s)
  (hf:Instr.fill (λ i=>some (i*s,s)) z.cells parts.toList=some r):(Instr.build t parts).run P w = .ok (.agg r) w:=by
 simp only [Instr.build,Sem.run_bind,Cj hz,run_underlying hu,Result.andThen_ok,Ar hs,hf]
 rfl
end
end Go.SL
