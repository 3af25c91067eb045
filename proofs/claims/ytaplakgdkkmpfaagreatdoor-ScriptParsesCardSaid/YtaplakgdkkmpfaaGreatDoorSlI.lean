import Derived.Test.YtaplakgdkkmpfaaGreatDoorSlH
namespace Go.SL
section
variable {P:Program} {C:Ctx} {S S':Nat->Prop} {w w':World} {ρ ρ':List Value} {R:List Res} {L:List Ent} {cur:A6} {a:Act}
theorem Bp (w:World) (o:Obj) (b:Nat) (h:b<w.heap.size):(w.alloc o).heap[b]? = w.heap[b]?:=Go.RowKit.Below.heap_alloc w o b h
theorem Ev (w:World) (o:Obj):(w.alloc o).heap[w.heap.size]? = some o:=Go.heap_alloc_new w o
structure Bw (C:Ctx) (S:Nat->Prop) (w:World) (ρ:List Value) (R2:List Res) (v:Value) (av:AV) (S':Nat->Prop) (w':World) (ρ':List Value):Prop where
 inv:Inv C S' w' ρ' R2
 sub:∀ b,S b->S' b
 same:∀ b,S b->w'.heap[b]? = w.heap[b]?
 pre:Pre ρ ρ'
 rd:RdA S' w' ρ' v av
theorem Inv.newBox (hI:Inv C S w ρ R) {t:TypeId} {vs:Array Value} {cells:List D} (hc:Ae (Rd S w ρ) vs.toList cells) :
  Bw C S w ρ (R++[.box t cells]) (.pointer (some ⟨w.heap.size,0,none⟩)) (.d (.o R.length 0)) S (w.alloc (.cells vs t)) (ρ++[.pointer (some ⟨w.heap.size,0,none⟩)]):=by
 have hw:∀ b,S b->(w.alloc (.cells vs t)).heap[b]? = w.heap[b]?:=λ b hb=>Bp _ _ _ (hI.sup b hb).1
 refine⟨hI.push _ _ (λ b hb=>Bp _ _ _ hb) (by simp) rfl rfl rfl ?_ ?_,λ _ h=>h,hw,Pre.append _ _,.d (.o ?_)⟩
 ·exact .inr ⟨_,vs,rfl,Ev _ _,hc.mono λ _ _ h=>h.mono (λ _ h=>h) hw (Pre.append _ _)⟩
 ·intro b hb
  simp [Res.foot] at hb;subst hb
  simp
 ·rw [←hI.len];simp
theorem Ff (g o:Nat) (t:TypeId):∀ (vs:List Value) (i:Nat) (cur:Array Value) (w:World),Blk w g cur t->o+i+vs.length<=cur.size->(∀ v∈vs,v.oneCell'=true) ->
  (storeCells ⟨g,o,none⟩ vs i).run P w = .ok () (w.setRow g (cur.toList.take (o+i)++vs++cur.toList.drop (o+i+vs.length)).toArray)
 | [],i,cur,w,⟨fz,hg,_⟩,_,_=>by
  simp only [storeCells,List.append_nil,aZ,bf,List.take_append_drop,Array.toArray_toList]
  rw [setRow_self w g cur t fz hg]
  rfl
 | v::rest,i,cur,w,⟨fz,hg,hfz⟩,hl,h1=>by
  have hi:o+i<cur.size:=by simp at hl;omega
  have hadd:(⟨g,o,none⟩:Addr).add i=⟨g,o+i,none⟩:=by unfold Addr.add;split <;> simp_all
  have hcell:w.cell? ⟨g,o+i,none⟩=some cur[o+i]:=by simp [World.cell?,hg,hi]
  have hfro:w.frozen? ⟨g,o+i,none⟩=false:=by
   obtain⟨lo,hi'⟩:=fz
   simp only [World.frozen?,hg,Bool.and_eq_false_iff,cS]
   simp only at hfz
   omega
  have hst:(store ((⟨g,o,none⟩:Addr).add i) v).run P w = .ok () (w.setRow g (cur.setIfInBounds (o+i) v)):=by
   rw [hadd,run_store P w _ v _ (h1 v (by simp)),hcell]
   simp [hfro,setCell_eq_setRow w g (o+i) cur t fz v hg]
  have ih:=Ff g o t rest (i+1) (cur.setIfInBounds (o+i) v) (w.setRow g (cur.setIfInBounds (o+i) v)) (Blk.put ⟨fz,hg,hfz⟩ (by simp)) (by simp at hl ⊢;omega) (λ x hx=>h1 x (by simp [hx]))
  simp only [storeCells,Sem.run_bind,hst,Result.andThen_ok,ih,setRow_setRow]
  congr 3
  have e:=list_seg_step cur.toList (o+i) v rest (by simp at hl ⊢;omega)
  simpa [Array.toList_setIfInBounds,Nat.add_assoc] using e
theorem Ep {g o:Nat} {t:TypeId} {vs:List Value} {cur:Array Value} (h:Blk w g cur t) (hl:o+vs.length<=cur.size) (h1:∀ v,v∈vs->v.oneCell'=true) :
  (storeCells ⟨g,o,none⟩ vs).run P w = .ok () (w.setRow g (cur.toList.take o++vs++cur.toList.drop (o+vs.length)).toArray):=by
 have:=Ff (P:=P) g o t vs 0 cur w h (by simpa using hl) h1
 simpa using this
theorem Z_ {vs:List Value} {ds:List D} (h:Ae (Rd S w ρ) vs ds):∀ v,v∈vs->v.oneCell'=true:=by
 induction vs generalizing ds with
 | nil=>simp
 | cons x xs ih=>cases ds with
  | nil=>exact h.elim
  | cons d ds=>
   intro v hv
   rcases ag.1 hv with rfl | hv
   ·exact h.1.one
   ·exact ih h.2 v hv
theorem Fu {t:TypeId} {v:Value} {n g o:Nat} {u:TypeId} {cur:Array Value} (hn:Aj P t=some n) (hv:v.cells.size=n) (h:Blk w g cur u) (hl:o+n<=cur.size)
  (h1:∀ x,x∈v.cells.toList->x.oneCell'=true) :
  (storeVar t ⟨g,o,none⟩ v).run P w = .ok () (w.setRow g (cur.toList.take o++v.cells.toList++cur.toList.drop (o+v.cells.toList.length)).toArray):=by
 have:=Ep (P:=P) (w:=w) (g:=g) (o:=o) (t:=u) (vs:=v.cells.toList) (cur:=cur) h (by simpa [hv] using hl) h1
 simp only [storeVar,Sem.run_bind,Ar hn,Result.andThen_ok]
 rw [if_neg (by simpa using hv)]
 exact this
theorem Inv.store (hI:Inv C S w ρ R) {i off n b:Nat} {t u:TypeId} {cells ds:List D} {v:Value} (hi:R[i]? = some (.box u cells)) (hρ:ρ[i]? = some (.pointer (some ⟨b,0,none⟩)))
  (hv:Ae (Rd S w ρ) v.cells.toList ds) (hn:Aj P t=some n) (hl:ds.length=n) (ho:off+n<=cells.length) :
  ∃ w',(storeVar t ⟨b,off,none⟩ v).run P w = .ok () w'/\Inv C S w' ρ (R.set i (.box u (Gk cells off ds)))/\(∀ k,S k->w'.heap[k]? = w.heap[k]?):=by
 obtain⟨vs,h1,h2⟩:=Ph hI hi hρ
 have hsz:v.cells.size=n:=by have:=hv.length;simpa [hl] using this
 have hcl:vs.size=cells.length:=by have:=h2.length;simpa using this
 refine⟨_,Fu hn hsz (.of h1) (by omega) (Z_ hv),?_,?_⟩
 ·have hS:∀ k,k≠b->(w.setRow b (vs.toList.take off++v.cells.toList++vs.toList.drop (off+v.cells.toList.length)).toArray).heap[k]? = w.heap[k]?:=λ k hk=>Au _ _ _ _ hk
  have ob:=hI.own i _ _ b hi hρ rfl
  refine hI.put hi hρ (b:=b) rfl (λ k hk=>by simp [Res.foot] at hk;exact hk.symm) hS (by simp) rfl rfl rfl ?_
  refine .inr ⟨b,_,rfl,Ea _ _ _ _ _ _ h1,?_⟩
  have hm:∀ x d,Rd S w ρ x d->Rd S (w.setRow b (vs.toList.take off++v.cells.toList++vs.toList.drop (off+v.cells.toList.length)).toArray) ρ x d:=λ x d h=>
   h.mono (λ _ h=>h) (λ k hk=>hS k (λ e=>ob.1 (e ▸ hk))) (Pre.refl _)
  unfold Gk
  have hd:Ae (Rd S w ρ) (vs.toList.drop (off+v.cells.toList.length)) (cells.drop (off+ds.length)):=by
   rw [hv.length]
   exact h2.drop _
  have:=((h2.take off).append (hv.append hd)).mono hm
  simpa using this
 ·intro k hk
  exact Au _ _ _ _ (λ e=>(hI.own i _ _ b hi hρ rfl).1 (e ▸ hk))
def F3 (S:Nat->Prop) (ρ:List Value) (R:List Res) (b:Nat):Prop:=S b\/Gw ρ R b
theorem Inv.rho (hI:Inv C S w ρ R) {i:Nat} {r:Res} (h:R[i]? = some r):∃ v,ρ[i]? = some v:=by
 have hl:i<ρ.length:=by rw [hI.len];exact (aa.1 h).1
 exact⟨_,am hl⟩
theorem Oq (hI:Inv C S w ρ R) {v:Value} {d:D} {x:Pd} (h:Rd S w ρ v d) (e:Em R d=some x):RdP (F3 S ρ R) w v x:=by
 unfold Em at e
 split at e
 ·simp at e;subst e
  cases h with | p h=>exact h.mono (λ _ h=>.inl h) (λ _ _=>rfl)
 ·rename_i i
  split at e
  ·rename_i t size rows hi
   simp at e;subst e
   cases h with
   | os h h1=>
    have hk:=Res.ok0.frozen ((hI.ok i _ v hi h).live h1)
    refine hk.mono (λ b hb=>?_) (λ _ _=>rfl)
    rcases hb with hb | hb
    ·exact .inl hb
    ·exact .inr ⟨i,_,v,hi,h,hb⟩
  ·rename_i t size rows hi
   simp at e;subst e
   cases h with
   | os h h1=>
    have hk:=zOk.frozen (S:=S) ((hI.ok i _ v hi h).live h1)
    refine hk.mono (λ b hb=>?_) (λ _ _=>rfl)
    rcases hb with hb | hb
    ·exact .inl hb
    ·exact .inr ⟨i,_,v,hi,h,hb⟩
  ·cases e
 ·cases e
theorem Mp (hI:Inv C S w ρ R):∀ {vs:List Value} {ds:List D} {ps:List Pd},Ae (Rd S w ρ) vs ds->Da R ds=some ps->Ae (RdP (F3 S ρ R) w) vs ps
 | [],[],ps,_,e=>by simp [Da] at e;subst e;trivial
 | v::vs,d::ds,ps,h,e=>by
  simp only [Da] at e
  split at e
  ·rename_i x l e1 e2
   simp at e;subst e
   exact⟨Oq hI h.1 e1,Mp hI h.2 e2⟩
  ·cases e
 | [],_::_,_,h,_=>h.elim
 | _::_,[],_,h,_=>h.elim
theorem Om {rw:List Pd} {ds es:List D} (h:D.viewL R rw ds=some es):es.length=ds.length/\∀ (j:Nat) e,es[j]? = some e->∃ d,ds[j]? = some d/\d.view R rw=some e:=by
 induction ds generalizing es with
 | nil=>simp [D.viewL] at h;subst h;simp
 | cons d ds ih=>
  simp only [D.viewL] at h
  split at h
  ·rename_i d' r' h1 h2
   simp at h;subst h
   obtain⟨g1,g2⟩:=ih h2
   refine⟨by simp [g1],λ j e hj=>?_⟩
   cases j with
   | zero=>simp at hj;subst hj;exact⟨d,rfl,h1⟩
   | succ j=>simp at hj ⊢;exact g2 j e hj
  ·cases h
def U6 (R:List Res) (rw:List Pd) (l:List (Nat×Nat)):Prop:=∀ g k s tys rows,(g,k)∈l->R[g]? = some (.gh s tys rows none)->rows[k]? = some rw
theorem Kw {d:D}:∀ {l:List D},d∈l->∀ p,p∈d.ois->p∈cd l
 | [],h,_,_=>by cases h
 | a::r,h,p,hp=>by
  simp only [cd]
  rcases ag.1 h with rfl | h
  ·exact bd _ hp
  ·exact be _ (Kw h p hp)
theorem Sm (hI:Inv C S w ρ R) {rw:List Pd} {v:Value} {d:D} (h:Rd S w ρ v d):∀ e,U6 R rw d.ois->d.view R rw=some e->Rd (F3 S ρ R) w [] v e:=by
 have hS:∀ b,S b->F3 S ρ R b:=λ _ h=>.inl h
 induction h with
 | p h=>intro e _ he;simp [D.view] at he;subst he;exact .p (h.mono hS λ _ _=>rfl)
 | ip h=>intro e _ he;simp [D.view] at he;subst he;exact .ip (h.mono hS λ _ _=>rfl)
 | @os i v h h1=>
  intro e _ he
  have this:∀ x,Em R (.os i)=some x->RdP (F3 S ρ R) w v x:=λ x hx=>Oq (d:=.os i) hI (.os h h1) hx
  simp only [D.view] at he
  split at he
  ·rename_i t size rows hi
   simp at he;subst he
   exact .p (this _ (by simp [Em,hi]))
  ·rename_i t size rows hi
   simp at he;subst he
   exact .p (this _ (by simp [Em,hi]))
  ·cases he
 | @o i b off h=>
  intro e _ he
  simp only [D.view] at he
  split at he
  ·rename_i t cells hi
   split at he
   ·rename_i ps hp
    simp at he;subst he
    rcases (hI.ok i _ _ hi h).live rfl with⟨b',vs,e1,hb,hc⟩
    cases e1
    have hv:=Mp hI hc hp
    refine .ip λ j d hj=>?_
    rw [aA] at hj
    obtain⟨x,hx,hr⟩:=hv.get hj
    refine⟨x,.inr ⟨i,_,_,hi,h,rfl⟩,?_,hr⟩
    rw [A3,E_ hb]
    simpa using hx
   ·cases he
  ·cases he
 | oe h=>intro e _ he;simp [D.view] at he
 | any h1=>intro e _ he;simp [D.view] at he;subst he;exact .any h1
 | nq h=>intro e _ he;simp [D.view] at he;subst he;exact .nq h
 | @osb i lo n size q a len cap h hl hc hq hq2=>
  intro e _ he
  simp only [D.view] at he
  split at he
  ·rename_i t s rows hi
   cases hb:Nat.beq s size with
   | false=>rw [hb] at he;simp at he
   | true=>
    rw [hb] at he
    simp at he;subst he
    have:=ac hb
    subst this
    have hk:=(hI.ok i _ _ hi h).live rfl
    have hz:∀ row,row∈rows->row.length=s:=by
     rcases hk with⟨_,h0⟩ | ⟨b,o,cp,vs,_,_,_,_,_,h0,_⟩
     ·subst h0;simp
     ·exact h0
    have hF:=(Res.ok0.frozen (ρ:=ρ) hk).mono (S':=F3 S ρ R) (λ b hb=>by
     rcases hb with hb | hb
     ·exact .inl hb
     ·exact .inr ⟨i,_,_,hi,h,hb⟩) (λ _ _=>rfl)
    have hc:=RdP.cut hF (l:=lo) (h:=lo+n) (by omega) hl hz
    rw [show (lo+n)-lo=n from by omega,List.drop_take,show (lo+n)-lo=n from by omega] at hc
    by_cases hlc:lo<cap
    ·rw [if_neg (by omega)] at hc
     rw [hq2 hlc]
     exact .p hc
    ·have hlc:cap=lo:=by omega
     subst hlc
     rw [if_pos rfl] at hc
     have hn0:n=0:=by
      obtain⟨_,_,hsf,hle,_⟩:=hF.slice_form
      cases hsf;omega
     subst hn0
     simp only [List.take_zero]
     exact .p (.s _ ⟨0,0,none⟩ _ 0 [] (λ _ _=>undef) (ba _) (by simp) (λ _=>by simp) (by simp) (by simp) (by simp))
  ·cases he
 | @oi i g k size off f xs cs v h hx h1=>
  intro e hrw he
  simp only [D.view] at he
  split at he
  ·rename_i s tys rows hg
   cases hb:(Nat.beq s size&&Nat.blt off s) with
   | false=>rw [hb] at he;simp at he
   | true=>
    rw [hb] at he
    simp only [cond_true] at he
    simp only [af] at hb
    have:=ac hb.1
    subst this
    split at he
    ·rename_i r hr
     simp at he;subst he
     have hrow:=hrw g k s tys rows (by simp [D.ois]) hg
     obtain⟨f',xs',cs',e1,k1,k2,k3,k4⟩:=(hI.ok g _ _ hg h).live rfl
     cases e1
     obtain⟨x,hx',_,hg2⟩:=k3 k rw hrow off _ hr
     rw [hx] at hx';cases hx'
     have hno:¬C2 s none (k*s+off):=by rintro⟨p,hp,_⟩;cases hp
     obtain⟨e2,s2,_,hsl⟩:=hg2 hno
     have hF:=Res.ok0.frozen (ρ:=ρ) (show (Res.sl e2 s2 r).ok0 S w ρ v from hsl)
     refine .p (hF.mono (λ b hb=>?_) (λ _ _=>rfl))
     rcases hb with hb | hb
     ·exact .inl hb
     ·exact .inr ⟨g,_,_,hg,h,⟨_,v,hx,hno,hb⟩⟩
    ·cases he
  ·cases he
 | fn hl hm hx hc ih1 ih2=>
  intro e hrw he
  simp only [D.view] at he
  split at he
  ·rename_i a' b' h1 h2
   simp at he;subst he
   obtain⟨g1,g2⟩:=Om h1
   obtain⟨g3,g4⟩:=Om h2
   refine .fn (by rw [hl,g1]) (by rw [hm,g3]) (λ j x d hxj hd=>?_) (λ j x d hxj hd=>?_)
   ·obtain⟨d0,k1,k2⟩:=g2 j d hd
    exact ih1 j x d0 hxj k1 d (λ g k s tys rows hm=>hrw g k s tys rows (by simp only [D.ois];exact bd _ (Kw (aq k1) _ hm))) k2
   ·obtain⟨d0,k1,k2⟩:=g4 j d hd
    exact ih2 j x d0 hxj k1 d (λ g k s tys rows hm=>hrw g k s tys rows (by simp only [D.ois];exact be _ (Kw (aq k1) _ hm))) k2
  ·cases he
theorem X8 (hI:Inv C S w ρ R) {rw:List Pd} {v:Value} {x y:AV} (h:RdA S w ρ v x) (hrw:U6 R rw x.ois) (e:x.view R rw=some y):RdA (F3 S ρ R) w [] v y:=by
 cases h with
 | d h=>
  simp only [AV.view] at e
  split at e
  ·rename_i d' hd
   simp at e;subst e
   exact .d (Sm hI h _ hrw hd)
  ·cases e
 | agg h=>
  simp only [AV.view] at e
  split at e
  ·rename_i es hes
   simp at e;subst e
   obtain⟨g1,g2⟩:=Om hes
   refine .agg (c7 (by rw [h.length,g1]) λ j x d hx hd=>?_)
   obtain⟨d0,k1,k2⟩:=g2 j d hd
   exact Sm hI (h.both hx k1) d (λ g k s tys rows hm=>hrw g k s tys rows (Kw (aq k1) _ hm)) k2
  ·cases e
 | tup=>simp [AV.view] at e
theorem Nw (hI:Inv C S w ρ R) {rw:List Pd}:∀ {vs:List Value} {xs ys:List AV},Ae (RdA S w ρ) vs xs->U6 R rw (oisL xs)->AV.viewL R rw xs=some ys->Ae (RdA (F3 S ρ R) w []) vs ys
 | [],[],ys,_,_,e=>by simp [AV.viewL] at e;subst e;trivial
 | v::vs,d::ds,ys,h,hrw,e=>by
  simp only [AV.viewL] at e
  split at e
  ·rename_i x l e1 e2
   simp at e;subst e
   exact⟨X8 hI h.1 (λ g k s tys rows hm=>hrw g k s tys rows (by simp only [oisL];exact bd _ hm)) e1,Nw hI h.2 (λ g k s tys rows hm=>hrw g k s tys rows (by simp only [oisL];exact be _ hm)) e2⟩
  ·cases e
 | [],_::_,_,h,_,_=>h.elim
 | _::_,[],_,h,_,_=>h.elim
theorem O9 {d:D}:d.norm.ois=d.ois:=by unfold D.norm;split <;> rfl
theorem Ni:∀ {l:List D},cd (l.map D.norm)=cd l
 | []=>rfl
 | d::r=>by simp only [aJ,cd,O9,Ni]
theorem Yj {x:AV}:x.norm.ois=x.ois:=by
 cases x with
 | d x=>exact O9
 | agg l=>exact Ni
 | tup l=>rfl
theorem Jy:∀ {l:List AV},oisL (l.map AV.norm)=oisL l
 | []=>rfl
 | d::r=>by simp only [aJ,oisL,Yj,Jy]
theorem Rd.flat {v:Value} {d:D} (h:Rd S w ρ v d) (e:d.flat=true):Rd S' w' ρ' v d:=by
 unfold D.flat at e
 split at e
 ·cases h with | p h=>cases h with | v _ h=>exact .p (.v _ h)
 ·cases e
theorem O5:∀ {l:List AV},cx l=true->∀ {j:Nat} {a:AV},l[j]? = some a->a.flat=true
 | [],_,j,a,h=>by simp at h
 | x::l,e,j,a,h=>by
  simp only [cx,af] at e
  cases j with
  | zero=>simp at h;subst h;exact e.1
  | succ j=>simp at h;exact O5 e.2 h
theorem RdA.flat {v:Value} {x:AV} (h:RdA S w ρ v x):x.flat=true->RdA S' w' ρ' v x:=by
 induction h with
 | d h=>intro e;simp only [AV.flat] at e;exact .d (h.flat e)
 | agg h=>
  intro e
  simp only [AV.flat,aM] at e
  exact .agg (c7 h.length λ j x d hx hd=>(h.both hx hd).flat (e d (aq hd)))
 | tup hl _ ih=>
  intro e
  simp only [AV.flat] at e
  exact .tup hl λ j x a hx ha=>ih j x a hx ha (O5 e ha)
theorem W8 (hI:Inv C S w ρ R) {args:List AV} {vs:List Value} (hv:Ae (RdA S w ρ) vs args) {f:FuncId} {c:Cl} {out:Out} (h:Cu R args f c=some out)
  (hk:∀ x,out.c=some x->x.ok P) :
  C9 P f/\Calls P f vs.toArray w λ e w'=>∃ v S' ρ',e = .returned v/\Bw C S w ρ out.R v out.v S' w' ρ':=by
 unfold Cu at h
 split at h
 ·rename_i f' q1 res q2 q3 rw'
  cases hb:(Nat.beq f f'&&res.flat) with
  | false=>rw [hb] at h;simp at h
  | true=>
   rw [hb] at h
   simp only [cond_true] at h
   simp only [af] at hb
   obtain⟨args',rw2,rows,kk,e1,hrw,rfl⟩:∃ args' rw2 rows kk,AV.viewL R rw2 (args.map AV.norm)=some args'/\(rows[kk]? = some rw2->U6 R rw2 (oisL (args.map AV.norm)))/\out=⟨res,R,some (.callB f args' res rows kk rw2)⟩:=by
    split at h
    ·rename_i hois
     split at h
     ·rename_i args' e1
      simp at h;subst h
      refine⟨args',[],[[]],0,e1,λ _ g k s tys rows hm=>?_,rfl⟩
      rw [Jy,hois] at hm
      cases hm
     ·cases h
    ·rename_i g k hois
     split at h
     ·rename_i s tys rows args' hg e1
      simp at h;subst h
      refine⟨args',rw',rows,k,e1,λ hr g' k' s' tys' rows' hm hg'=>?_,rfl⟩
      rw [Jy,hois] at hm
      simp at hm
      obtain⟨rfl,rfl⟩:=hm
      rw [hg] at hg';cases hg'
      exact hr
     ·cases h
    ·cases h
   ·obtain⟨⟨hent,hcall⟩,hrw0⟩:=hk _ rfl
    refine⟨hent,?_⟩
    have hnorm:Ae (RdA S w ρ) vs (args.map AV.norm):=hv.map_right λ _ _ h=>h.norm
    have hst:Start (F3 S ρ R) w [] []:=⟨rfl,by simp,by simp,by simp,λ b hb=>by
     rcases hb with hb | ⟨i,r,h,h1,h2,h3⟩
     ·exact (hI.sup b hb).1
     ·exact (hI.own i r h b h1 h2 h3).2.1,hI.glOk.mono (λ _ h=>.inl h) λ _ _=>rfl⟩
    refine (hcall _ w [] vs hst (Nw hI hnorm (hrw hrw0) e1)).mono λ e w' hp=>?_
    obtain⟨v,S',ρq,he,hr,hq⟩:=hp
    have hno:∀ b,¬Gw [] [] b:=by rintro b ⟨i,r,h,h1,_⟩;simp at h1
    have hsame:∀ b,b<w.heap.size->w'.heap[b]? = w.heap[b]?:=λ b hb=>hq.frm b hb (hno b)
    exact⟨v,S,ρ,he,hI.grow (λ _ h=>h) (λ _ h=>.inl h) hsame hq.size hq.os hq.tape hq.output,λ _ h=>h,λ b hb=>hsame b (hI.sup b hb).1,Pre.refl _,hr.flat hb.2⟩
 ·rename_i f' q1 q2 res R2 pi
  cases hb:(Nat.beq f f'&&Cf pi&&Nat.ble pi.length R2.length) with
  | false=>rw [hb] at h;simp at h
  | true=>
   rw [hb] at h
   simp only [cond_true] at h
   simp only [af] at hb
   obtain⟨⟨hb1,hb2⟩,hb3⟩:=hb
   have hlen:=aT hb3
   split at h
   ·rename_i args' Rp e1 e2
    split at h
    ·rename_i Rp' res' R2' e3 e4 e5
     simp at h;subst h
     obtain⟨hent,hcall⟩:=hk _ rfl
     refine⟨hent,?_⟩
     obtain⟨st,hid,_⟩:=hI.start hb2 e2 e3
     have hargs:Ae (RdA S w (A8 ρ pi)) vs args':=by
      obtain⟨g1,g2⟩:=Jb e1
      refine c7 (by rw [hv.length,g1];simp) λ j x d hx hd=>?_
      obtain⟨d0,k1,k2⟩:=g2 j d hd
      rw [al] at k1
      obtain⟨d1,k3,k4⟩:=A5 k1
      subst k4
      exact ((hv.both hx k3).norm).ren hid d k2
     refine (hcall S w (A8 ρ pi) vs st hargs).mono λ e w' hp=>?_
     obtain⟨v,S',ρq,he,hr,hq⟩:=hp
     obtain⟨b1,b2,b3,b4,b5⟩:=hI.back hb2 e2 e3 hq hlen e5
     exact⟨v,S',_,he,b1,b2,b3,b4,hr.ren b5 _ e4⟩
    ·cases h
   ·cases h
 ·cases h
theorem Kf:∀ {ds:List D} {ps:List Pd} {vs:List Value},dPs ds=some ps->Ae (Rd S w ρ) vs ds->Ae (RdP S w) vs ps
 | [],ps,vs,h,hv=>by simp [dPs] at h;subst h;cases vs with | nil=>trivial | cons=>exact hv.elim
 | d :: r, ps, vs, h, hv => by
  simp only [dPs] at h
  split at h
  ·rename_i x l h1 h2
   simp at h;subst h
   cases vs with
   | nil=>exact hv.elim
   | cons v vs=>
    refine⟨?_,Kf h2 hv.2⟩
    unfold dP at h1
    split at h1
    ·simp at h1;subst h1;exact hv.1.p_inv
    ·rename_i f
     simp at h1;subst h1
     have hfn:=hv.1
     cases hfn with
     | @fn _ xs cs _ _ hl hm hx hc=>
      have e1:xs=[]:=bz (by simpa using hl)
      have e2:cs=[]:=bz (by simpa using hm)
      subst e1;subst e2
      exact .v _ rfl
    ·cases h1
  ·cases h
theorem Fy {α:Type} (size:Nat):∀ (n:Nat) (l:List α),(Bh size n l).length=n
 | 0,_=>rfl
 | n+1,l=>by simp [Bh,Fy size n]
theorem Np {α:Type} (size:Nat):∀ (n:Nat) (l:List α) (i:Nat) (row:List α),(Bh size n l)[i]? = some row->row=(l.drop (i*size)).take size
 | 0,_,_,_,h=>by simp [Bh] at h
 | n+1,l,0,row,h=>by simp [Bh] at h;simp [h]
 | n+1,l,i+1,row,h=>by
  simp only [Bh,bY] at h
  have:=Np size n (l.drop size) i row h
  rw [this,List.drop_drop]
  congr 2
  rw [ar];omega
theorem Nn {α:Type} (size:Nat):∀ (n:Nat) (l:List α),l.length=n*size->∀ row,row∈Bh size n l->row.length=size
 | 0,_,_,row,h=>by simp [Bh] at h
 | n+1,l,hl,row,h=>by
  simp only [Bh,ag] at h
  rw [ar] at hl
  rcases h with rfl | h
  ·simp;omega
  ·exact Nn size n (l.drop size) (by simp;omega) row h
theorem V0 {e size n cap:Nat} {cs:Array Value} {ps:List Pd} (hp:Ae (RdP S w) cs.toList ps) (hl:cs.size=cap*size) (hn:n<=cap) (hm:cap<=maxLen) (hb:∀ b,S b->b<w.heap.size) :
  (Res.sl e size (Bh size n (ps.take (n*size)))).ok0 S (w.alloc (.cells cs e)) (ρ++[.slice (some ⟨w.heap.size,0,none⟩) n cap]) (.slice (some ⟨w.heap.size,0,none⟩) n cap):=by
 have hpl:ps.length=cap*size:=by rw [←hp.length];simpa using hl
 have hle:n*size<=cap*size:=aN _ hn
 refine .inr ⟨w.heap.size,0,cap,cs,by rw [Fy],.of (Ev _ _),by rw [Fy];exact hn,hm,by omega,Nn size n _ (by simp;omega),λ i row hi j d hj=>?_⟩
 have:=Np size n _ i row hi
 subst this
 rw [au] at hj
 split at hj
 ·rw [aA,au] at hj
  split at hj
  ·obtain⟨x,hx,hr⟩:=hp.get hj
   refine⟨x,by simpa [Nat.zero_add] using hx,hr.mono (λ _ h=>h) λ b h=>Bp _ _ _ (hb b h)⟩
  ·cases hj
 ·cases hj
theorem Inv.newSl (hI:Inv C S w ρ R) {e size n cap:Nat} {cs:Array Value} {ps:List Pd} (hp:Ae (RdP S w) cs.toList ps) (hl:cs.size=cap*size) (hn:n<=cap) (hm:cap<=maxLen) :
  Bw C S w ρ (R++[.sl e size (Bh size n (ps.take (n*size)))]) (.slice (some ⟨w.heap.size,0,none⟩) n cap) (.d (.os R.length)) S (w.alloc (.cells cs e)) (ρ++[.slice (some ⟨w.heap.size,0,none⟩) n cap]):=by
 have hw:∀ b,S b->(w.alloc (.cells cs e)).heap[b]? = w.heap[b]?:=λ b hb=>Bp _ _ _ (hI.sup b hb).1
 refine⟨hI.push _ _ (λ b hb=>Bp _ _ _ hb) (by simp) rfl rfl rfl (.inr (V0 hp hl hn hm λ b hb=>(hI.sup b hb).1)) ?_,λ _ h=>h,hw,Pre.append _ _,.d (.os ?_ rfl)⟩
 ·intro b hb
  simp [Res.foot] at hb;subst hb
  simp
 ·rw [←hI.len];simp
theorem Inv.newImm (hI:Inv C S w ρ R) {e size n:Nat} {cs:Array Value} {ps:List Pd} (hp:Ae (RdP S w) cs.toList ps) (hl:cs.size=n*size) (hm:n<=maxLen) :
  Bw C S w ρ R (.slice (some ⟨w.heap.size,0,none⟩) n n) (.d (.p (.s (Bh size n ps)))) (λ b=>S b\/b=w.heap.size) (w.alloc (.cells cs e)) ρ:=by
 have hpl:ps.length=n*size:=by rw [←hp.length];simpa using hl
 have hw:∀ b,S b->(w.alloc (.cells cs e)).heap[b]? = w.heap[b]?:=λ b hb=>Bp _ _ _ (hI.sup b hb).1
 have hok:=V0 (e:=e) (ρ:=ρ) (n:=n) (cap:=n) hp hl (ae _) hm (λ b hb=>(hI.sup b hb).1)
 have htake:ps.take (n*size)=ps:=bF (by omega)
 rw [htake] at hok
 have hfr:=Res.ok0.frozen hok
 refine⟨hI.grow (λ _ h=>.inl h) (λ b hb=>?_) (λ b hb=>Bp _ _ _ hb) (by simp) rfl rfl rfl,λ _ h=>.inl h,hw,Pre.refl _,.d (.p (hfr.mono (λ b hb=>?_) λ _ _=>rfl))⟩
 ·rcases hb with hb | hb
  ·exact .inl hb
  ·subst hb;exact .inr ⟨ae _,by simp⟩
 ·rcases hb with hb | hb
  ·exact .inl hb
  ·simp [Res.foot] at hb;exact .inr hb.symm
end
end Go.SL
