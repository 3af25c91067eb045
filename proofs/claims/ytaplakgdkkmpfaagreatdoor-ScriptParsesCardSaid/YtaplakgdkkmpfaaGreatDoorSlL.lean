import Derived.Lib.ConvBytes
import Derived.Test.YtaplakgdkkmpfaaGreatDoorSlK
namespace Go.SL
section
variable {P:Program} {C:Ctx} {S S':Nat->Prop} {w w':World} {ρ ρ':List Value} {R:List Res} {L:List Ent} {cur:A6} {a:Act}
theorem Inv.drew (hI:Inv C S w ρ R):Inv C S w.drew ρ R:=
 hI.grow (λ _ h=>h) (λ _ h=>.inl h) (λ _ _=>rfl) (ae _) rfl rfl rfl
theorem Mj {vs:List Value} {ps:List Pd} (h:Ae (RdP S w) vs ps):∀ u,u∈vs->u.oneCell'=true:=by
 induction vs generalizing ps with
 | nil=>simp
 | cons x xs ih=>cases ps with
  | nil=>exact h.elim
  | cons d ds=>
   intro v hv
   rcases ag.1 hv with rfl | hv
   ·exact h.1.one
   ·exact ih h.2 v hv
theorem Qi {e size n cap:Nat} {rows:List (List Pd)} {cs:Array Value} {xs:List Value} (hp:Ae (RdP S w) xs rows.flatten) (hu:∀ l,l∈rows->l.length=size) (hn:n=rows.length)
  (hcs:cs.toList.take (n*size)=xs) (hsz:cap*size<=cs.size) (hcap:n<=cap) (hm:cap<=maxLen) (hb:∀ b,S b->b<w.heap.size) {w2:World} (hw2:w2.heap=w.heap) :
  (Res.sl e size rows).ok0 S (w2.alloc (.cells cs e)) (ρ++[.slice (some ⟨w.heap.size,0,none⟩) n cap]) (.slice (some ⟨w.heap.size,0,none⟩) n cap):=by
 subst hn
 refine Hq.2 (.inr ⟨w.heap.size,0,cap,cs,rfl,by rw [←hw2];exact .of (Ev _ _),hcap,hm,by omega,hu,?_⟩)
 simp only [List.drop_zero]
 rw [hcs]
 exact hp.mono λ _ _ h=>h.mono (λ _ h=>h) λ b h=>by
  have:=hb b h
  rw [←hw2] at this ⊢
  exact Bp _ _ _ this
theorem Wn {n c s:Nat} (h:n<=c):c*s<=n*s+(c-n)*s:=by
 rw [←ar];exact aN _ (by omega)
theorem R8 (hI:Inv C S w ρ R) {t ty e size bytes:Nat} {z:Value} (ht:P.underlying t=some (.slice e)) (hs:Aj P e=some (size+1)) (hby:(P.info? e).map (·.bytes)=some bytes) (hz:By P e=some z)
  (hzn:z.cells.size=size+1) {i:Nat} {rows rows2:List (List Pd)} {h x:Value} {y:AV} (hi:R[i]? = some (.sl e (size+1) rows)) (hρ:ρ[i]? = some h) (hal:h.oneCell'=true) (hx:RdA S w ρ x y) (hsrc:Db R (size+1) y=some rows2)
  (hu2:∀ l,l∈rows2->l.length=size+1) (hroom:(rows.length+rows2.length)*(bytes+1)<=140737488355328) :
  ∃ v w' ρ',(Builtin.append_ #[t,t] ty #[h,x]).run P w = .ok v w'/\Bw C S w ρ (R.set i .non++[.sl e (size+1) (rows++rows2)]) v (.d (.os R.length)) S w' ρ':=by
 obtain⟨info,i1,i2,i3,i4⟩:=Te hs hby hz
 obtain⟨b2,c2,news,hxf,hfc,hnr⟩:=Vy (P:=P) hI hx hsrc hu2
 have hnews:news.size=rows2.length*(size+1):=by have:=hnr.length;rw [Bf hu2] at this;simpa using this
 have hnl:news.toList.length=rows2.length*(size+1):=by simpa using hnews
 have hb1:(rows.length+rows2.length)*bytes<=140737488355328:=aH (Nat.mul_le_mul_left _ (Nat.le_succ _)) hroom
 have hb2:rows.length+rows2.length<=140737488355328:=aH (Nat.le_mul_of_pos_right _ (Nat.succ_pos bytes)) hroom
 have hlenS:R.length=ρ.length:=hI.len.symm
 have hfc':(Builtin.firstCells info.size rows2.length x).run P w = .ok news w:=by rw [i2];exact hfc w (λ _=>rfl)
 have hfd:(Builtin.firstCells info.size rows2.length x).run P w.drew = .ok news w.drew:=by rw [i2];exact hfc w.drew (λ _=>rfl)
 have fin:∀ (n cap:Nat) (cs:Array Value) (xs:List Value),n=rows.length+rows2.length->Ae (RdP S w) xs (rows++rows2).flatten->(∀ l,l∈rows->l.length=size+1)->cs.toList.take (n*(size+1))=xs->cap*(size+1)<=cs.size->n<=cap->cap<=maxLen ->
   Bw C S w ρ (R.set i .non++[.sl e (size+1) (rows++rows2)]) (.slice (some ⟨w.heap.size,0,none⟩) n cap) (.d (.os R.length)) S (w.drew.alloc (.cells cs e)) (ρ++[.slice (some ⟨w.heap.size,0,none⟩) n cap]):=by
  intro n cap cs xs hn hp hu hcs hsz hcap hm
  have hok:=Qi (e:=e) (ρ:=ρ) (size:=size+1) (n:=n) hp (λ l hl=>(az.1 hl).elim (hu l) (hu2 l)) (by simp [hn]) hcs hsz hcap hm (λ b hb=>(hI.sup b hb).1) (w2:=w.drew) rfl
  have hw:∀ b,b<w.heap.size->(w.drew.alloc (.cells cs e)).heap[b]? = w.heap[b]?:=λ b hb=>Bp w.drew _ b hb
  refine⟨hI.move hi hρ (λ k hk _=>hw k hk) (by simp) rfl rfl rfl (λ k hk=>?_) (.inr hok),λ _ h=>h,λ b hb=>hw b (hI.sup b hb).1,Pre.append _ _,.d (.os ?_ rfl)⟩
  ·simp [Res.foot] at hk;subst hk
   exact .inr ⟨ae _,by simp⟩
  ·rw [hlenS];simp
 rcases Hq.1 ((hI.ok i _ h hi hρ).live hal) with⟨h1,h2⟩ | ⟨b,o,cap,vs,h1,h2,h3,h4,h5,h6,h7⟩
 ·subst h1;subst h2
  by_cases hm:rows2.length=0
  ·have hr2:rows2=[]:=bz hm
   subst hr2
   refine⟨.slice none 0 0,w,ρ++[.slice none 0 0],?_,⟨hI.move hi hρ (λ _ _ _=>rfl) (ae _) rfl rfl rfl (λ k hk=>by simp [Res.foot] at hk) (.inr (.inl ⟨rfl,rfl⟩)),λ _ h=>h,λ _ _=>rfl,Pre.append _ _,.d (.os (by rw [hlenS];simp) rfl)⟩⟩
   have:news = #[]:=Array.eq_empty_of_size_eq_zero (by simpa using hnews)
   subst this
   subst hxf
   simp at hfc'
   simp [Builtin.append_,run_underlying ht,sizeOf,typeInfo,i1,Builtin.lenOf,hfc']
  ·have hg:=Jq (P:=P) (w:=w) (t:=t) (ty:=ty) (e:=e) ht i1 i4 (b1:=none) (n:=0) (cap:=0) (olds:=#[]) (by simp [Builtin.firstCells]) hxf hfd (by omega) (by simp at hb2;omega) (by
    rw [i3];exact growslice_fits (by omega) (by simpa using hb1))
   refine⟨_,_,_,hg,fin _ _ _ news.toList (by simp) (by simpa using hnr) (by simp) ?_ ?_ (grownCap_ge _ _ _ _) (grownCap_le_maxLen _ _ _ _ (by simp [maxLen];simp at hb2;omega))⟩
   ·simp only [Array.empty_append,Array.toList_append,aQ]
    rw [←hnews]
    have:news.size=news.toList.length:=by simp
    rw [this];exact List.take_left
   ·have:=grownCap_ge w (0+rows2.length) 0 e
    have h2:=Wn (s:=size+1) this
    simp only [Array.size_append,size_zeroCells,hzn,hnews,bh,aZ]
    simpa using h2
 ·subst h1
  have hold:((vs.toList.drop o).take (rows.length*(size+1))).length=rows.length*(size+1):=by rw [h7.length,Bf h6]
  by_cases hm:rows.length+rows2.length<=cap
  ·have hfit:o+rows.length*info.size+news.size<=vs.size:=by
    rw [i2,hnews]
    have:(rows.length+rows2.length)*(size+1)<=cap*(size+1):=aN _ hm
    rw [ar] at this
    omega
   have hr:=Qo (P:=P) (w:=w) (t:=t) (ty:=ty) (e:=e) ht i1 h2 hxf hfc' (Mj hnr) hm hfit
   have hown:=hI.own i _ _ b hi hρ rfl
   have hw:∀ k,k≠b->(w.setRow b (vs.toList.take (o+rows.length*info.size)++news.toList++vs.toList.drop (o+rows.length*info.size+news.toList.length)).toArray).heap[k]? = w.heap[k]?:=λ k hk=>Au _ _ _ _ hk
   have hS:∀ k,S k->(w.setRow b (vs.toList.take (o+rows.length*info.size)++news.toList++vs.toList.drop (o+rows.length*info.size+news.toList.length)).toArray).heap[k]? = w.heap[k]?:=λ k hk=>hw k (λ e=>hown.1 (e ▸ hk))
   refine⟨_,_,ρ++[.slice (some ⟨b,o,none⟩) (rows.length+rows2.length) cap],hr,⟨hI.move hi hρ (λ k _ hk=>hw k (λ e=>hk (by simp [Res.foot,e]))) (by simp) rfl rfl rfl (λ k hk=>by simp [Res.foot] at hk ⊢;exact .inl hk) ?_,λ _ h=>h,hS,Pre.append _ _,.d (.os (by rw [hlenS];simp) rfl)⟩⟩
   refine .inr (Hq.2 (.inr ⟨b,o,cap,_,by simp,h2.put (by simp only [bh,ay,aB,bi,bo];simp only [Array.size] at hfit h5 ⊢;omega),by simpa using hm,h4,?_,λ l hl=>(az.1 hl).elim (h6 l) (hu2 l),?_⟩))
   ·simp only [bh,ay,aB,bi,bo]
    simp only [Array.size] at hfit h5 ⊢
    omega
   ·have key:(((vs.toList.take (o+rows.length*info.size)++news.toList++vs.toList.drop (o+rows.length*info.size+news.toList.length)).drop o).take ((rows++rows2).length*(size+1)))=(vs.toList.drop o).take (rows.length*(size+1))++news.toList:=by
     rw [i2]
     have e1:(vs.toList.take (o+rows.length*(size+1))++news.toList++vs.toList.drop (o+rows.length*(size+1)+news.toList.length)).drop o=(vs.toList.drop o).take (rows.length*(size+1))++(news.toList++vs.toList.drop (o+rows.length*(size+1)+news.toList.length)):=by
      rw [aY,List.drop_append_of_le_length (by simp;omega),List.drop_take]
      congr 2
      omega
     rw [e1,←aY]
     have:(rows++rows2).length*(size+1)=((vs.toList.drop o).take (rows.length*(size+1))++news.toList).length:=by
      have h9:((vs.toList.drop o).take (rows.length*(size+1))++news.toList).length=rows.length*(size+1)+rows2.length*(size+1):=by
       rw [ay,hold,hnl]
      rw [h9,ay,ar]
     rw [this];exact List.take_left
    rw [key,bS]
    exact (h7.append hnr).mono λ _ _ h=>h.mono (λ _ h=>h) hS
  ·have hcell:∀ (j:Nat) v,((vs.toList.drop o).take (rows.length*(size+1)))[j]? = some v->w.drew.cell? ((⟨b,o,none⟩:Addr).add j)=some v:=by
    intro j v hv
    rw [au] at hv
    split at hv
    ·rw [aA] at hv
     rw [World.cell?_drew,A3,h2.cell]
     simpa using hv
    ·cases hv
   have hlc:=run_loadCells_list (P:=P) w.drew ⟨b,o,none⟩ _ hcell
   rw [hold] at hlc
   have hg:=Jq (P:=P) (w:=w) (t:=t) (ty:=ty) (e:=e) ht i1 i4 (b1:=some ⟨b,o,none⟩) (n:=rows.length) (cap:=cap) (olds:=((vs.toList.drop o).take (rows.length*(size+1))).toArray) (by rw [i2];simpa [Builtin.firstCells] using hlc) hxf hfd hm (by omega) (by
    rw [i3];exact growslice_fits (by omega) hb1)
   refine⟨_,_,_,hg,fin _ _ _ ((vs.toList.drop o).take (rows.length*(size+1))++news.toList) rfl (by rw [bS];exact h7.append hnr) h6 ?_ ?_ (grownCap_ge _ _ _ _) (grownCap_le_maxLen _ _ _ _ (by simp [maxLen];omega))⟩
   ·simp only [Array.toList_append]
    have:(rows.length+rows2.length)*(size+1)=((vs.toList.drop o).take (rows.length*(size+1))++news.toList).length:=by
     have h9:((vs.toList.drop o).take (rows.length*(size+1))++news.toList).length=rows.length*(size+1)+rows2.length*(size+1):=by
      rw [ay,hold,hnl]
     rw [h9,ar]
    rw [this];exact List.take_left
   ·have h8:=Wn (s:=size+1) (grownCap_ge w (rows.length+rows2.length) cap e)
    simp only [Array.size_append,size_zeroCells,hzn,hnews,bh,hold]
    rw [ar] at h8
    exact h8
theorem Lo (hI : Inv C S w ρ R) {c : Cl} {ts : Array TypeId} {ty : TypeId} {vs : Array Value} {args : List AV} {out : Out} (hv : Ae (RdA S w ρ) vs.toList args) (h : Bj P R c ts.toList args = some out)
  (hk:∀ x,out.c=some x->x.ok P):∃ v w' ρ',(Builtin.append_ ts ty vs).run P w = .ok v w'/\Bw C S w ρ out.R v out.v S w' ρ':=by
 unfold Bj at h
 split at h
 ·rename_i ts' t u x y hts
  cases hb:Nat.beq t u with
  | false=>rw [hb] at h;simp at h
  | true =>
   rw [hb] at h
   simp only [cond_true] at h
   have:=ac hb
   subst this
   obtain⟨v0,v1,hvs,r0,r1⟩:∃ v0 v1,vs = #[v0,v1]/\RdA S w ρ v0 x/\RdA S w ρ v1 y:=by
    obtain⟨l⟩:=vs
    match l,hv with
    | [v0,v1],hv=>exact⟨v0,v1,rfl,hv.1,hv.2.1⟩
    | [],hv=>exact hv.elim
    | [_],hv=>exact hv.2.elim
    | _::_::_::_,hv=>exact hv.2.2.elim
   have htsa:ts = #[t,t]:=by obtain⟨l⟩:=ts;simp at hts;rw [hts]
   subst hvs;subst htsa
   split at h
   ·rename_i e ht
    split at h
    ·rename_i size bytes zn hs hby hz
     obtain⟨z,hz1,hz2⟩:=A5 hz
     split at h
     ·rename_i q1 q2 q3 q4 rows' rows2 hsrc
      cases hb2:Nat.beq zn (size+1) with
      | false=>rw [hb2] at h;simp at h
      | true=>
       rw [hb2] at h
       simp only [cond_true] at h
       have hzn:z.cells.size=size+1:=by rw [hz2];exact ac hb2
       split at h
       ·simp at h;subst h
        obtain⟨k1,k2,k3⟩:=hk _ rfl
        subst k3
        have hnil:=r0.exact_inv
        have hP:=hI.push (w':=w) (.sl e (size+1) []) (.slice none 0 0) (λ _ _=>rfl) (ae _) rfl rfl rfl (.inr (.inl ⟨rfl,rfl⟩)) (by simp [Res.foot])
        have hl:(ρ++[Value.slice none 0 0])[R.length]? = some (.slice none 0 0):=by rw [←hI.len];simp
        have hsrc':Db (R++[.sl e (size+1) []]) (size+1) y=some rows2:=by
         unfold Db at hsrc ⊢
         split at hsrc
         ·exact hsrc
         ·exact hsrc
         ·rename_i i
          split at hsrc
          ·rename_i a b c hi
           rw [an (aa.1 hi).1,hi];exact hsrc
          ·cases hsrc
         ·rename_i i q1 q2 q3
          split at hsrc
          ·rename_i a b c hi
           rw [an (aa.1 hi).1,hi];exact hsrc
          ·cases hsrc
         ·cases hsrc
        obtain⟨v,w',ρ',hr,ha⟩:=R8 (ty:=ty) hP ht hs hby hz1 hzn (i:=R.length) (rows:=[]) (by simp) hl rfl (r1.mono (λ _ h=>h) (λ _ _=>rfl) (Pre.append _ _)) hsrc' k2 (by simpa using k1)
        refine⟨v,w',ρ',by rw [hnil];exact hr,?_,ha.sub,ha.same,(Pre.append _ _).trans ha.pre,?_⟩
        ·have:=ha.inv
         simpa using this
        ·have:=ha.rd
         simpa using this
       ·rename_i i
        split at h
        ·rename_i e' s' rows hi
         cases hb3:(Nat.beq e' e&&Nat.beq s' (size+1)) with
         | false=>rw [hb3] at h;simp at h
         | true=>
          rw [hb3] at h
          simp only [cond_true] at h
          simp at h;subst h
          simp only [af] at hb3
          have e1:=ac hb3.1
          have e2:=ac hb3.2
          subst e1;subst e2
          obtain⟨k1,k2,k3⟩:=hk _ rfl
          subst k3
          obtain⟨v,w',ρ',hr,ha⟩:=R8 (ty:=ty) hI ht hs hby hz1 hzn hi r0.d_inv.os_inv r0.d_inv.one r1 hsrc k2 k1
          exact⟨v,w',ρ',hr,ha⟩
        ·cases h
       ·cases h
     ·cases h
    ·cases h
   ·cases h
 ·cases h
theorem Ic {α β:Type} {Q:α->β->Prop} {xs:List α} {ds:List β} (h:Ae Q xs ds) (n:Nat):Ae Q (Bt n xs) (List.replicate n ds).flatten:=by
 induction n with
 | zero=>trivial
 | succ n ih=>exact h.append ih
theorem Gp {α:Type} (l:List α):∀ n,Bt n l=(List.replicate n l).flatten
 | 0=>rfl
 | n+1=>by simp [Bt,List.replicate_succ,Gp l n]
theorem Ng:∀ {l:List Value} {ds:List D},Cc l=some ds->ds=l.map (λ v=>D.p (.v v))/\∀ v,v∈l->v.oneCell'=true
 | [],ds,h=>by simp [Cc] at h;subst h;simp
 | v::r,ds,h=>by
  simp only [Cc] at h
  split at h
  ·rename_i d ds' h1 h2
   simp at h;subst h
   obtain⟨g1,g2⟩:=Ng h2
   unfold dOf at h1
   cases hb:v.oneCell' with
   | false=>rw [hb] at h1;simp at h1
   | true=>
    rw [hb] at h1;simp at h1;subst h1
    refine⟨by simp [g1],λ u hu=>?_⟩
    rcases ag.1 hu with rfl | hu
    ·exact hb
    ·exact g2 u hu
  ·cases h
theorem Pb:∀ {l:List Value} {ps:List Pd},dPs (l.map λ v=>D.p (.v v))=some ps->ps=l.map Pd.v
 | [],ps,h=>by simp [dPs] at h;subst h;rfl
 | v::r,ps,h=>by
  simp only [aJ,dPs,dP] at h
  split at h
  ·rename_i x l h1 h2
   simp at h h1;subst h;subst h1
   rw [Pb h2];rfl
  ·cases h
theorem vB {v:Value} (h:zB (.v v)=true) (h1:v.oneCell'=true):Zh v (Pd.nz (.v v)):=by
 unfold zB at h
 split at h
 ·rename_i heq;cases heq;exact⟨rfl,rfl⟩
 ·cases h
 ·rename_i x h2 h3 heq
  cases heq
  have:Pd.nz (.v v) = .v v:=by
   unfold Pd.nz
   split
   ·rename_i heq;injection heq with heq;exact absurd heq h2
   ·rfl
  rw [this]
  refine⟨rfl,h1,?_⟩
  unfold N3
  split
  ·rename_i a n c;exact h3 _ _ _ rfl
  ·trivial
 ·rename_i heq;cases heq
theorem Nb {c : Cl} {t : TypeId} {len : Option Value} {out : Out} (h : Fo P R c t len = some out) (hk : ∀ x, out.c = some x -> x.ok P) (hS : ∀ b, S b -> b < w.heap.size) :
    ∃ l n cs e r,len=some l/\out.v = .d (.os R.length)/\out.R=R++[r]/\(Instr.makeSlice t l l).run P w = .ok (.slice (some ⟨w.heap.size,0,none⟩) n n) (w.alloc (.cells cs e)) /\
      (∀ ρ',r.ok0 S (w.alloc (.cells cs e)) ρ' (.slice (some ⟨w.heap.size,0,none⟩) n n))/\(∀ b,r.foot (.slice (some ⟨w.heap.size,0,none⟩) n n) b->b=w.heap.size):=by
  unfold Fo at h
  have key:∀ {e:TypeId} {l:Int} {size bytes:Nat} {ds:List D},P.underlying t=some (.slice e)->Aj P e=some (size+1)->(P.info? e).map (·.bytes)=some bytes->((By P e).bind λ z=>Cc z.cells.toList)=some ds ->
      ∀ {zs:List Pd},dPs ds=some zs->zs.length=size+1->0<=l*((bytes:Int)+1)->l*((bytes:Int)+1)<=140737488355328 ->
      ∃ (n:Nat) (cs:Array Value) (vs:List Value),l=n/\(Instr.makeSlice t (.int .i64 l) (.int .i64 l)).run P w = .ok (.slice (some ⟨w.heap.size,0,none⟩) n n) (w.alloc (.cells cs e)) /\
        cs.toList=(List.replicate n vs).flatten/\vs.length=size+1/\zs=vs.map Pd.v/\(∀ v,v∈vs->v.oneCell'=true)/\n<=140737488355328/\cs.size=n*(size+1):=by
    intro e l size bytes ds ht hs hby hz zs hd hzl k1 k2
    obtain⟨z,hz1,hz2⟩:=Ah hz
    obtain⟨d1,d2⟩:=Ng hz2
    subst d1
    have hzv:=Pb hd
    obtain⟨info,i1,i2,i3,i4⟩:=Te hs hby hz1
    have hl0:0<=l:=by
      rcases Int.lt_or_le l 0 with h | h
      · have:l*((bytes:Int)+1)<0:=Int.mul_neg_of_neg_of_pos h (by omega)
        omega
      · exact h
    obtain⟨n,rfl⟩:=Int.eq_ofNat_of_zero_le hl0
    have hn:n*(bytes+1)<=140737488355328:=by
      have:((n*(bytes+1):Nat):Int)<=140737488355328:=by push_cast;exact k2
      omega
    have hn1:n<=140737488355328:=aH (Nat.le_mul_of_pos_right _ (Nat.succ_pos bytes)) hn
    have hn2:n*bytes<=140737488355328:=aH (Nat.mul_le_mul_left _ (Nat.le_succ _)) hn
    have hwrap:IntKind.i64.wrap (n:Int)=n:=IntWalk.i64_in _ (by omega)
    have hzs : z.cells.size = size + 1 := by have : zs.length = z.cells.toList.length := by rw [hzv]; simp
                                             rw [hzl] at this;simpa using this.symm
    have hlarge:¬((281474976710656:Int)<(bytes:Int)*(n:Int)):=by
      have:((n*bytes:Nat):Int)<=140737488355328:=by omega
      push_cast at this
      rw [Int.mul_comm]
      omega
    have hcells:∃ cs:Array Value,cs.toList=Bt n z.cells.toList/\(Instr.makeSlice t (.int .i64 n) (.int .i64 n)).run P w = .ok (.slice (some ⟨w.heap.size,0,none⟩) n n) (w.alloc (.cells cs e)):=by
      refine⟨(Array.range (n*z.cells.size)).map (λ i=>z.cells[i % z.cells.size]!),Gn _ _,?_⟩
      by_cases h0:n=0
      · subst h0
        have hw0:IntKind.i64.wrap 0=0:=IntWalk.i64_in 0 (by omega)
        simp [Instr.makeSlice,run_underlying ht,asInt,asIntOf,typeInfo,i1,sizeOf,newRow,hw0]
        congr 2
        apply Array.ext';simp
      · have hneg:¬((n:Int)<0):=by omega
        have h1:(n*(size+1)=0)=False:=eq_false (Nat.mul_ne_zero h0 (by omega))
        simp [hneg,h1,Instr.makeSlice,run_underlying ht,asInt,asIntOf,typeInfo,i1,i2,i3,sizeOf,newRow,hwrap,hlarge,hzs,zeroValue,i4]
    obtain⟨cs,hc1,hc2⟩:=hcells
    have hcl:cs.size=n*(size+1):=by
      have:cs.toList.length=n*z.cells.toList.length:=by rw [hc1,Hv]
      simpa [hzs] using this
    exact⟨n,cs,z.cells.toList,rfl,hc2,by rw [hc1,Gp],by simpa using hzs,hzv,d2,hn1,hcl⟩
  have hfoot:∀ (n b:Nat),Cn (.slice (some ⟨w.heap.size,0,none⟩) n n) b->b=w.heap.size:=λ n b h=>Eq.symm h
  split at h
  · rename_i e l q1 q2 rows' ht
    split at h
    · rename_i size bytes ds hs hby hz
      split at h
      · rename_i zs hd
        cases hb:Nat.beq zs.length (size+1) with
        | false=>rw [hb] at h;simp at h
        | true=>
          rw [hb] at h
          simp at h;subst h
          obtain⟨k1,k2,k3⟩:=hk _ rfl
          subst k3
          have hzl:=ac hb
          obtain⟨n,cs,vs,rfl,hrun,hc,hvl,hzv,hone,hn1,hcl⟩:=key ht hs hby hz hd hzl k1 k2
          refine⟨_,n,cs,e,_,rfl,rfl,rfl,hrun,λ ρ'=>?_,λ b hb=>hfoot n b hb⟩
          have hall:Ae (RdP S w) vs zs:=by
            rw [hzv]
            refine c7 (by simp) λ j x d hx hd=>?_
            rw [al,hx] at hd
            simp at hd;subst hd
            exact .v x (hone x (aq hx))
          have hok:=Qi (e:=e) (ρ:=[]) (size:=size+1) (n:=n) (cap:=n) (rows:=List.replicate n zs) (cs:=cs) (xs:=cs.toList) (by rw [hc,←Gp];exact Ic hall n) (λ l hl=>by rw [bE hl];exact hzl) (by simp)
            (bF (by simp [hcl])) (by omega) (ae _) (by simp [maxLen];omega) hS (w2:=w) rfl
          simp only [bW]
          exact hok
      · cases h
    · cases h
  · rename_i e l q1 q2 rows' ht
    split at h
    · rename_i size bytes ds hs hby hz
      split at h
      · rename_i zs hd
        cases hb:(Nat.beq zs.length (size+1)&&zs.all zB) with
        | false=>rw [hb] at h;simp at h
        | true=>
          rw [hb] at h
          simp only [cond_true,ah] at h
          subst h
          simp only [af] at hb
          obtain⟨k1,k2,k3⟩:=hk _ rfl
          subst k3
          have hzl:=ac hb.1
          obtain⟨n,cs,vs,rfl,hrun,hc,hvl,hzv,hone,hn1,hcl⟩:=key ht hs hby hz hd hzl k1 k2
          refine⟨_,n,cs,e,_,rfl,rfl,rfl,hrun,λ ρ'=>?_,λ b hb=>hfoot n b hb⟩
          refine .inr ⟨w.heap.size,0,n,cs,by simp,Ev _ _,by simp,by simp [maxLen];omega,by omega,λ row hrow=>?_,λ i row hi j d hj=>?_⟩
          · rw [bE hrow];simpa using hzl
          · have hin:i<n:=by have:=(aa.1 hi).1;simpa using this
            have hrow:row=zs.map Pd.nz:=bE (aq hi)
            subst hrow
            rw [hzv,bH,al] at hj
            obtain⟨x,hx,hd'⟩:=A5 hj
            refine⟨x,?_,?_⟩
            · have hg:=Fc (rows:=List.replicate n vs) (size:=size+1) (λ l hl=>by rw [bE hl];exact hvl) (i:=i) (j:=j) (row:=vs) (d:=x) (by rw [List.getElem?_replicate,if_pos hin]) hx
              rw [←hc] at hg
              simpa using hg
            · subst hd'
              have hzb:=(aM.1 hb.2) (.v x) (by rw [hzv];exact aK.2 ⟨x,aq hx,rfl⟩)
              exact vB hzb (hone x (aq hx))
      · cases h
    · cases h
  · cases h
theorem Wz (hI:Inv C S w ρ R) {c:Cl} {t:TypeId} {len:Option Value} {out:Out} (h:Fo P R c t len=some out) (hk:∀ x,out.c=some x->x.ok P) :
  ∃ v w' ρ' l,len=some l/\(Instr.makeSlice t l l).run P w = .ok v w'/\Bw C S w ρ out.R v out.v S w' ρ':=by
 obtain⟨l,n,cs,e,r,h1,h2,h3,h4,h5,h6⟩:=Nb h hk (λ b hb=>(hI.sup b hb).1)
 have hw:∀ b,b<w.heap.size->(w.alloc (.cells cs e)).heap[b]? = w.heap[b]?:=λ b hb=>Bp w _ b hb
 refine⟨_,_,ρ++[.slice (some ⟨w.heap.size,0,none⟩) n n],l,h1,h4,?_⟩
 rw [h2,h3]
 refine⟨hI.push _ _ hw (by simp) rfl rfl rfl (.inr (h5 _)) λ b hb=>?_,λ _ h=>h,λ b hb=>hw b (hI.sup b hb).1,Pre.append _ _,.d (.os ?_ rfl)⟩
 ·rw [h6 b hb];simp
 ·rw [←hI.len];simp
theorem Uo (hI:Inv C S w ρ R) {c:Cl} {s d:TypeId} {x:Option Value} {out:Out} (h:Ge P R c s d x=some out) (hk:∀ y,out.c=some y->y.ok P) :
  ∃ v v' w' ρ',x=some v/\(convert s d v).run P w = .ok v' w'/\Bw C S w ρ out.R v' out.v S w' ρ':=by
 unfold Ge at h
 split at h
 ·rename_i e b q1 q2 rows' hs hd
  split at h
  ·rename_i he
   simp at h;subst h
   obtain⟨k1,k2,k3⟩:=hk _ rfl
   subst k3
   have hold:∀ k,k<w.heap.size->(Lib.bytesWorld w e b).heap[k]? = w.heap[k]?:=λ k hk=>Lib.bytesWorld_at_old w e b k hk
   have hsz:=Lib.bytesWorld_size w e b
   have hlen:(Cv b).length=b.size:=by simp [Cv,B8]
   have hcs:(Lib.bytesCells w e b).size=b.size+(grownCap w b.size 0 e-b.size):=by simp [Lib.bytesCells]
   refine⟨_,_,_,ρ++[.slice (some ⟨w.heap.size,0,none⟩) b.size (grownCap w b.size 0 e)],rfl,Lib.run_convert_string_bytes w s d e b hs hd he,?_⟩
   refine⟨hI.push _ _ hold (by omega) rfl rfl rfl (.inr (.inr ⟨w.heap.size,0,_,_,by rw [hlen],⟨_,Lib.bytesWorld_at_new w e b,.inr (ae _)⟩,by rw [hlen];exact grownCap_ge _ _ _ _,grownCap_le_maxLen _ _ _ _ (by simp [maxLen];omega),?_,λ row hr=>?_,λ i row hi j q hj=>?_⟩)) λ k hk=>?_,λ _ h=>h,λ k hk=>hold k (hI.sup k hk).1,Pre.append _ _,.d (.os ?_ rfl)⟩
   ·have:=grownCap_ge w b.size 0 e
    omega
   ·unfold Cv at hr
    obtain⟨n,_,rfl⟩:=aK.1 hr
    rfl
   ·have hil:i<b.size:=by rw [←hlen];exact (aa.1 hi).1
    unfold Cv B8 at hi
    rw [al,al] at hi
    obtain⟨z,h1,rfl⟩:=A5 hi
    obtain⟨y,h2,rfl⟩:=A5 h1
    have hj0:j=0:=by
     have:=(aa.1 hj).1
     simp at this;exact this
    subst hj0
    simp at hj;subst hj
    refine⟨.int .u8 (y.toNat:Int),?_,.v _ rfl⟩
    have:=Lib.bytesWorld_cell w e b i hil
    rw [bL,h2] at this
    rw [E_ (Lib.bytesWorld_at_new w e b)] at this
    rw [aQ,Nat.mul_one,bf,this];rfl
   ·simp [Res.foot] at hk;subst hk
    exact⟨ae _,by omega⟩
   ·rw [←hI.len];simp
  ·cases h
 ·cases h
theorem Uq (hI : Inv C S w ρ R) {c : Cl} {s d : TypeId} {x : Option AV} {out : Out} {v : Value} (h : Gf P R c s d x = some out) (hv : ∀ y, x = some y -> RdA S w ρ v y) :
  ∃ v' w',(convert s d v).run P w = .ok v' w'/\Bw C S w ρ out.R v' out.v S w' ρ:=by
 unfold Gf at h
 split at h
 ·rename_i e i hd
  split at h
  ·rename_i e' z row rows hi he
   cases hb:Nat.beq s d with
   | false=>rw [hb] at h;cases h
   | true=>
    rw [hb] at h
    have hsd:=ac hb
    subst hsd
    simp at h;subst h
    have hr:=hv _ rfl
    have hρ:=hr.d_inv.os_inv
    rcases (hI.ok i _ v hi hρ).live hr.d_inv.one with⟨h1,h2⟩ | ⟨b,o,cap,vs,h1,⟨fr,hb1,hb2⟩,h3,h4,h5,h6,h7⟩
    ·cases h2
    ·subst h1
     have hsh:w.shape? b=some (e',vs.size):=by simp [World.shape?,hb1]
     have hblk:(w.freeze ⟨b,vs.size,none⟩ 1).heap[b]? = some (.cells vs e' (if fr.1==fr.2 then (vs.size,vs.size+1) else (min fr.1 vs.size,max fr.2 (vs.size+1)))):=by
      simp [World.freeze,Array.getElem?_modify,hb1]
     have hoth:∀ k,k≠b->(w.freeze ⟨b,vs.size,none⟩ 1).heap[k]? = w.heap[k]?:=λ k hk=>by
      simp [World.freeze,Array.getElem?_modify,Ne.symm hk]
     have hsz:(w.freeze ⟨b,vs.size,none⟩ 1).heap.size=w.heap.size:=by simp [World.freeze]
     have hown:=hI.own i _ _ b hi hρ rfl
     have hS:∀ k,S k->(w.freeze ⟨b,vs.size,none⟩ 1).heap[k]? = w.heap[k]?:=λ k hk=>hoth k λ e=>hown.1 (e ▸ hk)
     refine⟨.slice (some ⟨b,o,none⟩) (row::rows).length cap,w.freeze ⟨b,vs.size,none⟩ 1,?_,?_,λ _ h=>h,hS,Pre.refl _,?_⟩
     ·simp [convert,run_underlying hd,run_underlying he,markStringish,hsh,Result.andThen]
     ·have hI':=hI.put hi hρ (w':=w.freeze ⟨b,vs.size,none⟩ 1) (r':=.sl e' z (row::rows)) (b:=b) rfl (λ k hk=>by simp [Res.foot] at hk;exact hk.symm) hoth hsz rfl rfl rfl
       (.inr (.inr ⟨b,o,cap,vs,rfl,⟨_,hblk,.inr ?_⟩,h3,h4,h5,h6,λ i2 r hi2 j q hj=>?_⟩))
      ·have:R.set i (.sl e' z (row::rows))=R:=by
        apply bp
        intro k
        rw [ax]
        split
        ·rename_i hk
         subst hk
         rw [hi]
         have:=(aa.1 hi).1
         simp [this]
        ·rfl
       rw [this] at hI'
       exact hI'
      ·rcases hb2 with hb2 | hb2
       ·rw [if_pos (by simpa using hb2)];exact ae _
       ·split
        ·exact ae _
        ·show vs.size<=min fr.1 vs.size
         omega
      ·obtain⟨x,hx,hR⟩:=h7 i2 r hi2 j q hj
       exact⟨x,hx,hR.mono (λ _ h=>h) hS⟩
     ·exact .d (.os hρ rfl)
  ·cases h
 ·cases h
theorem W7 (hI:Inv C S w ρ R) {c:Cl} {s d:TypeId} {x:Option Value} {out:Out} (h:Kb P R c s d x=some out) (hk:∀ y,out.c=some y->y.ok P) :
  out.R=R/\∃ v v' w' S',x=some v/\(convert s d v).run P w = .ok v' w'/\Bw C S w ρ R v' out.v S' w' ρ:=by
 unfold Kb at h
 split at h
 ·rename_i e b q1 q2 rows' hs hd
  split at h
  ·rename_i he
   simp at h;subst h
   obtain⟨k1,k2,k3⟩:=hk _ rfl
   subst k3
   refine⟨rfl,_,_,_,λ k=>S k\/k=w.heap.size,rfl,Lib.run_convert_string_bytes w s d e b hs hd he,?_⟩
   have hold:∀ k,k<w.heap.size->(Lib.bytesWorld w e b).heap[k]? = w.heap[k]?:=λ k hk=>Lib.bytesWorld_at_old w e b k hk
   have hsz:=Lib.bytesWorld_size w e b
   have hsub:∀ k,S k->k<w.heap.size:=λ k hk=>(hI.sup k hk).1
   refine⟨hI.grow (λ _ h=>.inl h) (λ k hk=>hk.imp id λ e=>⟨by omega,by omega⟩) hold (by omega) rfl rfl rfl,λ _ h=>.inl h,λ k hk=>hold k (hsub k hk),Pre.refl _,.d (.p ?_)⟩
   have hlen:(Cv b).length=b.size:=by simp [Cv,B8]
   have hget:∀ (i:Nat) row,(Cv b)[i]? = some row->i<b.size/\row=[Pd.v (.int .u8 (b.data.toList.getD i 0).toNat)]:=by
    intro i row hi
    have hil:i<b.size:=by rw [←hlen];exact (aa.1 hi).1
    refine⟨hil,?_⟩
    unfold Cv B8 at hi
    rw [al,al] at hi
    obtain⟨z,h1,rfl⟩:=A5 hi
    obtain⟨y,h2,rfl⟩:=A5 h1
    rw [bL,h2];rfl
   have:=RdP.s (S:=λ k=>S k\/k=w.heap.size) (w:=Lib.bytesWorld w e b) (some ⟨w.heap.size,0,none⟩) ⟨w.heap.size,0,none⟩ (grownCap w b.size 0 e) 1 (Cv b) (λ i _=>.int .u8 (b.data.toList.getD i 0).toNat)
    (by rw [hlen];exact grownCap_ge _ _ _ _) (grownCap_le_maxLen _ _ _ _ (by simp [maxLen];omega)) (λ h=>by cases h)
    (λ row hr=>by
     obtain⟨i,hi⟩:=List.getElem?_of_mem hr
     rw [(hget i row hi).2];rfl)
    (λ i row hi j q hj=>by
     obtain⟨g1,g2⟩:=hget i row hi
     subst g2
     have hj0:j=0:=by
      have:=(aa.1 hj).1
      simp at this;exact this
     subst hj0
     refine⟨rfl,.inr rfl,?_⟩
     rw [A3]
     have:=Lib.bytesWorld_cell w e b i g1
     simpa using this)
    (λ i row hi j q hj=>by
     obtain⟨g1,g2⟩:=hget i row hi
     subst g2
     have hj0:j=0:=by
      have:=(aa.1 hj).1
      simp at this;exact this
     subst hj0
     have hj':Pd.v (.int .u8 (b.data.toList.getD i 0).toNat)=q:=by simpa using hj
     rw [←hj']
     exact .v (.int .u8 (b.data.toList.getD i 0).toNat) rfl)
   rw [hlen] at this
   exact this
  ·cases h
 ·cases h
end
end Go.SL
