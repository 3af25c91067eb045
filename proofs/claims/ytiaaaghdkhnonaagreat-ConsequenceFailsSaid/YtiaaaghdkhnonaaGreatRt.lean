import Derived.Test.YtiaaaghdkhnonaaGreatRg
set_option linter.unusedVariables false
namespace Go.SL
variable{l listed:Array Bool}{i id j t:Nat}{ro:Option Nat}
section
variable{P:Program}{C:Ctx}{n:Nat}{ops:Array Oper}{L0 L L':List Ent}{R0 R R':List Res}{rs:List Rec}{a:Act}{w:World}{m:Nat}{F:Fence}{Q:Exit->Act->World->Prop}
def Xp(ops:Array Oper)(m:Nat):Bool:=(List.range ops.size).all λi=>Nat.blt i m || (((List.range i).all λj=>Y6 (((Nt ops ops.size)[i]?).getD 0) j)&&(match ops[i]? with
 |some o=>o.after.all λe=>!(Region.binds .any e) || Nat.blt e.on i
 |none=>true))
theorem Us(ht:Xp ops m=true)(hi:i<ops.size)(him:m<=i):(∀j,j<i->Y6 (((Nt ops ops.size)[i]?).getD 0) j=true)/\∀o,ops[i]?=some o->∀e,e∈o.after->Region.binds .any e=true->e.on<i:=by
 have h:=(aG.1 ht) i (ba.2 hi);rw[aC]at h;rcases h with h|h
 .rw[bq]at h;omega
 .obtain⟨h1,h2⟩:=cv.1 h;refine⟨λj hj=>(aG.1 h1) j (ba.2 hj),λo ho e he hb=>?_⟩;rw[ho]at h2;simp only at h2;rw[Array.all_eq_true_iff_forall_mem]at h2;have:=h2 e he;rw[hb]at this;simpa[eN]using this
theorem yO(h:l.getD j true=false):l.getD j false=false:=by grind
theorem Aj2(hj:j<l.size)(h:l.getD j false=false):l.getD j true=false:=by grind
theorem Ajq(ht:Xp ops m=true)(hX:Ag ops (λi=>listed.getD i false))(hi:i∈Region.ready .any ops listed)(him:m<=i):∀j,j<i->listed.getD j false=true:=by
 rw[mem_ready]at hi;obtain⟨h1,o,ho,hall⟩:=hi;have his:i<ops.size:=(aP.1 ho).1;have hY:Ag ops (λj=>listed.getD j false || decide (j=i)):=by
  intro j o' hj ho' e he hb;simp only[aC,dM]at hj ⊢;rcases hj with hj|rfl
  .exact .inl (hX j o' hj ho' e he hb)
  grind
 intro j hj;have:=P_ hY ((Us ht his him).1 j hj) (by simp);grind
theorem Ts{o:Oper}(hX:Ag ops (λi=>listed.getD i false))(hil:i<listed.size)(ho:ops[i]?=some o)(hall:∀e∈o.after,Region.binds .any e=true->listed.getD e.on false=true):Ag ops (λj=>(listed.setIfInBounds i true).getD j false):=by
 have hX':∀j,(listed.setIfInBounds i true).getD j false=(listed.getD j false || decide (j=i)):=by intro j;simp only[aR,cX];grind
 intro j o' hj ho' e he hb;simp only[hX',aC,dM]at hj ⊢;rcases hj with hj|rfl
 .exact .inl (hX j o' hj ho' e he hb)
 grind
theorem M7(hi:i<l.size):(l.setIfInBounds i true).getD j false=(l.getD j false || decide (j=i)):=by simp only[aR,cX];grind
theorem A70(ht:Xp ops m=true):∀(fuel k:Nat)(listed:Array Bool)(a:Act)(w:World),listed.size=ops.size->m<=k->k<=ops.size->(∀j,j<k->listed.getD j false=true)->(∀j,k<=j->listed.getD j false=false)->unl listed<=fuel ->
  Ag ops (λi=>listed.getD i false)->wpOpsIn F n P ops Q (List.range' k (ops.size-k)) a w->wpAnyIn F n P .any ops Q fuel listed a w:=by
 intro fuel;induction fuel with
 | zero=>
  intro k listed a w hsz hmk hk h1 h2 hf hX h;have e:ops.size-k=0:=by
   rcases aM k ops.size with g|g
   .exfalso;have hnil:listed.toList.filter (λb=>!b)=[]:=bt (Nat.le_zero.1 hf);rw[cP]at hnil;have h0:=h2 k (af _);have hml:k<listed.size:=by omega
    have:=hnil listed[k] (by simp);simp only[aR,bn hml,bS]at h0;rw[h0]at this;simp at this
   .omega
  rw[e]at h;refine⟨?_,h⟩;apply List.eq_nil_iff_forall_not_mem.2;intro j hj;rw[mem_ready]at hj;obtain⟨g1,o,ho,_⟩:=hj;have:=(aP.1 ho).1;have:=h1 j (by omega);cases (yO g1).symm.trans this
 | succ fuel ih=>
  intro k listed a w hsz hmk hk h1 h2 hf hX h;rcases aM k ops.size with hlt|hge
  .obtain⟨d,hd⟩:∃d,ops.size-k=d+1:=⟨ops.size-k-1,by omega⟩;rw[hd,List.range'_succ,wpOpsIn_cons]at h;have hko:ops[k]?=some ops[k]:=bn hlt;have hall:∀e∈ops[k].after,Region.binds .any e=true->listed.getD e.on false=true:=λe he hb=>h1 _ ((Us ht hlt hmk).2 _ hko e he hb);have hkr:k∈Region.ready .any ops listed:=mem_ready.2 ⟨Aj2 (by omega) (h2 k (af _)),_,hko,hall⟩;refine⟨λhr=>(by rw[hr]at hkr;cases hkr),λi hi=>?_⟩;have hik:i=k:=by
    rcases bM i k with g|g|g
    .rw[mem_ready]at hi;have:=h1 i g;cases (yO hi.1).symm.trans this
    .exact g
    .have:=Ajq ht hX hi (by omega) k g;cases (h2 k (af _)).symm.trans this
   subst hik;have hif:listed[i]?=some false:=by
    have h0:=h2 i (af _);have hml:i<listed.size:=by omega
    simp only[aR,bn hml,bS]at h0;rw[bn hml,h0]
   refine wpOpIn_mono (λa' w' h'=>ih (i+1) _ a' w' (by simpa using hsz) (by omega) (by omega) (λj hj=>?_) (λj hj=>?_) (by have:=vS hif;omega) (Ts hX (by omega) hko hall) ?_) h
   .rw[M7 (by omega)];rcases aM j i with g|g
    .rw[h1 j g];rfl
    .have:j=i:=by omega
     subst this;simp
   .rw[M7 (by omega),h2 j (by omega),dV (by omega)];rfl
   .have e:ops.size-(i+1)=d:=by omega
    rw[e];exact h'
  .have e:ops.size-k=0:=by omega
   rw[e]at h;refine⟨λ_=>h,λi hi=>?_⟩;rw[mem_ready]at hi;obtain⟨g1,o,ho,_⟩:=hi;have:=(aP.1 ho).1;cases (yO g1).symm.trans (h1 i (by omega))
theorem A18(ht:Xp ops m=true)(hm:m<ops.size)(hch:J4 P n ops L0 R0 rs L' R')(hidx:rs.map (·.i)=List.range m)(hany:Adg ops L0 rs)(hfl:Agj C rs){Q:Exit->Act->World->Prop}(hQ:∀a' w',Sat n C L' R' a' w'->wpOpsIn (FR ro) 0 P ops Q (List.range' m (ops.size-m)) a' w') :
  ∀(fuel:Nat)(listed:Array Bool)(a:Act)(w:World),listed.size=ops.size->unl listed<=fuel->(∀i,m<=i->listed.getD i false=false)->Ag ops (λi=>listed.getD i false)->J n C L0 R0 rs (λi=>listed.getD i false) a w ->
   wpAnyIn (FR ro) 0 P .any ops Q fuel listed a w:=by
 have hs:Gy rs:=by
  have:(rs.map (·.i)).Pairwise (· < ·):=by rw[hidx];exact List.pairwise_lt_range
  rw[cE]at this;exact this
 have hget:∀i,i<m->∃r,r∈rs/\r.i=i:=by
  intro i hi;have:i∈rs.map (·.i):=by rw[hidx];simpa using hi
  obtain⟨r,hr,e⟩:=an.1 this;exact⟨r,hr,e⟩
 have hlt:∀r,r∈rs->r.i<m:=by intro r hr;have:r.i∈rs.map (·.i):=an.2 ⟨r,hr,rfl⟩;rw[hidx]at this;simpa using this
 have done:∀(listed:Array Bool)(a:Act)(w:World),(∀i,i<m->listed.getD i false=true)->J n C L0 R0 rs (λi=>listed.getD i false) a w->Sat n C L' R' a w:=by
  intro listed a w hall ⟨h1,h2,S,ρ,h3,h4,_⟩;have hX:∀r,r∈rs->listed.getD r.i false=true:=λr hr=>hall _ (hlt r hr);refine⟨h1,h2,S,ρ,by rw[Tm hch hX]at h3;exact h3,λe he=>h4 e ?_⟩;rcases Tt hch hs e he with⟨g1,g2⟩|⟨r,g1,g2,g3,g4,g5⟩
  .exact .inl ⟨g1,λq hq _=>g2 q hq⟩
  .exact .inr ⟨r,g1,hX r g1,g2,g3,g4,λq hq hl _=>g5 q hq hl⟩
 have N9 : ∀(listed : Array Bool), listed.size = ops.size -> Region.ready .any ops listed = [] -> ∀i, i < ops.size -> listed.getD i false = true := by
  intro listed hsz hr i;induction i using Nat.strongRecOn with
  | _ i ih =>
   intro hi;cases hx:listed.getD i false with
   |true=>rfl
   | false=>
    exfalso;have hback:∃o,ops[i]?=some o/\∀e,e∈o.after->Region.binds .any e=true->e.on<i:=by
     rcases aM i m with g|g
     .obtain⟨r,hr1,hr2⟩:=hget i g;have hrec:=K1 hch hr1;exact⟨r.o,by rw[←hr2];exact hrec.op,λe he hb=>by have:=hany.back r hr1 e he hb;omega⟩
     .exact⟨_,bn hi,(Us ht hi g).2 _ (bn hi)⟩
    obtain⟨o,ho,hbk⟩:=hback;have:i∈Region.ready .any ops listed:=mem_ready.2 ⟨Aj2 (by omega) hx,o,ho,λe he hb=>ih e.on (hbk e he hb) (by have:=hbk e he hb;omega)⟩;rw[hr]at this;cases this
 intro fuel;induction fuel with
 |zero=>
  intro listed a w hsz hu htl hX hJ;exfalso;have hnil:listed.toList.filter (λb=>!b)=[]:=bt (Nat.le_zero.1 hu);rw[cP]at hnil;have h0:=htl m (af _);have hml:m<listed.size:=by omega
  have:=hnil listed[m] (by simp);simp only[aR,bn hml,bS]at h0;rw[h0]at this;simp at this
 | succ fuel ih=>
  intro listed a w hsz hu htl hX hJ;refine⟨λhr=>?_,λi hi=>?_⟩
  .have:=N9 listed hsz hr m hm;cases (htl m (af _)).symm.trans this
  have hi0:=hi;rw[mem_ready]at hi;obtain⟨h1,o,ho,hall⟩:=hi;have hil:i<ops.size:=(aP.1 ho).1;have his:i<listed.size:=by omega
  have hif:listed[i]?=some false:=by rw[bn his];simp only[aR,bn his,bS]at h1;rw[h1]
  have hun:unl (listed.setIfInBounds i true)<=fuel:=by have:=vS hif;omega
  rcases aM i m with hlm|hge
  .obtain⟨q,hq,hqi⟩:=hget i hlm;have hrec:=K1 hch hq;have hqo:q.o=o:=by have:=hrec.op;rw[hqi,ho]at this;cases this;rfl
   have hX':∀j,(listed.setIfInBounds i true).getD j false=(listed.getD j false || decide (j=q.i)):=by intro j;rw[hqi];exact M7 his
   subst hqi;refine Ys (λ_ _ h=>h) (Agb hch hs hany hfl (X':=λj=>(listed.setIfInBounds q.i true).getD j false) hX hq ?_ (by rw[hqo];exact hall) hX' hJ λa' w' hJ'=>ih _ a' w' (by simpa using hsz) hun (λj hj=>?_) (Ts hX his ho hall) hJ')
   .simp[eu,hif]
   .rw[hX',htl j hj,dV (by omega)];rfl
  .have hrd:=Ajq ht hX hi0 hge;have him:i=m:=by
    rcases aM m i with g|g
    .cases (htl m (af _)).symm.trans (hrd m g)
    .omega
   subst him;have hW:=hQ a w (done listed a w hrd hJ);obtain⟨d,hd⟩:∃d,ops.size-i=d+1:=⟨ops.size-i-1,by omega⟩;rw[hd,List.range'_succ,wpOpsIn_cons]at hW;refine wpOpIn_mono (λa' w' h'=>A70 ht fuel (i+1) _ a' w' (by simpa using hsz) (by omega) (by omega) (λj hj=>?_) (λj hj=>?_) hun (Ts hX his ho hall) ?_) hW
   .rw[M7 his];rcases aM j i with g|g
    .rw[hrd j g];rfl
    .have:j=i:=by omega
     subst this;simp
   .rw[M7 his,htl j (by omega),dV (by omega)];rfl
   .have e:ops.size-(i+1)=d:=by omega
    rw[e];exact h'
def selP(L : List Ent) : eR -> Option St
 | []=>some []
 |t::ts=>match Eu L t with
  | some e=>bif e.p.all (λg=>match Ada L (.tmp g.1) with
    |some b=>b==g.2
    |none=>false)then (selP L ts).map ((t,e.v) :: ·) else none
  |none=>none
theorem Vu{a:Act}{b:Bool}(h:a.eval (.tmp t)=.bool b):a.tmps[t]?=some (.bool b):=by
 have h:a.tmps.getD t undef=.bool b:=h;rw[aR]at h;cases hq:a.tmps[t]? with
 |none=>rw[hq]at h;cases h
 |some x=>grind
theorem Sat.selP(hs:Sat n C L R a w):∀{ts:eR}{st':St},selP L ts=some st'->Sat n C (mkL st') R a w:=by
 obtain⟨h1,h2,S,ρ,h3,h4⟩:=hs;intro ts st' h;refine⟨h1,h2,S,ρ,h3,?_⟩;induction ts generalizing st' with
 |nil=>simp only[Go.SL.selP,ah]at h;subst h;intro e he;cases he
 | cons t ts ih=>
  simp only[Go.SL.selP]at h;split at h
  .rename_i e0 he0;generalize hb:(e0.p.all _)=bb at h;cases bb with
   |false=>cases h
   | true=>
    simp only[ez,bW]at h;obtain⟨s1,h5,rfl⟩:=h;intro e he;rcases ag.1 he with rfl|he
    .obtain⟨hm,hte⟩:=Dh he0;have hp:pt a e0.p:=λg hg=>by
      have:=(aG.1 hb) g hg;split at this
      .rename_i b hf;have hbg:b=g.2:=by simpa using this
       rw[←hbg];exact Vu (Aev (C:=C) ⟨h1,h2,S,ρ,h3,h4⟩ hf)
      .cases this
     obtain⟨v,hv,hr⟩:=(h4 e0 hm).1 hp;exact⟨λ_=>⟨v,by rw[←hte];exact hv,hr⟩,λhn=>absurd Cd hn⟩
    .exact ih h5 e he
  .cases h
def Av0(P:Program)(n:Nat)(ops:Array Oper)(m:Nat)(st:St)(R:List Res)(cls:List Cl)(ts:eR):Option (St×List Cl):=
 match Sv P n ops (List.range m) (mkL st) R cls with
 |some (rs,L',_,cs)=>bif Oh ops (mkL st) rs&&Pb 0 0 rs then (selP L' ts).map λs=>(s,cs) else none
 |none=>none
theorem A8p{st:St}(hmo:P.follows .mixedOrders=true)(m:Nat)(cls:List Cl)(ts:eR)(st':St)(hs:Sat n C (mkL st) R a w)(e:Av0 P n ops m st R cls ts=some (st',cls))(hok:Dc P cls)(ht:Xp ops m=true)(hmm:Nat.blt m ops.size=true){Q:Exit->Act->World->Prop}
  (hK:∀R' a' w',Sat n C (mkL st') R' a' w'->wpOpsIn (FR ro) 0 P ops Q (List.range' m (ops.size-m)) a' w'):(Code.region id ops true).wpIn (FR ro) 0 P Q a w:=by
 refine wpIn_region_any hmo ?_;unfold Av0 at e;split at e
 .rename_i rs L' R' cs e1;generalize hb:(Oh ops (mkL st) rs&&Pb 0 0 rs)=bb at e;cases bb with
  |false=>cases e
  | true=>
   simp only[ez,bW]at e;obtain⟨s1,e2,e3⟩:=e;simp only[au]at e3;obtain⟨rfl,rfl⟩:=e3;obtain⟨hb1,hb2⟩:=cv.1 hb;have hmm:m<ops.size:=by simpa[eN]using hmm
   obtain⟨c1,c2⟩:=N4 e1 hok;obtain⟨h1,h2,S,ρ,h3,h4⟩:=hs.drew;have hnone:∀r,r∈rs->r.fl=none:=λr hr=>by
    cases hq:r.fl with
    |none=>rfl
    |some i=>have:=Ky hr hq;unfold Pb at hb2;simp only[ac]at hb2;have:=(aG.1 hb2.2) i this;simp[eN]at this
   have hF:Agj C rs:=⟨λr q i hr _ h _=>(by rw[hnone r hr]at h;cases h),λr i hr h=>(by rw[hnone r hr]at h;cases h)⟩;refine A18 (C:=C) ht hmm c1 c2 (uD hb1) hF (λa' w' hs'=>hK _ a' w' (hs'.selP e2)) ops.size _ a _ (by simp) ?_ ?_ ?_ ⟨h1,h2,S,ρ,?_,λe he=>?_,λr i hr h=>(by rw[hnone r hr]at h;cases h)⟩
   .unfold unl;grind
   .intro i _;simp only[aR,cg];split <;> rfl
   .intro j o hj;simp only[aR,cg]at hj;split at hj <;> simp at hj
   .have:E3 (λi=>(Array.replicate ops.size false).getD i false) R rs=R:=Gn λr _ _=>by
     simp only[aR,cg];split <;> simp
    rw[this];exact h3
   .rcases he with⟨g1,_⟩|⟨r,_,g2,_⟩
    .exact h4 e g1
    .simp only[aR,cg]at g2;split at g2 <;> simp at g2
 .cases e
end
end Go.SL
