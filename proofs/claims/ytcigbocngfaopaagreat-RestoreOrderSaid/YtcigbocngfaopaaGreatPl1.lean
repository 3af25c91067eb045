import Derived.Test.YtcigbocngfaopaaGreatPl0
namespace Go.Proofs.YtcigbocngfaopaaGreat
open Go.SL
def brN (b:Aa) (i:Nat):Nat:=(Ft b (i:Int)).toNat
theorem E4 {b:Aa} (h:Ar b) {i:Nat} (hi:i<b.Ac.length):Ft b (i:Int)=(brN b i:Int)/\brN b i<b.Ad.length/\(b.Ad.getD (brN b i) default).Kind=2/\(b.Ad.getD (brN b i) default).B=(i:Int)/\b.Ad[brN b i]? = some (b.Ad.getD (brN b i) default):=by
 obtain⟨j,x,e,hx,hk,hB,_⟩:=J9 h (i:=(i:Int)) (by omega) (by omega)
 have hj:=(aa.1 hx).1
 have:brN b i=j:=by unfold brN;omega
 rw [this,Cs hx]
 exact⟨e,hj,hk,hB,hx⟩
theorem Yj {b:Aa} (h:Ar b) {i j:Nat} (hi:i<b.Ac.length) {x:Ag} (hx:b.Ad[j]? = some x) (hk:x.Kind=2) (hB:x.B=(i:Int)):j=brN b i:=by
 obtain⟨e,hlt,k2,kB,hg⟩:=E4 h hi
 have hm:∀ {m:Nat} {y:Ag},b.Ad[m]? = some y->y.Kind=2->y.B=(i:Int)->(y,m)∈ofZ b 2 (i:Int):=fun {m y} hy h1 h2=>an.2 ⟨by rw [bx];exact hy,by simp [h1,h2]⟩
 have hlen:(ofZ b 2 (i:Int)).length=1:=by
  have:=Aeg (λ x:Ag=>x.Kind==2&&x.B==(i:Int)) b.Ad 0
  rw [←h.one i hi]
  exact this
 have m1:=hm hx hk hB
 have m2:=hm hg k2 kB
 match hz:ofZ b 2 (i:Int),hlen,m1,m2 with
 | [v],_,m1,m2=>
  rw [aP] at m1 m2
  rw [←m2] at m1
  exact (Prod.mk.inj m1).2
theorem E8 {b:Aa} (h:Ar b) {p:Ab} (hp:Aq b p) {i:Nat} (hi:i<b.Ac.length):Cy b p (i:Int)=if (p.Ac.getD i default).State=2/\p.Ae.getD (brN b i) false=true then some (b.Ad.getD (brN b i) default).A else none:=by
 obtain⟨e,hlt,k2,kB,hg⟩:=E4 h hi
 have hn:=hp.nso
 have hz:∀ z,z∈ofZ b 2 (i:Int)->z.2=brN b i/\z.1=b.Ad.getD (brN b i) default:=λ z hz=>by
  have h1:=Pn hz
  have h2:=(an.1 hz).2
  simp only [ac,dy] at h2
  have:=Yj h hi h1 h2.1 h2.2
  rw [this] at h1
  rw [hg] at h1
  exact⟨this,(bz h1).symm⟩
 have hin:(b.Ad.getD (brN b i) default,brN b i)∈ofZ b 2 (i:Int):=an.2 ⟨by rw [bx];exact hg,by
  rw [ac,dy,dy];exact⟨k2,kB⟩⟩
 have hled:By b p 2 (i:Int)=if p.Ae.getD (brN b i) false=true then some (b.Ad.getD (brN b i) default).A else none:=by
  rw [T5 hp.ncl]
  by_cases hc:p.Ae.getD (brN b i) false=true
  ·rw [if_pos hc]
   cases hf:(ofZ b 2 (i:Int)).find? λ z=>p.Ae.getD z.2 false with
   | none=>
    rw [List.find?_eq_none] at hf
    exact absurd hc (hf _ hin)
   | some z=>
    rw [(hz z (cD hf)).2.symm];rfl
  ·rw [if_neg hc]
   cases hf:(ofZ b 2 (i:Int)).find? λ z=>p.Ae.getD z.2 false with
   | none=>rfl
   | some z=>
    have h1:=List.find?_some hf
    rw [(hz z (cD hf)).1] at h1
    exact absurd h1 hc
 unfold Cy
 rw [ai,hled]
 by_cases hs:(p.Ac.getD i default).State=2
 ·rw [if_pos ⟨by omega,by omega,hs⟩]
  simp only [hs,true_and]
 ·rw [if_neg (λ hh=>hs hh.2.2),if_neg (λ hh=>hs hh.1)]
def tog (b:Aa) (p:Ab) (i j:Nat):Prop:=∃ a c:Int,Cy b p (i:Int)=some a/\Cy b p (j:Int)=some c/\(groups b p).getD a.toNat 0=(groups b p).getD c.toNat 0
def B3 (x y:Ai):Prop:=x.Au=y.Au/\x.Phase=y.Phase
theorem A0q {b:Aa} (h:Ar b) {p:Ab} {i j:Nat} (hi:i<b.Ac.length) (hj:j<b.Ac.length) (t:tog b p i j):∃ f,isl b p f∈Bd b p/\(i:Int)∈(isl b p f).Ac/\(j:Int)∈(isl b p f).Ac:=by
 obtain⟨a,c,h1,h2,h3⟩:=t
 have ha:=Kw h h1
 have hg:=Gy h p (n:=a.toNat) (by omega)
 refine⟨((groups b p).getD a.toNat 0).toNat,?_,Hg.2 ⟨i,rfl,hi,?_⟩,Hg.2 ⟨j,rfl,hj,?_⟩⟩
 ·rw [Fx h]
  exact am.2 ⟨_,an.2 ⟨aH.2 (by omega),Ii h p (by omega)⟩,rfl⟩
 ·rw [h1];show some _=some _;rw [hg.2.2]
 ·rw [h2];show some ((groups b p).getD c.toNat 0)=some _;rw [←h3,hg.2.2]
theorem A1e {b:Aa} {p:Ab} {f:Nat} {i j:Int} (hi:i∈(isl b p f).Ac) (hj:j∈(isl b p f).Ac):tog b p i.toNat j.toNat:=by
 obtain⟨k,rfl,_,e1⟩:=Hg.1 hi
 obtain⟨m,rfl,_,e2⟩:=Hg.1 hj
 rw [ai,ai]
 unfold Dr at e1 e2
 rw [cC] at e1 e2
 obtain⟨a,h1,h2⟩:=e1
 obtain⟨c,h3,h4⟩:=e2
 exact⟨a,c,h1,h3,by rw [h2,h4]⟩
theorem On {b:Aa} (h:Ar b) {p:Ab}:Ef b p↔∀ i j,i<b.Ac.length->j<b.Ac.length->tog b p i j->B3 (p.Ac.getD i default) (p.Ac.getD j default):=by
 constructor
 ·intro ha i j hi hj t
  obtain⟨f,hf,h1,h2⟩:=A0q h hi hj t
  have:=ha _ hf _ _ h1 h2
  rw [ai,ai] at this
  exact this
 ·intro ha x hx i j hi hj
  unfold Bd at hx
  obtain⟨f,_,rfl⟩:=am.1 (an.1 hx).1
  have b1:=Mv hi
  have b2:=Mv hj
  exact ha _ _ (by omega) (by omega) (A1e hi hj)
structure Sub (b:Aa) (q p:Ab):Prop where
 con:∀ i,i<b.Ac.length->(q.Ac.getD i default).State=2->q.Ae.getD (brN b i) false=true->(p.Ac.getD i default).State=2/\p.Ae.getD (brN b i) false=true
 tie:∀ (k:Nat) x,b.Ad[k]? = some x->x.Kind=1->q.Ae.getD k false=true->p.Ae.getD k false=true
theorem Ol {L M:Da} (h:∀ i j,Tie L i j->Tie M i j) {i j:Nat} (c:Bn L i j):Bn M i j:=by
 obtain⟨r,c⟩:=c
 induction c with
 | refl=>exact .refl M i
 | stay _ ih=>exact ih
 | step _ t ih=>exact ih.tie (h _ _ t)
theorem Aef {α:Type}:∀ {l:List α} {c:List Bool} {z:α×Bool},z∈l.zip c->∃ k:Nat,l[k]? = some z.1/\c[k]? = some z.2
 | [],_,_,h=>by simp at h
 | _::_,[],_,h=>by simp at h
 | x::l,v::c,z,h=>by
  rw [bD,ag] at h
  rcases h with rfl | h
  ·exact⟨0,rfl,rfl⟩
  ·obtain⟨k,h1,h2⟩:=Aef h
   exact⟨k+1,h1,h2⟩
theorem Aia {α:Type}:∀ {l:List α} {c:List Bool} {k:Nat} {x:α} {v:Bool},l[k]? = some x->c[k]? = some v->(x,v)∈l.zip c
 | [],_,_,_,_,h,_=>by simp at h
 | _::_,[],_,_,_,_,h=>by simp at h
 | y::l,w::c,0,x,v,h1,h2=>by
  simp at h1 h2
  rw [bD,←h1,←h2];exact ah
 | y::l,w::c,k+1,x,v,h1,h2=>by
  rw [bD]
  exact aj _ (Aia (k:=k) (by simpa using h1) (by simpa using h2))
theorem Fg {b:Aa} {p:Ab} (hp:p.Ae.length=b.Ad.length) {i j:Nat}:Tie (Be b p) i j↔∃ (k:Nat) (x:Ag),b.Ad[k]? = some x/\x.Kind=1/\p.Ae.getD k false=true/\((x.A.toNat=i/\x.B.toNat=j)\/(x.A.toNat=j/\x.B.toNat=i)):=by
 constructor
 ·rintro⟨z,hz,h1,h2,h3⟩
  obtain⟨k,g1,g2⟩:=Aef hz
  exact⟨k,z.1,g1,h1,by rw [List.getD,g2,h2];rfl,h3⟩
 ·rintro⟨k,x,h1,h2,h3,h4⟩
  have hk:=(aa.1 h1).1
  refine⟨(x,true),Aia h1 ?_,h2,rfl,h4⟩
  rw [af (by omega)]
  simp only [List.getD,af (show k<p.Ae.length by omega),bF] at h3
  rw [h3]
theorem Sub.conn {b:Aa} {q p:Ab} (hq:q.Ae.length=b.Ad.length) (hp:p.Ae.length=b.Ad.length) (s:Sub b q p) {i j:Nat} (c:Bn (Be b q) i j):Bn (Be b p) i j:=by
 refine Ol (λ i j t=>?_) c
 obtain⟨k,x,h1,h2,h3,h4⟩:=(Fg hq).1 t
 exact (Fg hp).2 ⟨k,x,h1,h2,s.tie k x h1 h2 h3,h4⟩
theorem Sub.tog {b:Aa} (h:Ar b) {q p:Ab} (hq:Aq b q) (hp:Aq b p) (s:Sub b q p) {i j:Nat} (hi:i<b.Ac.length) (hj:j<b.Ac.length) (t:tog b q i j):tog b p i j:=by
 obtain⟨a,c,h1,h2,h3⟩:=t
 have ha:=Kw h h1
 have hc:=Kw h h2
 have cc:=s.conn hq.ncl hp.ncl ((F4 h q (by omega) (by omega)).1 h3)
 have lift:∀ {m:Nat} {v:Int},m<b.Ac.length->Cy b q (m:Int)=some v->Cy b p (m:Int)=some v:=fun {m v} hm e=>by
  rw [E8 h hq hm] at e
  rw [E8 h hp hm]
  by_cases hh:(q.Ac.getD m default).State=2/\q.Ae.getD (brN b m) false=true
  ·rw [if_pos hh] at e
   rw [if_pos (s.con m hm hh.1 hh.2)];exact e
  ·rw [if_neg hh] at e;cases e
 exact⟨a,c,lift hi h1,lift hj h2,(F4 h p (by omega) (by omega)).2 cc⟩
theorem Aek {b:Aa} {q p:Ab} (hs:∀ i:Nat,(q.Ac.getD i default).State=(p.Ac.getD i default).State) (hc:∀ k:Nat,q.Ae.getD k false=true->p.Ae.getD k false=true):Sub b q p:=
 ⟨λ i _ h1 h2=>⟨by rw [←hs];exact h1,hc _ h2⟩,λ k _ _ _ h=>hc k h⟩
theorem Ux {b:Aa} (h:Ar b) {q p:Ab} (hq:Aq b q) (hp:Aq b p) (s:Sub b q p) (ha:Ef b p) (hl:∀ i j,i<b.Ac.length->j<b.Ac.length->tog b q i j->B3 (p.Ac.getD i default) (p.Ac.getD j default)->B3 (q.Ac.getD i default) (q.Ac.getD j default)):Ef b q:=
 (On h).2 λ i j hi hj t=>hl i j hi hj t ((On h).1 ha i j hi hj (s.tog h hq hp hi hj t))
theorem zI (b:Aa) (C:List Bool) (q:Ag->Bool) (hC:C.length=b.Ad.length) (k:Nat) (h:(acC b C q).getD k false=true):C.getD k false=true:=by
 by_cases hk:k<b.Ad.length
 ·rw [K0 b C q hk,ac] at h;exact h.1
 ·have hl:(acC b C q).length=C.length:=Jf _ _
  simp [List.getD,List.getElem?_eq_none (show (acC b C q).length<=k by omega)] at h
theorem Aej {b:Aa} (p:Ab) (n:Nat):∀ (l:List Int) (z:List Bool×List Ak),z.1.length=b.Ad.length->(Ei b p n l z).1.length=b.Ad.length/\∀ k,(Ei b p n l z).1.getD k false=true->z.1.getD k false=true
 | [],_,hz=>⟨hz,λ _ h=>h⟩
 | c::l,z,hz=>by
  have hl:(Gh b p n z c).1.length=b.Ad.length/\∀ k,(Gh b p n z c).1.getD k false=true->z.1.getD k false=true:=by
   unfold Gh
   split
   ·exact⟨by show (acC b z.1 (isC c)).length=_;unfold acC;rw [Jf];exact hz,λ k h=>zI b z.1 (isC c) hz k h⟩
   ·exact⟨hz,λ _ h=>h⟩
  obtain⟨h1,h2⟩:=Aej p n l (Gh b p n z c) hl.1
  exact⟨h1,λ k h=>hl.2 k (h2 k h)⟩
theorem Agd {b:Aa}:∀ (l:List Aj) (z:Ab×List Ak),z.1.Ae.length=b.Ad.length->(Gm b l z).1.Ac=z.1.Ac/\(Gm b l z).1.Ah=z.1.Ah/\∀ k,(Gm b l z).1.Ae.getD k false=true->z.1.Ae.getD k false=true
 | [],_,_=>⟨rfl,rfl,λ _ h=>h⟩
 | x::l,z,hz=>by
  have hs:(H0 b z x).1.Ac=z.1.Ac/\(H0 b z x).1.Ah=z.1.Ah/\(H0 b z x).1.Ae.length=b.Ad.length/\∀ k,(H0 b z x).1.Ae.getD k false=true->z.1.Ae.getD k false=true:=by
   unfold H0
   split
   ·obtain⟨h1,h2⟩:=Aej (Bj z.1 (Iu b x z).1) (Ed x) (Fu b x) (z.1.Ae,(Iu b x z).2) hz
    exact⟨rfl,rfl,h1,h2⟩
   ·exact⟨rfl,rfl,hz,λ _ h=>h⟩
  obtain⟨g1,g2,g3⟩:=Agd l (H0 b z x) hs.2.2.1
  exact⟨g1.trans hs.1,g2.trans hs.2.1,λ k h=>hs.2.2.2 k (g3 k h)⟩
theorem A05 {b:Aa} {p:Ab} (hp:Aq b p):(Gn b p).Ac=(Gv b p).Ac/\(Gn b p).Ah=p.Ah/\∀ k,(Gn b p).Ae.getD k false=true->(Gv b p).Ae.getD k false=true:=by
 have:=Agd (Bd b (Gv b p)) (Gv b p,zF b p) (Jm hp).ncl
 exact⟨this.1,this.2.1,this.2.2⟩
theorem As2 {b:Aa} (h:Ar b) {p:Ab} (hp:Aq b p):Ef b (Gn b p):=by
 obtain⟨h1,_,h3⟩:=A05 hp
 exact Ux h (Qz h hp).2.1 (Jm hp) (Aek (λ i=>by rw [h1]) h3) (Aor h hp) λ i j _ _ _ hl=>by rw [h1];exact hl
def cl (C:List Bool):Nat:=C.count true
theorem Ac7 {b:Aa} (h:Ar b) (p:Ab):(Bd b p).Pairwise λ x y=>∀ c,¬(Dg x c=true/\Dg y c=true):=by
 rw [Fx h,cL]
 refine ((bS.1 List.nodup_range).sublist cw).imp ?_
 rintro f g hfg c ⟨hx,hy⟩
 obtain⟨i,hi,e1⟩:=b9.1 hx
 obtain⟨j,hj,e2⟩:=b9.1 hy
 obtain⟨k,hk,rfl⟩:=am.1 hi
 obtain⟨m,hm,rfl⟩:=am.1 hj
 have g1:=(an.1 hk).2
 have g2:=(an.1 hm).2
 simp only [dy] at e1 e2 g1 g2
 have:k=m:=by omega
 subst this
 rw [g1] at g2
 simp only [al] at g2
 omega
theorem Adm (C:List Bool):cl C<=C.length:=List.count_le_length
def Ao6 (b:Aa) (p q:Ab):Prop:=(∀ k,q.Ae.getD k false=true->p.Ae.getD k false=true)/\∀ i,i<b.Ac.length->(q.Ac.getD i default).State=2->q.Ae.getD (brN b i) false=true->(p.Ac.getD i default).State=2
theorem Ao6.sub {b:Aa} {p q:Ab} (s:Ao6 b p q):Sub b q p:=⟨λ i hi h1 h2=>⟨s.2 i hi h1 h2,s.1 _ h2⟩,λ k _ _ _ h=>s.1 k h⟩
theorem Aqv {x y:Ai} (hx:x.State=2) (hy:y.State=2) (h:B3 x y):B3 (C5 x) (C5 y):=by
 unfold C5
 rw [if_pos hx,if_pos hy]
 exact⟨h.1,by dsimp only;rw [h.1,h.2]⟩
theorem F0 (x:Ai):(C5 x).State=x.State:=by unfold C5;split <;> rfl
theorem Zg {b:Aa} {p:Ab} (t:Int) {i:Nat} (hi:i<p.Ac.length):(wtS b p t).Ac.getD i default=Ez b p.Ae t (C5 (p.Ac.getD i default)) i:=by
 unfold wtS K6
 simp only [ax]
 rw [List.drop_of_length_le (by simp),aG]
 have hl:((p.Ac.map C5).zipIdx.map λ z=>Ez b p.Ae t z.1 z.2).length=p.Ac.length:=by simp
 rw [bN (by omega)]
 simp [List.getD,List.getElem?_eq_getElem hi]
theorem Mb {b:Aa} {p:Ab} (hp:Aq b p) (t:Int):Ao6 b p (wtS b p t):=by
 have hn:=hp.nso
 refine⟨λ _ hk=>hk,λ i hi h1 h2=>?_⟩
 rw [Zg t (by omega)] at h1
 have h2:p.Ae.getD (brN b i) false=true:=h2
 unfold Ez at h1
 split at h1
 ·rename_i hh
  exfalso
  have:=hh.1.2
  unfold Jb at this
  have e:brN b i=(Ft b (i:Int)).toNat:=rfl
  rw [←e,h2] at this
  cases this
 ·rw [F0] at h1;exact h1
theorem Am8 {b:Aa} (h:Ar b) {p:Ab} (hp:Aq b p) (ha:Ef b p) {t:Int} (hq:Aq b (wtS b p t)):Ef b (wtS b p t):=by
 have hn:=hp.nso
 refine Ux h hq hp (Mb hp t).sub ha λ i j hi hj tg hl=>?_
 obtain⟨a,c,h1,h2,_⟩:=tg
 rw [E8 h hq hi] at h1
 rw [E8 h hq hj] at h2
 have k1:(wtS b p t).Ae.getD (brN b i) false=true/\(p.Ac.getD i default).State=2:=by
  split at h1
  ·rename_i hh;exact⟨hh.2,(Mb hp t).2 i hi hh.1 hh.2⟩
  ·cases h1
 have k2:(wtS b p t).Ae.getD (brN b j) false=true/\(p.Ac.getD j default).State=2:=by
  split at h2
  ·rename_i hh;exact⟨hh.2,(Mb hp t).2 j hj hh.1 hh.2⟩
  ·cases h2
 have stay:∀ m,(p.Ac.getD m default).State=2->Ez b p.Ae t (C5 (p.Ac.getD m default)) m=C5 (p.Ac.getD m default):=λ m hm=>by
  unfold Ez
  rw [if_neg (λ hh=>by have:=hh.1.1;rw [F0,hm] at this;omega)]
 rw [Zg t (by omega),Zg t (by omega),stay i k1.2,stay j k2.2]
 exact Aqv k1.2 k2.2 hl
theorem Atb {b:Aa} (h:Ar b) {p:Ab} (hp:Aq b p) {n:Nat} (hn:n<b.Am.toNat) {k:Int} (hk:k∈(isl b p (Bh b p n)).Ac):∃ s:Nat,L9 b p (n:Int)=some ((s:Int),true)/\(s:Int)∈(isl b p (Bh b p n)).Ac/\s<b.Ac.length:=by
 unfold L9
 rw [Azk h hp hn]
 cases hs:(isl b p (Bh b p n)).Ac with
 | nil=>rw [hs] at hk;cases hk
 | cons s l=>
  have hin:=Mv (b:=b) (p:=p) (f:=Bh b p n) (i:=s) (by rw [hs];exact ah)
  refine⟨s.toNat,?_,by rw [aK hin.1];exact ah,by omega⟩
  rw [aK hin.1]
  simp only [ab,hs,aS]
  have e:(((l.length+1:Nat):Int)==0)=false:=by rw [dz];omega
  rw [e];rfl
theorem A6q {p:Ab} {s:Nat} (hs:s<p.Ac.length):getI p.Ac (s:Int)=some (p.Ac.getD s default):=A8 (by
 rw [af hs];simp [List.getD,List.getElem?_eq_getElem hs])
theorem Aw2 {b:Aa} {p:Ab} (hp:Aq b p) {s:Nat} (hs:s<b.Ac.length):C9 (p.Ac.getD s default):=X7 hp.run (by have:=hp.nso;omega)
def Ws (_:Aa) (_ _:Ab):Prop:=True
theorem Sub.nobad {b:Aa} (_:Ar b) {q p:Ab} (_:Aq b q) (_:Aq b p) (_:Sub b q p):Ws b p q:=trivial
theorem Yd {L M:Da} {A B:Nat} (h:∀ i j,Tie L i j->Tie M i j\/(i=A/\j=B)\/(i=B/\j=A)) {i j:Nat} (c:Bn L i j):Bn M i j\/(Bn M i A/\Bn M B j)\/(Bn M i B/\Bn M A j):=by
 obtain⟨r,c⟩:=c
 induction c with
 | refl=>exact .inl (.refl M i)
 | stay _ ih=>exact ih
 | step _ t ih=>
  rcases h _ _ t with t | ⟨rfl,rfl⟩ | ⟨rfl,rfl⟩
  ·rcases ih with c | ⟨c1,c2⟩ | ⟨c1,c2⟩
   ·exact .inl (c.tie t)
   ·exact .inr (.inl ⟨c1,c2.tie t⟩)
   ·exact .inr (.inr ⟨c1,c2.tie t⟩)
  ·rcases ih with c | ⟨c1,c2⟩ | ⟨c1,c2⟩
   ·exact .inr (.inl ⟨c,.refl _ _⟩)
   ·exact .inr (.inl ⟨c1,.refl _ _⟩)
   ·exact .inl c1
  ·rcases ih with c | ⟨c1,c2⟩ | ⟨c1,c2⟩
   ·exact .inr (.inr ⟨c,.refl _ _⟩)
   ·exact .inl c1
   ·exact .inr (.inr ⟨c1,.refl _ _⟩)
theorem F_ {C:List Bool} {j k:Nat} (hne:k≠j) (v:Bool):(C.set j v).getD k false=C.getD k false:=by
 simp only [List.getD,ao,if_neg (λ e:j=k=>hne e.symm)]
theorem A49 {b:Aa} (_:Ar b) {p:Ab} (_:Aq b p) (_:Ef b p) {t:Int} {a:Ak} (_:yW b p t a=0):Ws b p (Anu b p t a):=trivial

structure E5 (b:Aa) (c q:Ab):Prop where
 src:q.Ac=c.Ac
 cl:∀ (k:Nat) x,b.Ad[k]? = some x->x.Kind≠3->q.Ae.getD k false=c.Ae.getD k false
theorem E5.refl (b:Aa) (c:Ab):E5 b c c:=⟨rfl,λ _ _ _ _=>rfl⟩
theorem E5.trans {b:Aa} {c q r:Ab} (s:E5 b c q) (t:E5 b q r):E5 b c r:=⟨t.src.trans s.src,λ k x h1 h2=>(t.cl k x h1 h2).trans (s.cl k x h1 h2)⟩
theorem Uc:∀ (l:List Ag) (c d:List Bool) (s:List Int),c.length=l.length->d.length=l.length->(∀ (k:Nat) x,l[k]? = some x->x.Kind=1->c.getD k false=d.getD k false)->Cn (l.zip c) s=Cn (l.zip d) s
 | [],_,_,_,_,_,_=>rfl
 | _::_,[],_,_,h,_,_=>by simp at h
 | _::_,_::_,[],_,_,h,_=>by simp at h
 | x::l,v::c,w::d,s,h1,h2,h3=>by
  show Cn (l.zip c) (D3 s (x,v))=Cn (l.zip d) (D3 s (x,w))
  have e:D3 s (x,v)=D3 s (x,w):=by
   by_cases hk:x.Kind=1
   ·have:v=w:=h3 0 x rfl hk
    rw [this]
   ·unfold D3
    rw [if_neg (λ hh=>hk hh.1),if_neg (λ hh=>hk hh.1)]
  rw [e]
  exact Uc l c d _ (by simpa using h1) (by simpa using h2) λ k y hy hk=>h3 (k+1) y hy hk
theorem E5.groups {b:Aa} {c q:Ab} (hc:c.Ae.length=b.Ad.length) (hq:q.Ae.length=b.Ad.length) (s:E5 b c q):groups b q=groups b c:=by
 unfold Go.Proofs.YtcigbocngfaopaaGreat.groups
 have key:∀ (xs:List Nat) (t:List Int),xs.foldl (λ s _=>Cn (b.Ad.zip q.Ae) s) t=xs.foldl (λ s _=>Cn (b.Ad.zip c.Ae) s) t:=by
  intro xs
  induction xs with
  | nil=>intro t;rfl
  | cons x xs ih=>
   intro t
   simp only [aY]
   rw [Uc b.Ad q.Ae c.Ae t hq hc λ k x hx hk=>s.cl k x hx (by omega)]
   exact ih _
 exact key _ _
theorem E5.con {b:Aa} (h:Ar b) {c q:Ab} (hc:Aq b c) (hq:Aq b q) (s:E5 b c q) {i:Nat} (hi:i<b.Ac.length):Cy b q (i:Int)=Cy b c (i:Int):=by
 obtain⟨_,_,k2,_,hg⟩:=E4 h hi
 rw [E8 h hq hi,E8 h hc hi,s.src,s.cl _ _ hg (by omega)]
theorem E5.sources {b:Aa} (h:Ar b) {c q:Ab} (hc:Aq b c) (hq:Aq b q) (s:E5 b c q) (f:Nat):(isl b q f).Ac=(isl b c f).Ac:=by
 show El b q b.Ac.length f=El b c b.Ac.length f
 unfold El
 congr 1
 refine cu λ i hi=>?_
 rw [s.con h hc hq (aH.1 hi)]
 unfold Dr
 rw [s.groups hc.ncl hq.ncl]
def fg (b:Aa) (q:Ab) (m:Nat):Option Int:=Dr b q (By b q 3 (m:Int))
theorem D7 {b:Aa} {q:Ab} {f:Nat} {m:Int}:m∈(isl b q f).Af↔∃ k:Nat,m=(k:Int)/\k<b.Af.length/\fg b q k=some (f:Int):=by
 constructor
 ·intro h
  obtain⟨k,hk,e⟩:=am.1 h
  obtain⟨h1,h2⟩:=an.1 hk
  exact⟨k,e.symm,aH.1 h1,by rwa [dy] at h2⟩
 ·rintro⟨k,e,h1,h2⟩
  exact am.2 ⟨k,an.2 ⟨aH.2 h1,by rw [dy];exact h2⟩,e.symm⟩
theorem Mh (b:Aa) (q:Ab) (f:Nat):(isl b q f).Af.Nodup:=by
 show (Gb b q b.Af.length f).Nodup
 unfold Gb
 rw [bS,cL]
 exact ((bS.1 List.nodup_range).sublist cw).imp λ h e=>h (by omega)
theorem Ag2 {x:Aj} {m:Int}:Dg x m=true↔m∈x.Af:=by
 unfold Dg
 rw [b9]
 constructor
 ·rintro⟨y,hy,e⟩
  rw [dy] at e;rw [e];exact hy
 ·intro h;exact⟨m,h,by simp⟩
theorem A2k {b:Aa} {q:Ab} (hq:Aq b q) (m:Nat) (n:Nat):By b (Ba q (acC b q.Ae (isC (m:Int)))) 3 (n:Int)=if n=m then none else By b q 3 (n:Int):=by
 have hq2:=P6 hq (isC (m:Int))
 rw [T5 (p:=Ba q (acC b q.Ae (isC (m:Int)))) hq2.ncl,T5 hq.ncl]
 have hz:∀ z,z∈ofZ b 3 (n:Int)->(acC b q.Ae (isC (m:Int))).getD z.2 false=(q.Ae.getD z.2 false && !decide (n=m)):=λ z hz=>by
  have h1:=Pn hz
  have h2:=(an.1 hz).2
  simp only [ac,dy] at h2
  have hk:=(aa.1 h1).1
  rw [K0 b q.Ae _ hk,Cs h1]
  congr 2
  unfold isC
  rw [h2.1,h2.2,bf]
  simp only [ac,dy,dw,true_and,beq_self_eq_true]
  omega
 by_cases e:n=m
 ·rw [if_pos e]
  have:(ofZ b 3 (n:Int)).find? (λ z=>(Ba q (acC b q.Ae (isC (m:Int)))).Ae.getD z.2 false)=none:=by
   rw [List.find?_eq_none]
   intro z hz2
   have:=hz z hz2
   show ¬(acC b q.Ae (isC (m:Int))).getD z.2 false=true
   rw [this,dA e];simp
  rw [this];rfl
 ·rw [if_neg e]
  congr 1
  have:∀ l:List (Ag×Nat),(∀ z,z∈l->z∈ofZ b 3 (n:Int))->l.find? (λ z=>(Ba q (acC b q.Ae (isC (m:Int)))).Ae.getD z.2 false)=l.find? λ z=>q.Ae.getD z.2 false:=by
   intro l
   induction l with
   | nil=>intro _;rfl
   | cons z l ih=>
    intro hl
    have h1:(Ba q (acC b q.Ae (isC (m:Int)))).Ae.getD z.2 false=q.Ae.getD z.2 false:=by
     show (acC b q.Ae (isC (m:Int))).getD z.2 false=_
     rw [hz z (hl z ah),decide_eq_false e];simp
    simp only [cj,h1]
    rw [ih λ y hy=>hl y (aj _ hy)]
  exact this _ λ z hz=>hz
theorem Aic {b:Aa} {q:Ab} (m:Nat):E5 b q (Ba q (acC b q.Ae (isC (m:Int)))):=⟨rfl,λ k x hx hk=>by
 have hlt:=(aa.1 hx).1
 show (acC b q.Ae (isC (m:Int))).getD k false=_
 rw [K0 b q.Ae _ hlt,Cs hx]
 have:isC (m:Int) x=false:=by unfold isC;rw [dz.2 hk];rfl
 rw [this];simp⟩
theorem A52 {b:Aa} {q:Ab} (hq:Aq b q) (m n:Nat):fg b (Ba q (acC b q.Ae (isC (m:Int)))) n=if n=m then none else fg b q n:=by
 unfold fg
 rw [A2k hq]
 by_cases e:n=m
 ·rw [if_pos e,if_pos e];rfl
 ·rw [if_neg e,if_neg e]
  unfold Dr
  have:Go.Proofs.YtcigbocngfaopaaGreat.groups b (Ba q (acC b q.Ae (isC (m:Int))))=Go.Proofs.YtcigbocngfaopaaGreat.groups b q:=(Aic (b:=b) (q:=q) m).groups hq.ncl (P6 hq (isC (m:Int))).ncl
  show Option.map (λ (a:Int)=>(Go.Proofs.YtcigbocngfaopaaGreat.groups b (Ba q (acC b q.Ae (isC (m:Int))))).getD a.toNat 0) _=_
  rw [this]
def sm (g:Int->Int) (l:List Int):Int:=l.foldr (λ m s=>g m+s) 0
theorem A0w (g:Int->Int) {l m:List Int} (p:l.Perm m):sm g l=sm g m:=by
 induction p with
 | nil=>rfl
 | cons x _ ih=>show g x+sm g _=g x+sm g _;rw [ih]
 | swap x y l=>show g y+(g x+sm g l)=g x+(g y+sm g l);omega
 | trans _ _ i1 i2=>exact i1.trans i2
theorem Alh (L:List Int) (l:List Int):Ir L l=sm (λ m=>L.getD m.toNat 0) l:=by
 have key:∀ (l:List Int) (s:Int),l.foldl (λ s c=>s+L.getD c.toNat 0) s=s+sm (λ m=>L.getD m.toNat 0) l:=by
  intro l
  induction l with
  | nil=>intro s;simp [sm]
  | cons x l ih=>
   intro s
   rw [aY,ih]
   show _=s+(L.getD x.toNat 0+sm _ l)
   omega
 have:=key l 0
 unfold Ir
 rw [this];omega
theorem Afk {g g':Int->Int}:∀ {l:List Int},(∀ m,m∈l->g m=g' m)->sm g l=sm g' l
 | [],_=>rfl
 | x::l,h=>by
  show g x+sm g l=g' x+sm g' l
  rw [h x ah,Afk λ m hm=>h m (aj _ hm)]
theorem And {g:Int->Int}:∀ {l:List Int},(∀ m,m∈l->0<=g m)->0<=sm g l
 | [],_=>by simp [sm]
 | x::l,h=>by
  have h1:=h x ah
  have h2:=And (l:=l) λ m hm=>h m (aj _ hm)
  show 0<=g x+sm g l
  omega
theorem Ali {g:Int->Int}:∀ {l:List Int},(∀ m,m∈l->g m=0)->sm g l=0
 | [],_=>rfl
 | x::l,h=>by
  show g x+sm g l=0
  rw [h x ah,Ali λ m hm=>h m (aj _ hm)];omega
theorem A2a {g g':Int->Int} {x:Int} {l:List Int} (hn:l.Nodup) (hx:x∈l) (h:∀ m,m∈l->m≠x->g m=g' m):sm g l=sm g' l+(g x-g' x):=by
 induction l with
 | nil=>cases hx
 | cons y l ih=>
  obtain⟨n1,n2⟩:=List.nodup_cons.1 hn
  show g y+sm g l=g' y+sm g' l+(g x-g' x)
  by_cases e:y=x
  ·subst e
   rw [Afk λ m hm=>h m (aj _ hm) λ e=>n1 (by rw [←e];exact hm)]
   omega
  ·have hxl:x∈l:=by
    rcases ag.1 hx with e2 | e2
    ·exact absurd e2.symm e
    ·exact e2
   rw [h y ah e,ih n2 hxl λ m hm=>h m (aj _ hm)]
   omega
theorem vX {b:Aa} (h:Ar b) {m:Int}:m∈Cc b↔0<=m/\m<b.Af.length:=by
 constructor
 ·exact jD h
 ·intro hm
  have hs:=(I8 h).2
  obtain⟨k,hk,e⟩:=hs.mem m.toNat (by omega)
  have hl:=hs.len
  have:(Cc b)[k]? = some m:=by
   rw [af (by omega)]
   simp only [List.getD,af (show k<(Cc b).length by omega),bF] at e
   rw [e];congr 1;omega
  exact ae this
def Ra (b:Aa) (m:Int):Int:=(b.Af.getD m.toNat default).Least
abbrev Fm (b:Aa) (q:Ab) (n:Nat):List Int:=(isl b q (Bh b q n)).Af
theorem Ih (b:Aa) (q:Ab) (n:Nat) (hs:0<(isl b q (Bh b q n)).Ac.length):Bm b q n=sm (λ m=>q.Al.getD m.toNat 0) (Fm b q n):=by
 unfold Bm;rw [if_pos hs,Alh]
theorem yT {b:Aa} {q:Ab} {n:Nat} (he:0<Bu b q n):0<(isl b q (Bh b q n)).Ac.length:=by
 by_cases hs:0<(isl b q (Bh b q n)).Ac.length
 ·exact hs
 ·exfalso
  have e1:(isl b q (Bh b q n)).Ac=[]:=List.length_eq_zero_iff.1 (by omega)
  unfold Bu Bm Cg at he
  rw [if_neg hs,e1] at he
  simp [Ir] at he
theorem A1p {b:Aa} {q:Ab} {n:Nat} {L:List Int} {a v:Int} (ha:a∈Fm b q n) (hl:a.toNat<L.length) (hs:0<(isl b q (Bh b q n)).Ac.length) :
  Bm b (Bj q (L.set a.toNat v)) n=Bm b (Bj q L) n-(L.getD a.toNat 0-v):=by
 have h0:=Gq ha
 rw [Ih b (Bj q (L.set a.toNat v)) n hs,Ih b (Bj q L) n hs]
 show sm (λ m=>(L.set a.toNat v).getD m.toNat 0) (Fm b q n)=sm (λ m=>L.getD m.toNat 0) (Fm b q n)-_
 have e:(L.set a.toNat v).getD a.toNat 0=v:=by rw [Jj,if_pos ⟨rfl,hl⟩]
 rw [A2a (l:=Fm b q n) (g:=λ m=>(L.set a.toNat v).getD m.toNat 0) (g':=λ m=>L.getD m.toNat 0) (Mh b q _) ha λ m hm hne=>?_]
 ·rw [e];omega
 ·have h1:=Gq hm
  simp only [Jj]
  rw [if_neg λ e=>hne (by omega)]
structure Ai7 (b:Aa) (q:Ab) (n:Nat) (l:List Int) (j:Nat) (L:List Int):Prop where
 ok:Aq b (Bj q L)
 le:∀ m:Nat,L.getD m 0<=q.Al.getD m 0
 out:∀ m:Nat,(m:Int)∉l.take j->L.getD m 0=q.Al.getD m 0
 low:0<Bu b (Bj q L) n->∀ m,m∈l.take j->L.getD m.toNat 0<=Ra b m
 ord:∀ (i:Nat) k,i<j->l[i]? = some k->L.getD k.toNat 0≠q.Al.getD k.toNat 0->∀ (i':Nat) m,i'<i->l[i']? = some m->L.getD m.toNat 0<=Ra b m
theorem M0 {l:List Int} {j:Nat} {m:Int}:m∈l.take j↔∃ i,i<j/\l[i]? = some m:=by
 rw [cR]
 constructor
 ·rintro⟨i,hi⟩
  rw [ap] at hi
  split at hi
  ·exact⟨i,by omega,hi⟩
  ·cases hi
 ·rintro⟨i,hi,h⟩
  exact⟨i,by rw [ap,if_pos hi];exact h⟩
theorem Ai7.step {b:Aa} (h:Ar b) {q:Ab} {n:Nat} {l:List Int} (hn:l.Nodup) (hl:∀ c,c∈l->c∈Fm b q n) {j:Nat} {c:Int} (hc:l[j]? = some c) {z:List Int×List Ak} (hI:Ai7 b q n l j z.1):Ai7 b q n l (j+1) (J0 b q n z c).1:=by
 have hcm:=hl c (ae hc)
 have hin:=Gq hcm
 obtain⟨g1,g2,g3,g4⟩:=O5 h hI.ok hin.1 hin.2
 have hlen:c.toNat<z.1.length:=by
  have:z.1.length=b.Af.length:=hI.ok.nli
  omega
 have hnot:∀ m,m∈l.take j->m≠c:=λ m hm e=>by
  subst e
  obtain⟨i,hi,hm⟩:=M0.1 hm
  have:=(List.getElem?_inj (aa.1 hm).1 hn).1 (hm.trans hc.symm)
  omega
 have htk:∀ m,m∈l.take (j+1)↔m∈l.take j\/m=c:=λ m=>by
  rw [Bg hc,aq,aP]
 have hok:=Al6 (n:=n) h hI.ok hin.1 hin.2
 have hpos:∀ m,m∈l.take j->0<=m:=λ m hm=>(Gq (hl m (aT hm))).1
 by_cases hp:0<Dq b (Bj q z.1) n c
 ·have e:(J0 b q n z c).1=z.1.set c.toNat (z.1.getD c.toNat 0-Dq b (Bj q z.1) n c):=by unfold J0;rw [if_pos hp]
  rw [e] at hok ⊢
  have hm1:Dq b (Bj q z.1) n c<=Bu b (Bj q z.1) n:=Int.min_le_left _ _
  have hm2:Dq b (Bj q z.1) n c<=z.1.getD c.toNat 0-Ra b c:=cJ _ _
  have hm3:Dq b (Bj q z.1) n c=Bu b (Bj q z.1) n\/Dq b (Bj q z.1) n c=z.1.getD c.toNat 0-Ra b c:=by
   have:Dq b (Bj q z.1) n c=min (Bu b (Bj q z.1) n) (z.1.getD c.toNat 0-Ra b c):=rfl
   omega
  have hs:=yT (b:=b) (q:=Bj q z.1) (n:=n) (by omega)
  have hload:=A1p (v:=z.1.getD c.toNat 0-Dq b (Bj q z.1) n c) hcm hlen hs
  have hexc:Bu b (Bj q (z.1.set c.toNat (z.1.getD c.toNat 0-Dq b (Bj q z.1) n c))) n=Bu b (Bj q z.1) n-Dq b (Bj q z.1) n c:=by
   have e1:Bu b (Bj q z.1) n=max 0 (Bm b (Bj q z.1) n-Cg b q n):=rfl
   have e2:∀ L,Bu b (Bj q L) n=max 0 (Bm b (Bj q L) n-Cg b q n):=λ _=>rfl
   rw [e2,hload]
   omega
  have hget:∀ m:Nat,m≠c.toNat->(z.1.set c.toNat (z.1.getD c.toNat 0-Dq b (Bj q z.1) n c)).getD m 0=z.1.getD m 0:=λ m hm=>by
   rw [Jj,if_neg λ e=>hm e.1.symm]
  have hgc:(z.1.set c.toNat (z.1.getD c.toNat 0-Dq b (Bj q z.1) n c)).getD c.toNat 0=z.1.getD c.toNat 0-Dq b (Bj q z.1) n c:=by
   rw [Jj,if_pos ⟨rfl,hlen⟩]
  have hne:∀ m,m∈l.take j->m.toNat≠c.toNat:=λ m hm e=>hnot m hm (by have:=hpos m hm;omega)
  refine⟨hok,λ m=>?_,λ m hm=>?_,λ he m hm=>?_,λ i k hi hk hch i' m hi' hm=>?_⟩
  ·have:=hI.le m
   by_cases em:m=c.toNat
   ·subst em;rw [hgc];omega
   ·rw [hget m em];exact this
  ·have hmc:m≠c.toNat:=λ e=>hm ((htk _).2 (.inr (by omega)))
   rw [hget m hmc]
   exact hI.out m λ hh=>hm ((htk _).2 (.inl hh))
  ·rcases (htk m).1 hm with h1 | rfl
   ·rw [hget _ (hne m h1)]
    exact hI.low (by omega) m h1
   ·rw [hgc];omega
  ·have hm':m∈l.take j:=M0.2 ⟨i',by omega,hm⟩
   rw [hget _ (hne m hm')]
   by_cases ei:i=j
   ·exact hI.low (by omega) m hm'
   ·have hk':k∈l.take j:=M0.2 ⟨i,by omega,hk⟩
    rw [hget _ (hne k hk')] at hch
    exact hI.ord i k (by omega) hk hch i' m hi' hm
 ·have e:J0 b q n z c=z:=by unfold J0;rw [if_neg hp]
  rw [e]
  refine⟨hI.ok,hI.le,λ m hm=>hI.out m λ hh=>hm ((htk _).2 (.inl hh)),λ he m hm=>?_,λ i k hi hk hch i' m hi' hm=>?_⟩
  ·rcases (htk m).1 hm with h1 | rfl
   ·exact hI.low he m h1
   ·have:Dq b (Bj q z.1) n m=min (Bu b (Bj q z.1) n) (z.1.getD m.toNat 0-Ra b m):=rfl
    omega
  ·by_cases ei:i=j
   ·subst ei
    rw [hc] at hk;cases hk
    exfalso
    refine hch (by
     have:=hI.out c.toNat λ hh=>hnot _ hh (by omega)
     exact this)
   ·exact hI.ord i k (by omega) hk hch i' m hi' hm
theorem A1d {b:Aa} (h:Ar b) {q:Ab} (hq:Aq b q) {n:Nat} {l:List Int} (hn:l.Nodup) (hl:∀ c,c∈l->c∈Fm b q n) (acts:List Ak):Ai7 b q n l l.length (Hq b q n l (q.Al,acts)).1:=by
 have key:∀ j,j<=l.length->Ai7 b q n l j (Hq b q n (l.take j) (q.Al,acts)).1:=by
  intro j
  induction j with
  | zero=>intro _;exact⟨hq,λ _=>bu _,λ _ _=>rfl,λ _ m hm=>by simp at hm,λ i _ hi=>by omega⟩
  | succ j ih=>
   intro hj
   have hc:l[j]? = some l[j]:=af (by omega)
   have e:Hq b q n (l.take (j+1)) (q.Al,acts)=J0 b q n (Hq b q n (l.take j) (q.Al,acts)) l[j]:=by
    rw [Bg hc];unfold Hq;rw [aM];rfl
   rw [e]
   exact (ih (by omega)).step h hn hl hc
 have:=key l.length (au _)
 rw [ay] at this
 exact this
theorem Z5 {g:Int->Int}:∀ {l' l:List Int},l'.Nodup->(∀ m,m∈l'->m∈l)->(∀ m,m∈l->0<=g m)->sm g l'<=sm g l
 | [],l,_,_,h=>And h
 | x::l',l,hn,hs,h=>by
  obtain⟨n1,n2⟩:=List.nodup_cons.1 hn
  have hp:=List.perm_cons_erase (hs x ah)
  have:=Z5 (g:=g) (l':=l') (l:=l.erase x) n2 (λ m hm=>by
   rcases ag.1 (hp.mem_iff.1 (hs m (aj _ hm))) with e | e
   ·subst e;exact absurd hm n1
   ·exact e) λ m hm=>h m (List.mem_of_mem_erase hm)
  rw [A0w g hp]
  show g x+sm g l'<=g x+sm g (l.erase x)
  omega
theorem Em {b:Aa} {q r:Ab} (hq:Aq b q) (hr:Aq b r) (s:E5 b q r) (n:Nat):Bh b r n=Bh b q n:=by
 unfold Bh;rw [s.groups hq.ncl hr.ncl]
theorem Afm {b:Aa} (h:Ar b) {q r:Ab} (hq:Aq b q) (hr:Aq b r) (s:E5 b q r) (n:Nat):Cg b r n=Cg b q n:=by
 unfold Cg;rw [Em hq hr s,s.sources h hq hr]
theorem jQ {b:Aa} (h:Ar b) {q:Ab} (hq:Aq b q) {n:Nat}:∀ m,m∈Fm b q n->0<=q.Al.getD m.toNat 0:=λ m hm=>(O5 h hq (Gq hm).1 (Gq hm).2).2.1
theorem Amb {b:Aa} (h:Ar b) {q r:Ab} (hq:Aq b q) (hr:Aq b r) (s:E5 b q r) (hL:r.Al=q.Al) (n:Nat) (hs:∀ m,m∈Fm b r n->m∈Fm b q n):Bu b r n<=Bu b q n:=by
 unfold Bu
 rw [Afm h hq hr s]
 have key:Bm b r n<=Bm b q n:=by
  by_cases hh:0<(isl b q (Bh b q n)).Ac.length
  ·rw [Ih b q n hh,Ih b r n (by rw [Em hq hr s,s.sources h hq hr];exact hh),hL]
   exact Z5 (Mh b r _) hs (jQ h hq)
  ·have e1:Bm b q n=0:=by unfold Bm;rw [if_neg hh]
   have e2:Bm b r n=0:=by unfold Bm;rw [Em hq hr s,s.sources h hq hr,if_neg hh]
   omega
 omega
structure Ml (b:Aa) (q:Ab) (n:Nat) (l:List Int) (j:Nat) (C:List Bool):Prop where
 ok:Aq b (Ba q C)
 skel:E5 b q (Ba q C)
 mono:∀ k:Nat,C.getD k false=true->q.Ae.getD k false=true
 fgs:∀ k:Nat,fg b (Ba q C) k=fg b q k\/fg b (Ba q C) k=none/\(k:Int)∈l.take j
 pos:0<Bu b (Ba q C) n->∀ m,m∈l.take j->0<q.Al.getD m.toNat 0->fg b (Ba q C) m.toNat=none
 ord:∀ (i:Nat) k,i<j->l[i]? = some k->fg b (Ba q C) k.toNat=none->0<Bu b q n/\∀ (i':Nat) m,i'<i->l[i']? = some m->fg b (Ba q C) m.toNat≠none->q.Al.getD m.toNat 0<=0
theorem Ml.sub {b:Aa} {q:Ab} (hq:Aq b q) {n:Nat} {l:List Int} {j:Nat} {C:List Bool} (hI:Ml b q n l j C):∀ m,m∈Fm b (Ba q C) n->m∈Fm b q n:=λ m hm=>by
 obtain⟨k,e,h1,h2⟩:=D7.1 hm
 rw [Em hq hI.ok hI.skel] at h2
 refine D7.2 ⟨k,e,h1,?_⟩
 rcases hI.fgs k with h3 | h3
 ·rw [←h3];exact h2
 ·rw [h3.1] at h2;cases h2
theorem Ml.step {b:Aa} (h:Ar b) {q:Ab} (hq:Aq b q) {n:Nat} {l:List Int} (hn:l.Nodup) (hl:∀ c,c∈l->c∈Fm b q n) {j:Nat} {c:Int} (hc:l[j]? = some c) {z:List Bool×List Ak} (hI:Ml b q n l j z.1):Ml b q n l (j+1) (Gh b q n z c).1:=by
 have hcm:=hl c (ae hc)
 have hin:=Gq hcm
 have htk:∀ m,m∈l.take (j+1)↔m∈l.take j\/m=c:=λ m=>by
  rw [Bg hc,aq,aP]
 have hpos:∀ m,m∈l.take j->0<=m:=λ m hm=>(Gq (hl m (aT hm))).1
 have hnot:∀ m,m∈l.take j->m≠c:=λ m hm e=>by
  subst e
  obtain⟨i,hi,hm⟩:=M0.1 hm
  have:=(List.getElem?_inj (aa.1 hm).1 hn).1 (hm.trans hc.symm)
  omega
 have hexc:=Amb h hq hI.ok hI.skel rfl n (hI.sub hq)
 obtain⟨a,rfl⟩:∃ a:Nat,c=(a:Int):=⟨c.toNat,by omega⟩
 have hfc:fg b q a≠none:=by
  obtain⟨k,e,_,h2⟩:=D7.1 hcm
  have:k=a:=by omega
  subst this
  rw [h2];intro hh;cases hh
 by_cases hp:0<q.Al.getD (a:Int).toNat 0/\0<Bu b (Ba q z.1) n
 ·have e:(Gh b q n z (a:Int)).1=acC b z.1 (isC (a:Int)):=by unfold Gh;rw [if_pos hp]
  rw [e]
  have hok:Aq b (Ba q (acC b z.1 (isC (a:Int)))):=P6 hI.ok (isC (a:Int))
  have hfg:∀ k:Nat,fg b (Ba q (acC b z.1 (isC (a:Int)))) k=if k=a then none else fg b (Ba q z.1) k:=λ k=>A52 hI.ok a k
  have hsk:E5 b (Ba q z.1) (Ba q (acC b z.1 (isC (a:Int)))):=Aic (q:=Ba q z.1) a
  have hsub:∀ m,m∈Fm b (Ba q (acC b z.1 (isC (a:Int)))) n->m∈Fm b (Ba q z.1) n:=λ m hm=>by
   obtain⟨k,e,h1,h2⟩:=D7.1 hm
   rw [Em hI.ok hok hsk,hfg] at h2
   split at h2
   ·cases h2
   ·exact D7.2 ⟨k,e,h1,h2⟩
  have hle:=Amb h hI.ok hok hsk rfl n hsub
  refine⟨hok,hI.skel.trans hsk,λ k hk=>hI.mono k ?_,λ k=>?_,λ he m hm hL=>?_,λ i k hi hk hf=>⟨by omega,λ i' m hi' hm hfm=>?_⟩⟩
  ·by_cases hlt:k<b.Ad.length
   ·rw [K0 b z.1 _ hlt,ac] at hk
    exact hk.1
   ·have:(acC b z.1 (isC (a:Int))).length=b.Ad.length:=hok.ncl
    rw [List.getD,bR (by omega)] at hk
    cases hk
  ·rw [hfg]
   split
   ·rename_i e;subst e
    exact .inr ⟨rfl,(htk _).2 (.inr rfl)⟩
   ·rcases hI.fgs k with h1 | h1
    ·exact .inl h1
    ·exact .inr ⟨h1.1,(htk _).2 (.inl h1.2)⟩
  ·rw [hfg]
   split
   ·rfl
   ·rename_i hne
    rcases (htk m).1 hm with h1 | h1
    ·exact hI.pos (by omega) m h1 hL
    ·exact absurd (by rw [h1];exact ai a) hne
  ·rw [hfg] at hfm
   split at hfm
   ·exact absurd rfl hfm
   ·have hm':m∈l.take j:=M0.2 ⟨i',by omega,hm⟩
    by_cases h0:0<q.Al.getD m.toNat 0
    ·exact absurd (hI.pos hp.2 m hm' h0) hfm
    ·omega
 ·have e:Gh b q n z (a:Int)=z:=by unfold Gh;rw [if_neg hp]
  rw [e]
  refine⟨hI.ok,hI.skel,hI.mono,λ k=>?_,λ he m hm hL=>?_,λ i k hi hk hf=>?_⟩
  ·rcases hI.fgs k with h1 | h1
   ·exact .inl h1
   ·exact .inr ⟨h1.1,(htk _).2 (.inl h1.2)⟩
  ·rcases (htk m).1 hm with h1 | h1
   ·exact hI.pos he m h1 hL
   ·subst h1;exact absurd ⟨hL,he⟩ hp
  ·by_cases ei:i=j
   ·exfalso
    subst ei
    rw [hc] at hk;cases hk
    rw [ai] at hf
    rcases hI.fgs a with h1 | h1
    ·exact hfc (h1.symm.trans hf)
    ·exact hnot _ h1.2 rfl
   ·exact hI.ord i k (by omega) hk hf
theorem Awu {b:Aa} (h:Ar b) {q:Ab} (hq:Aq b q) {n:Nat} {l:List Int} (hn:l.Nodup) (hl:∀ c,c∈l->c∈Fm b q n) (acts:List Ak):Ml b q n l l.length (Ei b q n l (q.Ae,acts)).1:=by
 have key:∀ j,j<=l.length->Ml b q n l j (Ei b q n (l.take j) (q.Ae,acts)).1:=by
  intro j
  induction j with
  | zero=>intro _;exact⟨hq,E5.refl b q,λ _ hk=>hk,λ _=>.inl rfl,λ _ m hm=>by simp at hm,λ i _ hi=>by omega⟩
  | succ j ih=>
   intro hj
   have hc:l[j]? = some l[j]:=af (by omega)
   have e:Ei b q n (l.take (j+1)) (q.Ae,acts)=Gh b q n (Ei b q n (l.take j) (q.Ae,acts)) l[j]:=by
    rw [Bg hc];unfold Ei;rw [aM];rfl
   rw [e]
   exact (ih (by omega)).step h hq hn hl hc
 have:=key l.length (au _)
 rw [ay] at this
 exact this
theorem Ml.none {b:Aa} (h:Ar b) {q:Ab} (hq:Aq b q) {n:Nat} {l:List Int} (hl:∀ c,c∈Fm b q n->c∈l) {C:List Bool} (hI:Ml b q n l l.length C):Bu b (Ba q C) n=0:=by
 have h0:0<=Bu b (Ba q C) n:=Int.le_max_left _ _
 by_cases hp:0<Bu b (Ba q C) n
 ·exfalso
  have hs:=yT hp
  have hz:Bm b (Ba q C) n=0:=by
   rw [Ih b (Ba q C) n hs]
   refine Ali λ m hm=>?_
   have hnn:=jQ h hI.ok m hm
   by_cases hL:0<q.Al.getD m.toNat 0
   ·exfalso
    have hf:=hI.pos hp m (by rw [ay];exact hl m (hI.sub hq m hm)) hL
    obtain⟨k,e,_,h2⟩:=D7.1 hm
    have:m.toNat=k:=by omega
    rw [this,h2] at hf;cases hf
   ·have:(Ba q C).Al=q.Al:=rfl
    rw [this] at hnn ⊢
    omega
  have hr:0<=Cg b (Ba q C) n:=by
   unfold Cg
   rw [Alh]
   refine And λ m hm=>?_
   have hm2:=Mv hm
   have hg:b.Ac[m.toNat]? = some b.Ac[m.toNat]:=af (by omega)
   have e:(K7 b).getD m.toNat 0=b.Ac[m.toNat].Rating:=by simp [K7,List.getD,hg]
   have hr:=(h.so _ (ae hg)).1
   show 0<=(K7 b).getD m.toNat 0
   rw [e];omega
  unfold Bu at hp
  omega
 ·omega
theorem Ah7 {b:Aa} (h:Ar b) {c:Ab} {f:Nat} (hx:isl b c f∈Bd b c):Bh b c (Ed (isl b c f))=f:=by
 have hm:((Ed (isl b c f):Nat):Int)∈D0 b c b.Am.toNat f:=by
  have hI:=jS h hx
  have e:(isl b c f).Am=D0 b c b.Am.toNat f:=rfl
  have hne:=hI.ne
  have h0:((Ed (isl b c f):Nat):Int)=(isl b c f).Am.headD 0:=by
   unfold Ed
   cases hl:(isl b c f).Am with
   | nil=>exact absurd hl hne
   | cons y l=>
    have:=(hI.bus y (by rw [hl];exact ah)).1
    show ((y.toNat:Nat):Int)=y
    omega
  rw [h0,←e]
  cases hl:(isl b c f).Am with
  | nil=>exact absurd hl hne
  | cons y l=>exact ah
 obtain⟨k,hk,e⟩:=am.1 hm
 obtain⟨_,h2⟩:=an.1 hk
 have ek:k=Ed (isl b c f):=by omega
 subst ek
 unfold Bh
 rw [dy] at h2
 rw [h2];exact ai f
theorem A3k {b:Aa} (h:Ar b) {c:Ab} {x:Aj} (hx:x∈Bd b c):x=isl b c (Bh b c (Ed x))/\Ed x<b.Am.toNat:=by
 obtain⟨_,hlt⟩:=Yi (jS h hx)
 obtain⟨h1,_⟩:=an.1 hx
 obtain⟨f,hf,rfl⟩:=am.1 h1
 exact⟨by rw [Ah7 h hx],hlt⟩
theorem Aya {b:Aa} (h:Ar b) {q r:Ab} (hq:Aq b q) (hr:Aq b r) (s:E5 b q r) (hL:∀ k:Nat,r.Al.getD k 0<=q.Al.getD k 0) (n:Nat) (hs:∀ m,m∈Fm b r n->m∈Fm b q n):Bu b r n<=Bu b q n:=by
 unfold Bu
 rw [Afm h hq hr s]
 have key:Bm b r n<=Bm b q n:=by
  by_cases hh:0<(isl b q (Bh b q n)).Ac.length
  ·rw [Ih b q n hh,Ih b r n (by rw [Em hq hr s,s.sources h hq hr];exact hh)]
   have h1:∀ (l:List Int),sm (λ m=>r.Al.getD m.toNat 0) l<=sm (λ m=>q.Al.getD m.toNat 0) l:=by
    intro l
    induction l with
    | nil=>exact bu _
    | cons a l ih=>
     have:=hL a.toNat
     show r.Al.getD a.toNat 0+sm _ l<=q.Al.getD a.toNat 0+sm _ l
     omega
   exact cv (h1 _) (Z5 (Mh b r _) hs (jQ h hq))
  ·have e1:Bm b q n=0:=by unfold Bm;rw [if_neg hh]
   have e2:Bm b r n=0:=by unfold Bm;rw [Em hq hr s,s.sources h hq hr,if_neg hh]
   omega
 omega
structure Don (b:Aa) (c q:Ab) (x:Aj):Prop where
 exc:Bu b q (Ed x)=0
 ord:∀ (i:Nat) k,(Fu b x)[i]? = some k->(fg b q k.toNat=none\/q.Al.getD k.toNat 0≠c.Al.getD k.toNat 0)->∀ (i':Nat) m,i'<i->(Fu b x)[i']? = some m->fg b q m.toNat≠none->q.Al.getD m.toNat 0<=Ra b m/\(fg b q k.toNat=none->q.Al.getD m.toNat 0<=0)
structure Aft (b:Aa) (D:List Aj) (q r:Ab):Prop where
 ok:Aq b r
 skel:E5 b q r
 brk:r.Ah=q.Ah
 mono:∀ k:Nat,r.Ae.getD k false=true->q.Ae.getD k false=true
 le:∀ k:Nat,r.Al.getD k 0<=q.Al.getD k 0
 fgs:∀ k:Nat,fg b r k=fg b q k\/fg b r k=none
 out:∀ k:Nat,(∀ x,x∈D->Dg x (k:Int)=false)->fg b r k=fg b q k/\r.Al.getD k 0=q.Al.getD k 0
theorem Aft.refl {b:Aa} {q:Ab} (hq:Aq b q):Aft b [] q q:=⟨hq,E5.refl b q,rfl,λ _ hk=>hk,λ _=>bu _,λ _=>.inl rfl,λ _ _=>⟨rfl,rfl⟩⟩
theorem Aft.trans {b:Aa} {D E:List Aj} {q r s:Ab} (u:Aft b D q r) (v:Aft b E r s):Aft b (D++E) q s where
 ok:=v.ok
 skel:=u.skel.trans v.skel
 brk:=v.brk.trans u.brk
 mono k hk:=u.mono k (v.mono k hk)
 le k:=cv (v.le k) (u.le k)
 fgs k:=by
  rcases v.fgs k with h1 | h1
  ·rw [h1];exact u.fgs k
  ·exact .inr h1
 out k hk:=by
  obtain⟨a1,a2⟩:=u.out k λ x hx=>hk x (aq.2 (.inl hx))
  obtain⟨b1,b2⟩:=v.out k λ x hx=>hk x (aq.2 (.inr hx))
  exact⟨b1.trans a1,b2.trans a2⟩
theorem Aft.con {b:Aa} {D:List Aj} {q r:Ab} (hq:Aq b q) (u:Aft b D q r) (n:Nat):∀ m,m∈Fm b r n->m∈Fm b q n:=λ m hm=>by
 obtain⟨k,e,h1,h2⟩:=D7.1 hm
 rw [Em hq u.ok u.skel] at h2
 refine D7.2 ⟨k,e,h1,?_⟩
 rcases u.fgs k with h3 | h3
 ·rw [←h3];exact h2
 ·rw [h3] at h2;cases h2
theorem Q1 {b:Aa} {x:Aj} {k:Int} (hk:k∈Fu b x):Dg x k=true:=(an.1 hk).2
theorem Don.aft {b:Aa} (h:Ar b) {c q r:Ab} (hq:Aq b q) {x:Aj} {D:List Aj} (u:Don b c q x) (v:Aft b D q r) (hd:∀ y,y∈D->∀ k,¬(Dg x k=true/\Dg y k=true)):Don b c r x:=by
 have hsame:∀ k,k∈Fu b x->fg b r k.toNat=fg b q k.toNat/\r.Al.getD k.toNat 0=q.Al.getD k.toNat 0:=λ k hk=>by
  refine v.out k.toNat λ y hy=>?_
  have h0:=(V1 h hk).1
  have e:(k.toNat:Int)=k:=by omega
  rw [e]
  cases hy2:Dg y k
  ·rfl
  ·exact absurd ⟨Q1 hk,hy2⟩ (hd y hy k)
 refine⟨?_,λ i k hk hch i' m hi hm hf=>?_⟩
 ·have h1:=Aya h hq v.ok v.skel v.le (Ed x) (v.con hq _)
  have h2:0<=Bu b r (Ed x):=Int.le_max_left _ _
  have h3:=u.exc
  omega
 ·obtain⟨a1,a2⟩:=hsame k (ae hk)
  obtain⟨b1,b2⟩:=hsame m (ae hm)
  rw [a1,a2] at hch
  rw [b1] at hf
  rw [a1,b2]
  exact u.ord i k hk hch i' m hi hm hf
theorem Aw5 {b:Aa} (h:Ar b) {c q:Ab} (hc:Aq b c) {D:List Aj} (u:Aft b D c q) (hq:Aq b q) {x:Aj} (hx:x∈Bd b c) (hd:∀ y,y∈D->∀ k,¬(Dg y k=true/\Dg x k=true)) (acts:List Ak) :
  Aft b [x] q (H0 b (q,acts) x).1/\Don b c (H0 b (q,acts) x).1 x:=by
 obtain⟨ex,hlt⟩:=A3k h hx
 have hg:Bh b q (Ed x)=Bh b c (Ed x):=Em hc hq u.skel _
 have hso:(isl b q (Bh b q (Ed x))).Ac=x.Ac:=by rw [hg,u.skel.sources h hc hq,←ex]
 have hsame:∀ k,k∈Fu b x->fg b q k.toNat=fg b c k.toNat/\q.Al.getD k.toNat 0=c.Al.getD k.toNat 0:=λ k hk=>by
  refine u.out k.toNat λ y hy=>?_
  have h0:=(V1 h hk).1
  have e:(k.toNat:Int)=k:=by omega
  rw [e]
  cases hy2:Dg y k
  ·rfl
  ·exact absurd ⟨hy2,Q1 hk⟩ (hd y hy k)
 have hnd:(Fu b x).Nodup:=(Abm h).sublist cw
 have hcon:∀ k,k∈Fu b x->k∈Fm b q (Ed x):=λ k hk=>by
  have h1:k∈(isl b c (Bh b c (Ed x))).Af:=by rw [←ex];exact Ag2.1 (Q1 hk)
  obtain⟨a,e,h2,h3⟩:=D7.1 h1
  have h4:=(hsame k hk).1
  have ea:k.toNat=a:=by omega
  rw [ea] at h4
  exact D7.2 ⟨a,e,h2,by rw [hg,h4];exact h3⟩
 have hrev:∀ k,k∈Fm b q (Ed x)->k∈Fu b x:=λ k hk=>by
  have h1:=u.con hc _ k hk
  have h2:k∈x.Af:=by rw [ex];exact h1
  exact an.2 ⟨(vX h).2 (Gq h1),Ag2.2 h2⟩
 unfold H0
 split
 ·rename_i hs
  have hlow:=A1d h hq hnd hcon acts
  have hq1:=hlow.ok
  have htr:=Awu h hq1 (n:=Ed x) hnd hcon (Iu b x (q,acts)).2
  have hex:=htr.none h hq1 hrev
  show Aft b [x] q (Ba (Bj q (Iu b x (q,acts)).1) (M7 b x (q,acts)).1)/\Don b c (Ba (Bj q (Iu b x (q,acts)).1) (M7 b x (q,acts)).1) x
  refine⟨⟨htr.ok,?_,rfl,htr.mono,hlow.le,λ k=>?_,λ k hk=>?_⟩,⟨hex,λ i k hk hch i' m hi hm hf=>?_⟩⟩
  ·exact⟨rfl,htr.skel.cl⟩
  ·rcases htr.fgs k with h1 | h1
   ·exact .inl h1
   ·exact .inr h1.1
  ·have hkx:=hk x ah
   have hno:(k:Int)∉Fu b x:=λ hh=>by rw [Q1 hh] at hkx;cases hkx
   refine⟨?_,hlow.out k λ hh=>hno (aT hh)⟩
   rcases htr.fgs k with h1 | h1
   ·exact h1
   ·exact absurd (aT h1.2) hno
  ·have hi2:i<(Fu b x).length:=(aa.1 hk).1
   have hmt:m∈(Fu b x).take (Fu b x).length:=by rw [ay];exact ae hm
   by_cases hn:fg b (Ba (Bj q (Iu b x (q,acts)).1) (M7 b x (q,acts)).1) k.toNat=none
   ·obtain⟨h1,h2⟩:=htr.ord i k hi2 hk hn
    exact⟨hlow.low h1 m hmt,λ _=>h2 i' m hi hm hf⟩
   ·have hch2:(Iu b x (q,acts)).1.getD k.toNat 0≠q.Al.getD k.toNat 0:=by
     rw [(hsame k (ae hk)).2]
     rcases hch with h1 | h1
     ·exact absurd h1 hn
     ·exact h1
    exact⟨hlow.ord i k hi2 hk hch2 i' m hi hm,λ hh=>absurd hh hn⟩
 ·rename_i hs
  have hex:Bu b q (Ed x)=0:=by
   have h0:0<=Bu b q (Ed x):=Int.le_max_left _ _
   by_cases hp:0<Bu b q (Ed x)
   ·have:=yT hp
    rw [hso] at this
    exact absurd this hs
   ·omega
  refine⟨⟨hq,E5.refl b q,rfl,λ _ hk=>hk,λ _=>bu _,λ _=>.inl rfl,λ _ _=>⟨rfl,rfl⟩⟩,⟨hex,λ i k hk hch=>?_⟩⟩
  exfalso
  obtain⟨a1,a2⟩:=hsame k (ae hk)
  rcases hch with h1 | h1
  ·have h1':fg b q k.toNat=none:=h1
   obtain⟨a,e,_,h3⟩:=D7.1 (hcon k (ae hk))
   have ea:k.toNat=a:=by omega
   rw [ea,h3] at h1';cases h1'
  ·exact h1 a2
theorem Age {b:Aa} (h:Ar b) {c:Ab} (hc:Aq b c) (acts:List Ak):∀ (E D:List Aj) (q:Ab) (as:List Ak),D++E=Bd b c->Aft b D c q->(∀ x,x∈D->Don b c q x) ->
  Aft b (Bd b c) c (Gm b E (q,as)).1/\∀ x,x∈Bd b c->Don b c (Gm b E (q,as)).1 x
 | [],D,q,as,e,u,v=>by
  rw [aG] at e;subst e
  exact⟨u,v⟩
 | x::E,D,q,as,e,u,v=>by
  have hx:x∈Bd b c:=by rw [←e];exact aq.2 (.inr ah)
  have hap:=Ac7 h c
  rw [←e] at hap
  obtain⟨_,_,hap3⟩:=List.pairwise_append.1 hap
  have hd:∀ y,y∈D->∀ k,¬(Dg y k=true/\Dg x k=true):=λ y hy k=>hap3 y hy x ah k
  obtain⟨h1,h2⟩:=Aw5 h hc u u.ok hx hd as
  have e2:Gm b (x::E) (q,as)=Gm b E ((H0 b (q,as) x).1,(H0 b (q,as) x).2):=rfl
  rw [e2]
  refine Age h hc acts E (D++[x]) _ _ (by rw [aX];exact e) (u.trans h1) λ y hy=>?_
  rcases aq.1 hy with hy | hy
  ·refine (v y hy).aft h u.ok h1 λ z hz k=>?_
   rw [aP.1 hz]
   exact hd y hy k
  ·rw [aP.1 hy];exact h2
theorem vV {b:Aa} (h:Ar b) {p:Ab} (hp:Aq b p):Aft b (Bd b (Gv b p)) (Gv b p) (Gn b p)/\∀ x,x∈Bd b (Gv b p)->Don b (Gv b p) (Gn b p) x:=
 Age h (Jm hp) [] _ [] _ _ rfl (Aft.refl (Jm hp)) λ x hx=>by cases hx
theorem Abo {b:Aa} (h:Ar b) {p:Ab} (hp:Aq b p) {n:Nat} (hn:n<b.Am.toNat):F17 b p (n:Int)=some (Bm b p n):=by
 have hcl:=h.col
 have hlen:(isl b p (Bh b p n)).Af.length<=b.Af.length:=De _ _
 have hof:F50 b p (n:Int)=some (isl b p (Bh b p n),true):=V3 h hp hn
 unfold F17
 rw [hof]
 simp only [ab]
 by_cases hs:0<(isl b p (Bh b p n)).Ac.length
 ·have e0:qS (isl b p (Bh b p n),true)=false:=by
   unfold qS
   simp only [bi,aU,dz]
   omega
  rw [e0,cond_false]
  have key:Ok (andThen (foldI (uV p) (isl b p (Bh b p n)).Af 0 0) (λ _=>none) λ z0=>some z0) λ y=>y=Bm b p n:=by
   refine Ok.andThen (A:=λ s=>s=Bm b p n) (B:=λ (_:Unit)=>False) ?_ (λ s hs=>c5 hs) (λ _ h=>h.elim)
   refine c7 (I:=λ j s=>s=Ir p.Al ((isl b p (Bh b p n)).Af.take j)/\0<=s/\s<=50000*(j:Int)) ⟨rfl,by omega,by omega⟩ (λ j c s hc hI=>?_) λ s hI=>?_
   ·obtain⟨h1,h2,h3⟩:=hI
    have hj:j<(isl b p (Bh b p n)).Af.length:=(aa.1 hc).1
    have hcm:=Gq (ae hc)
    obtain⟨g1,g2,g3,g4⟩:=O5 h hp hcm.1 hcm.2
    unfold uV
    rw [g1]
    simp only [ab]
    rw [A6 (by omega)]
    refine c6 ⟨?_,by omega,by omega⟩
    rw [Bg hc,Hw,h1]
   ·rw [ay] at hI
    unfold Bm
    rw [if_pos hs]
    exact hI.1
  obtain⟨r,e,h1⟩:=key
  rw [h1] at e
  exact e
 ·have e0:qS (isl b p (Bh b p n),true)=true:=by
   unfold qS
   simp only [bi,aU,dy]
   omega
  rw [e0,cond_true]
  unfold Bm
  rw [if_neg hs]
theorem Xc {b:Aa} (h:Ar b) {p:Ab} (hp:Aq b p) {n:Nat} (hn:n<b.Am.toNat):F18 b p (n:Int)=some (Cg b p n):=by
 have hcl:=h.sol
 have hlen:(isl b p (Bh b p n)).Ac.length<=b.Ac.length:=De _ _
 have key:Ok (F18 b p (n:Int)) λ y=>y=Cg b p n:=by
  unfold F18
  have hof:F50 b p (n:Int)=some (isl b p (Bh b p n),true):=V3 h hp hn
  rw [hof]
  simp only [ab]
  refine Ok.andThen (A:=λ s=>s=Cg b p n) (B:=λ (_:Unit)=>False) ?_ (λ s hs=>c5 hs) (λ _ h=>h.elim)
  refine c7 (I:=λ j s=>s=Ir (K7 b) ((isl b p (Bh b p n)).Ac.take j)/\0<=s/\s<=50000*(j:Int)) ⟨rfl,by omega,by omega⟩ (λ j c s hc hI=>?_) λ s hI=>?_
  ·obtain⟨h1,h2,h3⟩:=hI
   have hj:j<(isl b p (Bh b p n)).Ac.length:=(aa.1 hc).1
   have hcm:=Mv (ae hc)
   unfold Ake
   refine (cS hcm.1 hcm.2).bind λ y hy=>?_
   have hr:=(h.so y (ae hy)).1
   have e:(K7 b).getD c.toNat 0=y.Rating:=by simp [K7,List.getD,hy]
   rw [A6 (by omega)]
   refine c6 ⟨?_,by omega,by omega⟩
   rw [Bg hc,Hw,h1,e]
  ·rw [ay] at hI
   exact hI.1
 obtain⟨r,e,h1⟩:=key
 rw [h1] at e
 exact e
theorem Aml {r:Int->Int}:∀ {l m:List Int},l.Pairwise (λ a b=>r a<r b)->m.Pairwise (λ a b=>r a<r b)->(∀ x,x∈l↔x∈m)->l=m
 | [],[],_,_,_=>rfl
 | [],b::m,_,_,h=>by have:=(h b).2 ah;cases this
 | a::l,[],_,_,h=>by have:=(h a).1 ah;cases this
 | a::l,b::m,h1,h2,h=>by
  obtain⟨p1,p2⟩:=bg.1 h1
  obtain⟨q1,q2⟩:=bg.1 h2
  have e:a=b:=by
   rcases ag.1 ((h a).1 ah) with e | e
   ·exact e
   ·rcases ag.1 ((h b).2 ah) with e2 | e2
    ·exact e2.symm
    ·have:=q1 a e;have:=p1 b e2;omega
  subst e
  rw [Aml p2 q2 λ x=>⟨λ hx=>?_,λ hx=>?_⟩]
  ·rcases ag.1 ((h x).1 (aj _ hx)) with e | e
   ·subst e;have:=p1 x hx;omega
   ·exact e
  ·rcases ag.1 ((h x).2 (aj _ hx)) with e | e
   ·subst e;have:=q1 x hx;omega
   ·exact e
theorem A07 {b:Aa} (h:Ar b):(Cc b).Pairwise λ x y=>key b x<key b y:=by
 have hs:=(I8 h).2
 have hl:=hs.len
 rw [bT]
 intro i j hi hj hij
 have:=hs.asc i j hij (by omega) (by omega)
 simpa only [List.getD,af hi,af hj,bF] using this
def O2 (b:Aa) (c:Int):Int:=(b.Af.getD c.toNat default).Bl
abbrev Aaj (b:Aa) (l:List Int):Prop:=l.Pairwise λ x y=>key b x<key b y
theorem Ans {b : Aa} (h : Ar b) : F12 b = some (Cc b) := by
 have hcl:=h.col
 have hpr:∀ c:Int,0<=c->c<b.Af.length->0<=O2 b c/\O2 b c<=15:=λ c h0 h1=>(h.co c.toNat _ (Fl (b:=b) (i:=c.toNat) (by omega))).2.2.1
 have key : Ok (F12 b) λ y => Aaj b y /\ ∀ x : Int, x ∈ y ↔ 0 <= x /\ x < b.Af.length := by
  unfold F12
  rw [M8 h]
  simp only [ab]
  refine c4 (λ hc=>by simp at hc) (λ _=>?_)
  refine Ok.andThen (A:=λ (s:Int×List Int)=>Aaj b s.2/\∀ x:Int,x∈s.2↔0<=x/\x<b.Af.length) (B:=λ (_:Unit)=>False) ?_ (λ s hs=>c5 hs) (λ _ h=>h.elim)
  refine c9 (λ (s:Int×List Int)=>(0<=s.1/\s.1<=16)/\(s.2.length:Int)<=16*s.1/\Aaj b s.2/\∀ x:Int,x∈s.2↔0<=x/\x<b.Af.length/\O2 b x<s.1) (λ s=>(16-s.1).toNat) _ _ ⟨by dsimp only;omega,by simp,List.Pairwise.nil,λ x=>⟨λ hx=>(by cases hx),λ ⟨h0,h1,h2⟩=>?_⟩⟩ (by dsimp only;omega) ?_
  ·exfalso
   have:=(hpr x h0 h1).1
   dsimp only at h2
   omega
  rintro⟨k,d⟩ ⟨hk,hl,hd,hm⟩
  dsimp only at hk hd hm hl
  unfold vD
  dsimp only
  refine c4 (λ hq=>?_) (λ hq=>?_)
  ·simp only [dw] at hq
   refine Ok.andThen (A:=λ (s:List Int)=>(s.length:Int)<=16*(k+1)/\Aaj b s/\∀ x:Int,x∈s↔0<=x/\x<b.Af.length/\O2 b x<k+1) (B:=λ (_:Unit)=>False) ?_ (λ s hs=>?_) (λ _ h=>h.elim)
   ·refine c7 (I:=λ j (s:List Int)=>(s.length:Int)<=16*k+j/\Aaj b s/\∀ x:Int,x∈s↔0<=x/\x<b.Af.length/\(O2 b x<k\/O2 b x=k/\x<(j:Int))) ⟨by omega,hd,λ x=>?_⟩ (λ j c s hc hI=>?_) λ s hI=>⟨by omega,hI.2.1,λ x=>?_⟩
    ·rw [hm]
     constructor
     ·rintro⟨h0,h1,h2⟩;exact⟨h0,h1,.inl h2⟩
     ·rintro⟨h0,h1,h2 | ⟨_,h2⟩⟩
      ·exact⟨h0,h1,h2⟩
      ·omega
    ·obtain⟨i1,i2,i3⟩:=hI
     have hj:j<b.Af.length:=(aa.1 hc).1
     have ep:O2 b (j:Int)=c.Bl:=by simp [O2,List.getD,hc]
     have ec:cnt 0 j=(j:Int):=Cw (by omega)
     unfold vC
     dsimp only
     refine c4 (λ hq2=>?_) (λ hq2=>?_)
     ·simp only [dy] at hq2
      refine (cV (by simp;omega)).bind λ y hy=>c6 ?_
      rw [hy,ec]
      refine⟨by simp;omega,?_,λ x=>?_⟩
      ·unfold Aaj
       rw [List.pairwise_append]
       refine⟨i2,List.pairwise_singleton _ _,λ x hx y hy=>?_⟩
       rw [aP.1 hy]
       obtain⟨x0,x1,x2⟩:=(i3 x).1 hx
       have e1:key b x=O2 b x*100+x:=rfl
       have e2:key b (j:Int)=O2 b (j:Int)*100+(j:Int):=rfl
       rw [e1,e2,ep]
       omega
      ·rw [aq,aP,i3]
       constructor
       ·rintro (⟨x0,x1,x2⟩ | e)
        ·exact⟨x0,x1,by omega⟩
        ·subst e;exact⟨by omega,by omega,.inr ⟨by omega,by omega⟩⟩
       ·rintro⟨x0,x1,x2⟩
        by_cases e:x=(j:Int)
        ·exact .inr e
        ·exact .inl ⟨x0,x1,by omega⟩
     ·simp only [dz] at hq2
      refine c6 ⟨by omega,i2,λ x=>?_⟩
      rw [i3]
      constructor
      ·rintro⟨x0,x1,x2⟩;exact⟨x0,x1,by omega⟩
      ·rintro⟨x0,x1,x2⟩
       by_cases e:x=(j:Int)
       ·subst e;exact⟨x0,x1,by omega⟩
       ·exact⟨x0,x1,by omega⟩
    ·rw [hI.2.2]
     constructor
     ·rintro⟨x0,x1,x2⟩;exact⟨x0,x1,by omega⟩
     ·rintro⟨x0,x1,x2⟩;exact⟨x0,x1,by omega⟩
   ·have e2:w64 (k+1)=k+1:=A6 (by omega)
    rw [e2]
    exact c6 ⟨⟨by dsimp only;omega,hs⟩,by dsimp only;omega⟩
  ·simp only [dx] at hq
   refine cW ⟨hd,λ x=>?_⟩
   dsimp only
   rw [hm]
   refine⟨λ ⟨h0,h1,_⟩=>⟨h0,h1⟩,λ ⟨h0,h1⟩=>⟨h0,h1,?_⟩⟩
   have:=(hpr x h0 h1).2
   omega
 obtain⟨r,e,h1,h2⟩:=key
 rw [e,Aml h1 (A07 h) λ x=>(h2 x).trans (vX h).symm]
theorem Am7 {b:Aa} (h:Ar b) {p:Ab} (hp:Aq b p) {j:Nat} {x:Ag} (hx:b.Ad[j]? = some x):Akm b p (j:Int)=some (Bz p x):=by
 have hbr:=(h.br x (ae hx)).2
 have hns:=hp.nso
 unfold Akm Bz
 rw [A8 hx]
 simp only [Lc,ab]
 cases brk p.Ah 3 x.A with
 | true=>rfl
 | false=>
  simp only [cond_false,aU]
  rcases hbr with⟨hk,_⟩ | ⟨hk,h0,h1⟩ | ⟨hk,_⟩
  ·rw [hk];rfl
  ·rw [hk]
   have e:p.Ac[x.B.toNat]? = some (p.Ac.getD x.B.toNat default):=by
    rw [af (by omega)];simp [List.getD,List.getElem?_eq_getElem (show x.B.toNat<p.Ac.length by omega)]
   have e2:getI p.Ac x.B=some (p.Ac.getD x.B.toNat default):=by
    unfold getI;rw [dA h0];exact e
   rw [e2]
   cases brk p.Ah 1 x.B <;> rfl
  ·rw [hk];rfl
theorem As9 {b:Aa} (h:Ar b) {q r:Ab} (hq:Aq b q) (hr:Aq b r) (s:E5 b q r) (n:Nat):A2 b r n=A2 b q n:=by
 unfold A2;rw [s.groups hq.ncl hr.ncl,s.sources h hq hr]
theorem Abn {b:Aa} {C:List Bool} {q:Ag->Bool} {j:Nat}:(Bk C (B2 b C q j)).getD j false=C.getD j false:=by
 rw [Ll]
 have:((B2 b C q j).any λ i=>i.toNat==j)=false:=by
  rw [bK]
  intro i hi
  obtain⟨k,e,hk,_⟩:=G3.1 hi
  simp only [dy]
  omega
 rw [this];simp
theorem Auc {b:Aa} {p:Ab} {j:Nat}:E5 b p ⟨Bk p.Ae (B2 b p.Ae (Co b p) j),p.Ac,p.Al,p.Ah⟩:=⟨rfl,λ k x hx hk=>by
 show (Bk p.Ae (B2 b p.Ae (Co b p) j)).getD k false=_
 rw [Ll]
 have:((B2 b p.Ae (Co b p) j).any λ i=>i.toNat==k)=false:=by
  rw [bK]
  intro i hi
  obtain⟨m,e,_,_,hd⟩:=G3.1 hi
  simp only [dy]
  intro e2
  have:m=k:=by omega
  subst this
  rw [Cs hx] at hd
  simp only [Co,ac,dy] at hd
  exact hk hd.1
 rw [this];simp⟩
theorem Aos {b:Aa} (h:Ar b) {p:Ab} (hp:Aq b p):Ok (F66 b p) λ y=>y.1=Gv b p/\y.2.2=0/\y.2.1.length<=48:=by
 have hbl:=h.brl
 have hcl:=hp.ncl
 unfold F66
 rw [H1 h hp]
 simp only [ab]
 refine c4 (λ hc=>by simp at hc) (λ _=>?_)
 rw [zA h hp]
 simp only [ab]
 refine Ok.andThen (A:=λ (s:Int×List Bool×List Ak)=>s.2.1=(B6 b p).Ae/\s.2.2.length<=24) (B:=λ (_:Unit)=>False) ?_ (λ s hs=>?_) (λ _ h=>h.elim)
 ·refine c9 (λ (s:Int×List Bool×List Ak)=>∃ j:Nat,s.1=(j:Int)/\j<=b.Ad.length/\s.2.1=Bk p.Ae (B2 b p.Ae (Bz p) j)/\s.2.2.length<=j) (λ s=>(100-s.1).toNat) _ _ ⟨0,rfl,by omega,rfl,by simp⟩ (by dsimp only;omega) ?_
  rintro⟨z,C,as⟩ ⟨j,hz,h1,h2,h3⟩
  dsimp only at hz h2 h3
  subst hz
  subst h2
  unfold Ajz Az2
  dsimp only
  have hlen:(Bk p.Ae (B2 b p.Ae (Bz p) j)).length=b.Ad.length:=by rw [Jf];exact hcl
  refine c4 (λ hq=>?_) (λ hq=>?_)
  ·simp only [dw] at hq
   have hj:j<b.Ad.length:=by omega
   have hx:b.Ad[j]? = some (b.Ad.getD j default):=by
    rw [af hj];simp [List.getD,List.getElem?_eq_getElem hj]
   have hg:getI (Bk p.Ae (B2 b p.Ae (Bz p) j)) (j:Int)=some (p.Ae.getD j false):=by
    rw [←Abn (b:=b) (C:=p.Ae) (q:=Bz p)]
    refine A8 ?_
    rw [af (by omega)]
    simp [List.getD,List.getElem?_eq_getElem (show j<(Bk p.Ae (B2 b p.Ae (Bz p) j)).length by omega)]
   rw [hg,Am7 h hp hx]
   simp only [ab]
   have e2:w64 ((j:Int)+1)=((j+1:Nat):Int):=by rw [A6 (by omega)];omega
   have hsu:=J6 (C:=p.Ae) (q:=Bz p) hx
   rw [e2]
   have eg:(Az [(p.Ae.getD j false,true)] (some (Bz p (b.Ad.getD j default))) default)=some (bif p.Ae.getD j false then Bz p (b.Ad.getD j default) else default):=by
    cases p.Ae.getD j false <;> rfl
   rw [eg]
   simp only [ab]
   have ec:(p.Ae.getD j false&&bif p.Ae.getD j false then Bz p (b.Ad.getD j default) else default)=(p.Ae.getD j false&&Bz p (b.Ad.getD j default)):=by
    cases p.Ae.getD j false <;> rfl
   rw [ec]
   refine c4 (λ hc=>?_) (λ hc=>?_)
   ·refine (cU (by omega) (by omega)).bind λ y hy=>?_
    refine (cV (by simp;omega)).bind λ w hw=>c6 ⟨⟨j+1,rfl,by omega,?_,by rw [hw];simp;omega⟩,by dsimp only;omega⟩
    rw [hsu,if_pos hc,Jt,hy]
   ·refine c6 ⟨⟨j+1,rfl,by omega,?_,by dsimp only;omega⟩,by dsimp only;omega⟩
    rw [hsu,if_neg (by rw [hc];simp),aG]
  ·simp only [dx] at hq
   have:j=b.Ad.length:=by omega
   subst this
   exact cW ⟨rfl,by dsimp only;omega⟩
 ·obtain⟨i,C,as⟩:=s
  dsimp only at hs
  obtain⟨hC,ha⟩:=hs
  subst hC
  have hq1:Aq b (B6 b p):=P0 hp
  have hlen1:(B6 b p).Ae.length=b.Ad.length:=hq1.ncl
  refine Ok.andThen (A:=λ (s:List Bool×List Ak)=>s.1=(Nn b p).Ae/\s.2.length<=48) (B:=λ (_:Unit)=>False) ?_ (λ s hs=>?_) (λ _ h=>h.elim)
  ·refine c7 (I:=λ j (s:List Bool×List Ak)=>s.1=Bk (B6 b p).Ae (B2 b (B6 b p).Ae (Co b (B6 b p)) j)/\s.2.length<=24+j) ⟨rfl,by dsimp only;omega⟩ (λ j x s hx hI=>?_) λ s hI=>⟨hI.1,by have:=hI.2;omega⟩
   obtain⟨D,as2⟩:=s
   obtain⟨h1,h2⟩:=hI
   dsimp only at h1 h2
   subst h1
   have hj:j<b.Ad.length:=(aa.1 hx).1
   have hlen:(Bk (B6 b p).Ae (B2 b (B6 b p).Ae (Co b (B6 b p)) j)).length=b.Ad.length:=by rw [Jf];exact hlen1
   have ec:cnt 0 j=(j:Int):=Cw (by omega)
   have hg:getI (Bk (B6 b p).Ae (B2 b (B6 b p).Ae (Co b (B6 b p)) j)) (j:Int)=some ((B6 b p).Ae.getD j false):=by
    rw [←Abn (b:=b) (C:=(B6 b p).Ae) (q:=Co b (B6 b p))]
    refine A8 ?_
    rw [af (by omega)]
    simp [List.getD,List.getElem?_eq_getElem (show j<(Bk (B6 b p).Ae (B2 b (B6 b p).Ae (Co b (B6 b p)) j)).length by omega)]
   have hok:Aq b ⟨Bk (B6 b p).Ae (B2 b (B6 b p).Ae (Co b (B6 b p)) j),p.Ac,p.Al,p.Ah⟩:=X1 _ hq1
   have hA:=(h.br x (ae hx)).1
   have hlive:F14 b ⟨Bk (B6 b p).Ae (B2 b (B6 b p).Ae (Co b (B6 b p)) j),p.Ac,p.Al,p.Ah⟩ x.A=some (A2 b (B6 b p) x.A.toNat):=by
    have e:x.A=((x.A.toNat:Nat):Int):=by omega
    have:=T3 h hok (n:=x.A.toNat) (by omega)
    rw [←e] at this
    rw [this,←As9 h hq1 hok Auc]
   have hsu:=J6 (C:=(B6 b p).Ae) (q:=Co b (B6 b p)) hx
   unfold Ajy
   dsimp only
   rw [ec,hg,hlive]
   have e1:(Az [((x.Kind==3),true)] (some ((B6 b p).Ae.getD j false)) default)=some (bif x.Kind==3 then (B6 b p).Ae.getD j false else default):=by
    cases x.Kind==3 <;> rfl
   rw [e1]
   simp only [ab]
   have e2:∀ g:Bool,(Az [(g,true)] (some (A2 b (B6 b p) x.A.toNat)) default)=some (bif g then A2 b (B6 b p) x.A.toNat else default):=by
    intro g;cases g <;> rfl
   rw [e2]
   simp only [ab]
   have e3:((x.Kind==3)&&(bif x.Kind==3 then (B6 b p).Ae.getD j false else default) && !(bif (x.Kind==3)&&(bif x.Kind==3 then (B6 b p).Ae.getD j false else default) then A2 b (B6 b p) x.A.toNat else default))=((B6 b p).Ae.getD j false&&Co b (B6 b p) x):=by
    unfold Co
    cases x.Kind==3 <;> cases (B6 b p).Ae.getD j false <;> rfl
   rw [e3]
   refine c4 (λ hc=>?_) (λ hc=>?_)
   ·refine (cU (by omega) (by omega)).bind λ y hy=>?_
    refine (cV (by simp;omega)).bind λ w hw=>c6 ⟨?_,by rw [hw];simp;omega⟩
    rw [hsu,if_pos hc,Jt,hy]
   ·refine c6 ⟨?_,by dsimp only;omega⟩
    rw [hsu,if_neg (by rw [hc];simp),aG]
  ·rw [hs.1]
   have hf:=Ak1 h (Pz hp)
   have hf2:Aaf b ⟨(Nn b p).Ae,p.Ac,p.Al,p.Ah⟩=some (Gv b p,0):=hf
   rw [hf2]
   exact c5 ⟨rfl,rfl,hs.2⟩
theorem A1l {b:Aa} (h:Ar b) {c:Ab} {n:Nat} (hn:n<b.Am.toNat):∃ x,x∈Bd b c/\Bh b c (Ed x)=Bh b c n:=by
 have hgg:=Ax7 (s:=groups b c) (i:=n) (by rw [Hb];exact hn)
 have hlo:=Og h c n _ hgg
 have hgn:(groups b c).getD n 0=((Bh b c n:Nat):Int):=by unfold Bh;omega
 have hmem:(n:Int)∈(isl b c (Bh b c n)).Am:=am.2 ⟨n,an.2 ⟨aH.2 hn,by rw [dy];exact hgn⟩,rfl⟩
 have hx:isl b c (Bh b c n)∈Bd b c:=by
  refine an.2 ⟨am.2 ⟨Bh b c n,aH.2 (by omega),rfl⟩,?_⟩
  unfold Iw
  cases hl:(isl b c (Bh b c n)).Am with
  | nil=>rw [hl] at hmem;cases hmem
  | cons y l=>
   simp only [aS,aC,dz]
   omega
 exact⟨_,hx,Ah7 h hx⟩
theorem A1q {b:Aa} (h:Ar b) {p:Ab} (hp:Aq b p) {n:Nat} (hn:n<b.Am.toNat):Bu b (Gn b p) n=0:=by
 obtain⟨u,v⟩:=vV h hp
 obtain⟨x,hx,e⟩:=A1l (c:=Gv b p) h hn
 have:=(v x hx).exc
 have e2:Bh b (Gn b p) (Ed x)=Bh b (Gn b p) n:=by
  rw [Em (Jm hp) u.ok u.skel,Em (Jm hp) u.ok u.skel,e]
 unfold Bu Bm Cg at this ⊢
 rw [e2] at this
 exact this
theorem Aw7 {b:Aa} (h:Ar b) {p:Ab} (hp:Aq b p) {k:Nat} {x:Ag} (hx:b.Ad[k]? = some x) (hc:(Gn b p).Ae.getD k false=true):Bz p x=false:=by
 obtain⟨u,_⟩:=vV h hp
 have h1:(Nn b p).Ae.getD k false=true:=u.mono k hc
 have hk:=(aa.1 hx).1
 have h2:(acC b p.Ae (Bz p)).getD k false=true:=zI b _ _ (P0 hp).ncl k h1
 rw [K0 b _ _ hk,Cs hx] at h2
 simp only [ac,aC] at h2
 exact h2.2
def K3 (b:Aa) (sd:Int->Bool):Da:=b.Ad.zipIdx.map λ z=>(z.1,sd (z.2:Int))
theorem N9 {b:Aa} {sd:Int->Bool} {i j:Nat}:Tie (K3 b sd) i j↔∃ (k:Nat) (x:Ag),b.Ad[k]? = some x/\x.Kind=1/\sd (k:Int)=true/\((x.A.toNat=i/\x.B.toNat=j)\/(x.A.toNat=j/\x.B.toNat=i)):=by
 constructor
 ·rintro⟨z,hz,h1,h2,h3⟩
  obtain⟨⟨x,k⟩,hm,rfl⟩:=am.1 hz
  rw [bx] at hm
  exact⟨k,x,hm,h1,h2,h3⟩
 ·rintro⟨k,x,hx,h1,h2,h3⟩
  exact⟨(x,sd (k:Int)),am.2 ⟨(x,k),by rw [bx];exact hx,rfl⟩,h1,h2,h3⟩
theorem Xy {b:Aa} (h:Ar b) (sd:Int->Bool):qZ (K3 b sd) b.Am.toNat:=by
 intro i j t
 obtain⟨k,x,hx,hk,_,he⟩:=N9.1 t
 have:=h.br x (ae hx)
 unfold Jd at this
 omega
def lv (s:List Bool) (i:Nat):Prop:=s.getD i false=true
theorem Q4 {s:List Bool} {i:Nat} (h:lv s i):i<s.length:=by
 unfold lv List.getD at h
 by_cases hl:i<s.length
 ·exact hl
 ·rw [bR (by omega)] at h;cases h
theorem Mc {sd:Int->Bool} {s:List Bool} {z:Ag×Nat} {i:Nat} (hi:i<s.length):(E6 sd s z).getD i false=if (z.1.Kind=1/\sd (z.2:Int)=true)/\(i=z.1.A.toNat\/i=z.1.B.toNat) then (s.getD z.1.A.toNat false || s.getD z.1.B.toNat false) else s.getD i false:=by
 unfold E6
 by_cases hk:z.1.Kind=1/\sd (z.2:Int)=true
 ·rw [if_pos hk]
  by_cases hB:i=z.1.B.toNat
  ·rw [if_pos ⟨hk,.inr hB⟩]
   rw [aZ,ao,if_pos hB.symm,if_pos (by rw [be];omega)];rfl
  ·by_cases hA:i=z.1.A.toNat
   ·rw [if_pos ⟨hk,.inl hA⟩]
    rw [aZ,ao,if_neg (λ e=>hB e.symm),ao,if_pos hA.symm,if_pos (by omega)];rfl
   ·rw [if_neg (λ hh=>hh.2.elim hA hB)]
    rw [aZ,ao,if_neg (λ e=>hB e.symm),ao,if_neg (λ e=>hA e.symm)];rfl
 ·rw [if_neg hk,if_neg (λ hh=>hk hh.1)]
theorem Tl {sd:Int->Bool} {s:List Bool} {z:Ag×Nat} {i:Nat} (h:lv s i):lv (E6 sd s z) i:=by
 have hi:=Q4 h
 unfold lv at h ⊢
 rw [Mc hi]
 split
 ·rename_i hh
  rcases hh.2 with e | e
  ·rw [←e,h];rfl
  ·rw [←e,h];simp
 ·exact h
theorem Qx {sd:Int->Bool}:∀ (l:List (Ag×Nat)) {s:List Bool} {i:Nat},lv s i->lv (Dt sd l s) i
 | [],_,_,h=>h
 | z::l,s,i,h=>by
  show lv (Dt sd l (E6 sd s z)) i
  exact Qx l (Tl h)
theorem Abj {sd:Int->Bool} {z:Ag×Nat} (hk:z.1.Kind=1) (hs:sd (z.2:Int)=true):∀ (l:List (Ag×Nat)) {s:List Bool},z∈l->z.1.A.toNat<s.length->z.1.B.toNat<s.length->(lv s z.1.A.toNat\/lv s z.1.B.toNat)->lv (Dt sd l s) z.1.A.toNat/\lv (Dt sd l s) z.1.B.toNat
 | [],_,h,_,_,_=>by cases h
 | y::l,s,h,hA,hB,ho=>by
  show lv (Dt sd l (E6 sd s y)) _/\lv (Dt sd l (E6 sd s y)) _
  rcases ag.1 h with rfl | h
  ·have he:(s.getD z.1.A.toNat false || s.getD z.1.B.toNat false)=true:=by
    rw [aJ];exact ho
   have a1:lv (E6 sd s z) z.1.A.toNat:=by
    unfold lv;rw [Mc hA,if_pos ⟨⟨hk,hs⟩,.inl rfl⟩];exact he
   have a2:lv (E6 sd s z) z.1.B.toNat:=by
    unfold lv;rw [Mc hB,if_pos ⟨⟨hk,hs⟩,.inr rfl⟩];exact he
   exact⟨Qx l a1,Qx l a2⟩
  ·exact Abj hk hs l h (by rw [I2];exact hA) (by rw [I2];exact hB) (ho.imp Tl Tl)
theorem Aga {b:Aa} (h:Ar b) {sd:Int->Bool} {s:List Bool} (hl:s.length=b.Am.toNat) {j:Nat} (hj:lv s j):∀ (r i:Nat),C_ (K3 b sd) j r i->lv ((List.range r).foldl (λ s _=>Dt sd b.Ad.zipIdx s) s) i:=by
 intro r
 induction r with
 | zero=>intro i hc;cases hc;exact hj
 | succ r ih=>
  intro i hc
  rw [bp,aM]
  simp only [aY,List.foldl_nil]
  cases hc with
  | stay hc=>exact Qx _ (ih i hc)
  | step hc t=>
   rename_i k
   have hk:=ih k hc
   have hlt:=Xy h sd _ _ t
   obtain⟨m,x,hx,h1,h2,he⟩:=N9.1 t
   have hlen:=I3 sd b.Ad.zipIdx (List.range r) s
   have hm:(x,m)∈b.Ad.zipIdx:=by rw [bx];exact hx
   have:=Abj (z:=(x,m)) h1 h2 _ hm (by dsimp only;omega) (by dsimp only;omega) (s:=(List.range r).foldl (λ s _=>Dt sd b.Ad.zipIdx s) s) (by
    dsimp only
    rcases he with⟨e1,_⟩ | ⟨_,e2⟩
    ·rw [e1];exact .inl hk
    ·rw [e2];exact .inr hk)
   dsimp only at this
   rcases he with⟨_,e2⟩ | ⟨e1,_⟩
   ·rw [←e2];exact this.2
   ·rw [←e1];exact this.1
theorem Abk {b:Aa} {sd:Int->Bool} {Q:Nat->Prop} (hQ:∀ i j,Tie (K3 b sd) i j->Q i->Q j):∀ (l:List (Ag×Nat)) {s:List Bool},(∀ z,z∈l->z∈b.Ad.zipIdx)->(∀ i,lv s i->Q i)->∀ i,lv (Dt sd l s) i->Q i
 | [],_,_,h=>h
 | z::l,s,hz,h=>by
  show ∀ i,lv (Dt sd l (E6 sd s z)) i->Q i
  refine Abk hQ l (λ y hy=>hz y (aj _ hy)) λ i hi=>?_
  have hlt:=Q4 hi
  rw [I2] at hlt
  unfold lv at hi
  rw [Mc hlt] at hi
  split at hi
  ·rename_i hh
   obtain⟨⟨hk,hs⟩,he⟩:=hh
   have hm:=hz z ah
   have hx:b.Ad[z.2]? = some z.1:=by
    have:(z.1,z.2)∈b.Ad.zipIdx:=hm
    rw [bx] at this
    exact this
   have t:Tie (K3 b sd) z.1.A.toNat z.1.B.toNat:=N9.2 ⟨z.2,z.1,hx,hk,hs,.inl ⟨rfl,rfl⟩⟩
   rw [aJ] at hi
   rcases hi with hi | hi
   ·have q:=h _ hi
    rcases he with e | e
    ·rw [e];exact q
    ·rw [e];exact hQ _ _ t q
   ·have q:=h _ hi
    rcases he with e | e
    ·rw [e];exact hQ _ _ t.symm q
    ·rw [e];exact q
  ·exact h i hi
theorem Rk {b:Aa} (h:Ar b) {u sd:Int->Bool} {i:Nat}:lv (F5 b u sd) i↔∃ j,lv (Q9 b u) j/\Bn (K3 b sd) j i:=by
 constructor
 ·intro hi
  have key:∀ (xs:List Nat) (s:List Bool),(∀ i,lv s i->∃ j,lv (Q9 b u) j/\Bn (K3 b sd) j i)->∀ i,lv (xs.foldl (λ s _=>Dt sd b.Ad.zipIdx s) s) i->∃ j,lv (Q9 b u) j/\Bn (K3 b sd) j i:=by
   intro xs
   induction xs with
   | nil=>intro s hs;exact hs
   | cons x xs ih=>intro s hs;exact ih _ (Abk (λ i j t=>by rintro⟨m,h1,h2⟩;exact⟨m,h1,h2.tie t⟩) _ (λ _ hz=>hz) hs)
  exact key _ _ (λ i hi=>⟨i,hi,Bn.refl _ _⟩) i hi
 ·rintro⟨j,hj,hc⟩
  have hlt:=Q4 hj
  rw [I0] at hlt
  exact Aga h (I0 b u) hj _ _ (Rt (Xy h sd) hlt hc)
theorem Ax6 {b:Aa} (h:Ar b) {u sd:Int->Bool} {i j:Nat} (t:Tie (K3 b sd) i j):lv (F5 b u sd) i->lv (F5 b u sd) j:=by
 rw [Rk h,Rk h]
 rintro⟨m,h1,h2⟩
 exact⟨m,h1,h2.tie t⟩
theorem A2j {b:Aa} {u:Int->Bool} {s:List Bool} {k i:Nat} (h:lv s i):lv (lit b u s k) i:=by
 unfold lit
 split
 ·have hi:=Q4 h
  unfold lv at h ⊢
  rw [aZ,ao]
  split
  ·rename_i e;rw [if_pos (by omega)];rfl
  ·rw [←aZ];exact h
 ·exact h
theorem Axp {b:Aa} {u:Int->Bool} {j:Nat} (hj:j<b.Am.toNat):lv (Q9 b u) j↔∃ k,k<b.Ac.length/\u (k:Int)=true/\(b.Ad.getD (Ft b (k:Int)).toNat default).A.toNat=j:=by
 have key : ∀ (n : Nat), (lv ((List.range n).foldl (lit b u) (List.replicate b.Am.toNat false)) j ↔ ∃ k, k < n /\ u (k : Int) = true /\ (b.Ad.getD (Ft b (k : Int)).toNat default).A.toNat = j) /\ ((List.range n).foldl (lit b u) (List.replicate b.Am.toNat false)).length = b.Am.toNat := by
  intro n
  induction n with
  | zero=>
   refine⟨⟨λ hh=>?_,λ ⟨k,hk,_⟩=>by omega⟩,by simp⟩
   unfold lv at hh
   simp [List.getD_eq_getElem?_getD,List.getElem?_replicate] at hh
   split at hh <;> simp at hh
  | succ n ih=>
   obtain⟨ih,hl⟩:=ih
   rw [bp,aM]
   simp only [aY,List.foldl_nil]
   generalize (List.range n).foldl (lit b u) (List.replicate b.Am.toNat false)=s at ih hl ⊢
   refine⟨⟨λ hh=>?_,λ hh=>?_⟩,by rw [Q_];exact hl⟩
   ·unfold lit at hh
    split at hh
    ·rename_i hu
     by_cases e:(b.Ad.getD (Ft b (n:Int)).toNat default).A.toNat=j
     ·exact⟨n,by omega,hu,e⟩
     ·unfold lv at hh
      rw [aZ,ao,if_neg e,←aZ] at hh
      obtain⟨k,hk,h2⟩:=ih.1 hh
      exact⟨k,by omega,h2⟩
    ·obtain⟨k,hk,h2⟩:=ih.1 hh
     exact⟨k,by omega,h2⟩
   ·obtain⟨k,hk,hu,he⟩:=hh
    by_cases e:k=n
    ·subst e
     unfold lit
     rw [if_pos hu]
     unfold lv
     rw [aZ,ao,if_pos he,if_pos (by omega)];rfl
    ·exact A2j (ih.2 ⟨k,by omega,hu,he⟩)
 exact (key b.Ac.length).1
theorem T_ {α:Type} (g:Bool) (v d:α):Az [(g,false)] (some v) d=some (bif g then d else v):=by cases g <;> rfl
theorem Hk {α:Type} (g:Bool) (v d:α):Az [(g,true)] (some v) d=some (bif g then v else d):=by cases g <;> rfl
def Dw (b:Aa) (p:Ab) (j:Int):Bool:=
  ((!p.Ae.getD j.toNat false && !brk p.Ah 2 j) && !brk p.Ah 3 (b.Ad.getD j.toNat default).A) &&
  (if (b.Ad.getD j.toNat default).Kind=1 then !brk p.Ah 3 (b.Ad.getD j.toNat default).B
   else if (b.Ad.getD j.toNat default).Kind=2 then !brk p.Ah 1 (b.Ad.getD j.toNat default).B&&((p.Ac.getD (b.Ad.getD j.toNat default).B.toNat default).State==2)
   else !brk p.Ah 4 (b.Ad.getD j.toNat default).B && !(Dd (By b p 3 (b.Ad.getD j.toNat default).B)).2)
theorem Aq5 {b:Aa} (h:Ar b) {p:Ab} (hp:Aq b p) {j:Int} (h0:0<=j) (h1:j<b.Ad.length):Y8 b p j=some (Dw b p j):=by
 have hbl:p.Ah.length<=1000:=by have:=hp.brk.len;omega
 have hn:=hp.nso
 have hc:=hp.ncl
 obtain⟨x,hx⟩:∃ x,b.Ad[j.toNat]? = some x:=⟨_,af (by omega)⟩
 have hd:=Cs hx
 have hb:=h.br x (ae hx)
 unfold Jd at hb
 have g1:getI b.Ad j=some x:=by have:=A8 hx;rwa [aK h0] at this
 have g2:getI p.Ae j=some (p.Ae.getD j.toNat false):=by have:=A8 (Gz hp (j:=j.toNat) (by omega));rwa [aK h0] at this
 unfold Y8 Dw
 rw [g1,g2,hd]
 simp only [ab,C3 hbl,T_]
 generalize p.Ae.getD j.toNat false=v
 generalize brk p.Ah 2 j=b2
 generalize brk p.Ah 3 x.A=b3
 cases v with
 | true=>simp
 | false=>
  cases b2 with
  | true=>simp
  | false=>
   cases b3 with
   | true=>simp
   | false=>
    simp only [Bool.or_false,cond_false,Bool.not_false,bt,aO,Bool.or_self]
    rcases hb.2 with⟨hk,_⟩ | ⟨hk,k0,k1⟩ | ⟨hk,_⟩
    ·rw [hk];rfl
    ·rw [hk]
     have g3:getI p.Ac x.B=some (p.Ac.getD x.B.toNat default):=by
      have e:p.Ac[x.B.toNat]? = some (p.Ac.getD x.B.toNat default):=by
       rw [af (by omega)];simp [List.getD,List.getElem?_eq_getElem (show x.B.toNat<p.Ac.length by omega)]
      have:=A8 e;rwa [aK k0] at this
     rw [g3]
     simp only [Hk,ab]
     cases brk p.Ah 1 x.B <;> rfl
    ·rw [hk]
     unfold F86
     rw [Cm h hp,jY h hc]
     rfl
theorem Aar {b:Aa} {p:Ab} {j:Int} {x:Ag} (hx:b.Ad[j.toNat]? = some x) (hs:Dw b p j=true) (hk:x.Kind=3):By b p 3 x.B=none:=by
 unfold Dw at hs
 rw [Cs hx,hk] at hs
 simp only [ac] at hs
 have:=hs.2
 simp at this
 exact Abp this.2
def A7 (b:Aa) (p:Ab) (j:Nat):Ab:=⟨p.Ae.set j true,D_ b ⟨p.Ae.set j true,p.Ac,p.Al,p.Ah⟩,p.Al,p.Ah⟩
def A2h (b:Aa) (p:Ab) (k:Nat) (x:Ag):Prop:=brk p.Ah 2 (k:Int)=false/\brk p.Ah 3 x.A=false/\(x.Kind=1->brk p.Ah 3 x.B=false)/\(x.Kind=2->brk p.Ah 1 x.B=false/\(p.Ac.getD x.B.toNat default).State=2)
theorem Aq4 {b:Aa} {p:Ab} {k:Nat} {x:Ag} (hx:b.Ad[k]? = some x) (hs:Dw b p (k:Int)=true):A2h b p k x:=by
 unfold Dw at hs
 rw [ai,Cs hx] at hs
 simp only [ac,aC] at hs
 obtain⟨⟨⟨_,h2⟩,h3⟩,h4⟩:=hs
 refine⟨h2,h3,λ hk=>?_,λ hk=>?_⟩
 ·rw [if_pos hk] at h4;simpa using h4
 ·rw [if_neg (by omega),if_pos hk] at h4
  simpa using h4
structure A8e (b:Aa) (p q:Ab):Prop where
 brk:q.Ah=p.Ah
 off:∀ i:Nat,(p.Ac.getD i default).State=3->(q.Ac.getD i default).State=3
 cl:∀ (k:Nat) x,b.Ad[k]? = some x->q.Ae.getD k false=true->p.Ae.getD k false=true\/A2h b p k x
structure A8k (b:Aa) (p q:Ab):Prop where
 st:Aq b q
 brk:q.Ah=p.Ah
 off:∀ i:Nat,(p.Ac.getD i default).State=3->(q.Ac.getD i default).State=3
 safe:∀ (k:Nat) x,b.Ad[k]? = some x->q.Ae.getD k false=true->Go.Proofs.YtcigbocngfaopaaGreat.brk p.Ah 2 (k:Int)=false/\Go.Proofs.YtcigbocngfaopaaGreat.brk p.Ah 3 x.A=false/\(x.Kind=1->Go.Proofs.YtcigbocngfaopaaGreat.brk p.Ah 3 x.B=false)/\(x.Kind=2->Go.Proofs.YtcigbocngfaopaaGreat.brk p.Ah 1 x.B=false)
def Fc (b:Aa) (q:Ab) (n k:Nat):Prop:=∃ a,Cy b q (k:Int)=some a/\Bn (Be b q) a.toNat n
def Ip (b:Aa) (q:Ab) (n k:Nat):Prop:=∃ a,By b q 3 (k:Int)=some a/\Bn (Be b q) a.toNat n
theorem Al9 {b:Aa} (h:Ar b) {q:Ab} {n:Nat} (hn:n<b.Am.toNat) {o:Option Int} (ho:∀ a,o=some a->0<=a/\a<b.Am):Dr b q o=some ((Bh b q n:Nat):Int)↔∃ a,o=some a/\Bn (Be b q) a.toNat n:=by
 have hg:=Gy h q (n:=n) hn
 unfold Dr Bh
 rw [hg.2.2,cC]
 constructor
 ·rintro⟨a,e,e2⟩
  have ha:=ho a e
  exact⟨a,e,(F4 h q (by omega) hn).1 e2⟩
 ·rintro⟨a,e,c⟩
  have ha:=ho a e
  exact⟨a,e,(F4 h q (by omega) hn).2 c⟩
theorem Tk {b:Aa} (h:Ar b) {q:Ab} {n:Nat} (hn:n<b.Am.toNat) {k:Nat}:Dr b q (Cy b q (k:Int))=some ((Bh b q n:Nat):Int)↔Fc b q n k:=Al9 h hn λ _ e=>Kw h e
theorem Lv {b:Aa} (h:Ar b) {q:Ab} {n:Nat} (hn:n<b.Am.toNat) {k:Nat}:Dr b q (By b q 3 (k:Int))=some ((Bh b q n:Nat):Int)↔Ip b q n k:=Al9 h hn λ _ e=>Ja h e
theorem jW {p q:Nat->Bool} {n:Nat} (h:∀ k,k<n->(p k=true↔q k=true)):((List.range n).filter p).map (λ (i:Nat)=>(i:Int))=((List.range n).filter q).map (λ (i:Nat)=>(i:Int)):=by
 congr 1
 refine cu λ k hk=>?_
 rw [bf]
 exact h k (aH.1 hk)
structure Dk (b:Aa) (q:Ab) (n:Nat) (r:Ab) (m:Nat):Prop where
 src:∀ k,k<b.Ac.length->(Fc b q n k↔Fc b r m k)
 con:∀ k,k<b.Af.length->(Ip b q n k↔Ip b r m k)
theorem dn {b:Aa} (h:Ar b) {q r:Ab} {n m:Nat} (hn:n<b.Am.toNat) (hm:m<b.Am.toNat) (hs:∀ k,k<b.Ac.length->(Fc b q n k↔Fc b r m k)):(isl b q (Bh b q n)).Ac=(isl b r (Bh b r m)).Ac:=
 jW λ k hk=>by rw [dy,dy,Tk h hn,Tk h hm];exact hs k hk
theorem Dk.cons {b:Aa} (h:Ar b) {q r:Ab} {n m:Nat} (hn:n<b.Am.toNat) (hm:m<b.Am.toNat) (s:Dk b q n r m):(isl b q (Bh b q n)).Af=(isl b r (Bh b r m)).Af:=
 jW λ k hk=>by rw [dy,dy,Lv h hn,Lv h hm];exact s.con k hk
theorem Dk.live {b:Aa} (h:Ar b) {q r:Ab} {n m:Nat} (hn:n<b.Am.toNat) (hm:m<b.Am.toNat) (hs:∀ k,k<b.Ac.length->(Fc b q n k↔Fc b r m k)):A2 b r m=A2 b q n:=by
 have e:=dn h hn hm hs
 unfold Bh at e
 unfold A2;rw [e]
theorem Dk.load {b:Aa} (h:Ar b) {q r:Ab} {n m:Nat} (hn:n<b.Am.toNat) (hm:m<b.Am.toNat) (s:Dk b q n r m) (hl:r.Al=q.Al):Bm b r m=Bm b q n/\Cg b r m=Cg b q n/\Bu b r m=Bu b q n:=by
 have e1:=dn h hn hm s.src
 have e2:=s.cons h hn hm
 have h1:Bm b r m=Bm b q n:=by unfold Bm;rw [e1,e2,hl]
 have h2:Cg b r m=Cg b q n:=by unfold Cg;rw [e1]
 exact⟨h1,h2,by unfold Bu;rw [h1,h2]⟩
theorem I_ {b:Aa} (h:Ar b) {q:Ab} {n:Nat} (hn:n<b.Am.toNat):A2 b q n=true↔∃ k,k<b.Ac.length/\Fc b q n k:=by
 unfold A2
 rw [dw]
 constructor
 ·intro hp
  obtain⟨i,hi⟩:∃ i,i∈(isl b q (Bh b q n)).Ac:=by
   have hp:((isl b q (Bh b q n)).Ac.length:Int)>0:=hp
   cases hl:(isl b q (Bh b q n)).Ac with
   | nil=>rw [hl] at hp;simp at hp
   | cons y l=>exact⟨y,ah⟩
  obtain⟨k,_,hk,e⟩:=Hg.1 hi
  exact⟨k,hk,(Tk h hn).1 e⟩
 ·rintro⟨k,hk,hs⟩
  have:=Hg.2 ⟨k,rfl,hk,(Tk h hn).2 hs⟩
  have:=List.length_pos_of_mem this
  unfold Bh at this
  omega
theorem Lo {b:Aa} (h:Ar b) {q:Ab} {n m:Nat} (hn:n<b.Am.toNat) (hm:m<b.Am.toNat) (c:Bn (Be b q) n m):A2 b q n=A2 b q m:=by
 unfold A2
 rw [(F4 h q hn hm).2 c]
theorem Ayj {b:Aa} (h:Ar b) {q:Ab} {n:Nat} (hn:n<b.Am.toNat) (hd:A2 b q n=false):Bu b q n=0:=by
 have e:¬0<(isl b q (Bh b q n)).Ac.length:=by
  intro hp
  unfold A2 at hd
  rw [dx] at hd
  unfold Bh at hp
  omega
 have e2:(isl b q (Bh b q n)).Ac=[]:=by
  cases hl:(isl b q (Bh b q n)).Ac with
  | nil=>rfl
  | cons y l=>rw [hl] at e;simp at e
 unfold Bu Bm Cg
 rw [if_neg e,e2]
 rfl
theorem Ds {b:Aa} {q:Ab} (hq:Aq b q) {m:Nat} (hm:m<b.Af.length) {a:Int}:By b q 3 (m:Int)=some a↔∃ (k:Nat) (x:Ag),b.Ad[k]? = some x/\x.Kind=3/\x.B=(m:Int)/\q.Ae.getD k false=true/\x.A=a:=by
 have hone:=hq.one m hm
 unfold By
 rw [cC]
 constructor
 ·rintro⟨z,hz,rfl⟩
  have h1:=List.find?_some hz
  have h2:=cD hz
  simp only [ac,dy] at h1
  obtain⟨k,g1,g2⟩:=Aef h2
  exact⟨k,z.1,g1,h1.1.1,h1.1.2,by rw [List.getD,g2,h1.2];rfl,rfl⟩
 ·rintro⟨k,x,hx,h1,h2,h3,rfl⟩
  have hk:=(aa.1 hx).1
  have hn:=hq.ncl
  have hz:(x,true)∈b.Ad.zip q.Ae:=Aia hx (by
   rw [af (by omega)]
   simp only [List.getD,af (show k<q.Ae.length by omega),bF] at h3
   rw [h3])
  have hf:(x,true)∈B_ b.Ad q.Ae m:=an.2 ⟨hz,by simp [h1,h2]⟩
  cases hr:(b.Ad.zip q.Ae).find? (λ z=>(z.1.Kind==3&&z.1.B==(m:Int))&&z.2) with
  | none=>
   exfalso
   rw [List.find?_eq_none] at hr
   have:=hr _ hz
   simp [h1,h2] at this
  | some z=>
   have g1:=List.find?_some hr
   have g2:=cD hr
   have g3:z∈B_ b.Ad q.Ae m:=an.2 ⟨g2,g1⟩
   refine⟨z,rfl,?_⟩
   match hl:B_ b.Ad q.Ae m,hone,hf,g3 with
   | [],_,hf,_=>cases hf
   | [v],_,hf,g3=>
    rw [aP] at hf g3
    rw [g3,←hf]
   | _::_::_,hone,_,_=>simp at hone
theorem Nm {b:Aa} (h:Ar b) {q r:Ab} (hq:Aq b q) (hr:Aq b r) {k:Nat} (hk:k<b.Ac.length) (hc:r.Ae.getD (brN b k) false=q.Ae.getD (brN b k) false) (hs:q.Ae.getD (brN b k) false=true->((r.Ac.getD k default).State=2↔(q.Ac.getD k default).State=2)):Cy b r (k:Int)=Cy b q (k:Int):=by
 rw [E8 h hr hk,E8 h hq hk,hc]
 by_cases hcl:q.Ae.getD (brN b k) false=true
 ·have:=hs hcl
  by_cases h2:(q.Ac.getD k default).State=2
  ·rw [if_pos ⟨this.2 h2,hcl⟩,if_pos ⟨h2,hcl⟩]
  ·rw [if_neg (λ hh=>h2 (this.1 hh.1)),if_neg (λ hh=>h2 hh.1)]
 ·rw [if_neg (λ hh=>hcl hh.2),if_neg (λ hh=>hcl hh.2)]
theorem Axt {b:Aa} {q r:Ab} (hc:r.Ae=q.Ae) (m:Nat):By b r 3 (m:Int)=By b q 3 (m:Int):=by unfold By;rw [hc]
theorem Aao {b:Aa} {q r:Ab} (hc:r.Ae=q.Ae):Be b r=Be b q:=by unfold Be;rw [hc]
theorem Kz {b:Aa} (h:Ar b) {q r:Ab} (hq:Aq b q) (hr:Aq b r) (hc:r.Ae=q.Ae) (hs:∀ k,k<b.Ac.length->q.Ae.getD (brN b k) false=true->((r.Ac.getD k default).State=2↔(q.Ac.getD k default).State=2)) (n:Nat):Dk b q n r n where
 src k hk:=by unfold Fc;rw [Nm h hq hr hk (by rw [hc]) (hs k hk),Aao hc]
 con k _:=by unfold Ip;rw [Axt hc,Aao hc]
theorem Ab0 {L M:Da} {n:Nat} (hs:∀ i j,Bn L n i->Tie L i j->Tie M i j) {m:Nat} (c:Bn L n m):Bn M n m:=by
 obtain⟨r,c⟩:=c
 have key:∀ (r m:Nat),C_ L n r m->Bn M n m:=by
  intro r m c
  induction c with
  | refl=>exact .refl M n
  | stay _ ih=>exact ih
  | step c t ih=>exact ih.tie (hs _ _ ⟨_,c⟩ t)
 exact key r m c
theorem Tm {C:List Bool} {k:Nat} {v:Bool} (h:k<C.length):(C.set k v).getD k false=v:=by simp [List.getD,List.getElem?_set_self h]
theorem Db {b:Aa} (h:Ar b) {k:Nat} {x:Ag} (hx:b.Ad[k]? = some x):(0<=x.A/\x.A<b.Am)/\(x.Kind=1->x.A<x.B/\x.B<b.Am):=by
 have:=h.br x (ae hx)
 unfold Jd at this
 exact⟨this.1,λ e=>by omega⟩
theorem Auu {b:Aa} (h:Ar b) {k i:Nat} {x:Ag} (hx:b.Ad[k]? = some x) (hk:x.Kind≠2) (hi:i<b.Ac.length):brN b i≠k:=by
 obtain⟨_,_,k2,_,hg⟩:=E4 h hi
 intro e
 rw [e,hx] at hg
 have:=bz hg
 rw [e,←this] at k2
 exact hk k2
theorem Agl {b:Aa} (h:Ar b) {q:Ab} (hq:Aq b q) {k:Nat} {x:Ag} (hx:b.Ad[k]? = some x) (hk:x.Kind≠2) (hd:A2 b q x.A.toNat=false) {n:Nat} (hn:n<b.Am.toNat) (hl:A2 b q n=true) :
  Dk b q n ⟨q.Ae.set k false,q.Ac,q.Al,q.Ah⟩ n:=by
 have hr:=jE hq k
 have hb:=Db h hx
 have hnd:∀ m,m<b.Am.toNat->Bn (Be b q) n m->x.A.toNat≠m:=λ m hm c e=>by
  rw [Lo h hn hm c,←e,hd] at hl;cases hl
 have htie:∀ i j,Bn (Be b q) n i->Tie (Be b q) i j->Tie (Be b ⟨q.Ae.set k false,q.Ac,q.Al,q.Ah⟩) i j:=λ i j c t=>by
  have hlt:=Pf h q _ _ t
  have c2:=c.tie t
  obtain⟨k',x',g1,g2,g3,g4⟩:=(Fg hq.ncl).1 t
  refine (Fg hr.ncl).2 ⟨k',x',g1,g2,?_,g4⟩
  by_cases e:k'=k
  ·exfalso
   subst e
   rw [hx] at g1;cases g1
   rcases g4 with⟨e1,_⟩ | ⟨e1,_⟩
   ·exact hnd i hlt.1 c e1
   ·exact hnd j hlt.2 c2 e1
  ·show (q.Ae.set k false).getD k' false=true
   rw [F_ e];exact g3
 have hback:∀ i j,Tie (Be b ⟨q.Ae.set k false,q.Ac,q.Al,q.Ah⟩) i j->Tie (Be b q) i j:=λ i j t=>by
  obtain⟨k',x',g1,g2,g3,g4⟩:=(Fg hr.ncl).1 t
  refine (Fg hq.ncl).2 ⟨k',x',g1,g2,?_,g4⟩
  by_cases e:k'=k
  ·exfalso
   subst e
   have hlt:=(aa.1 hx).1
   have hn2:=hq.ncl
   have g3:(q.Ae.set k' false).getD k' false=true:=g3
   rw [Tm (by omega)] at g3;cases g3
  ·have g3:(q.Ae.set k false).getD k' false=true:=g3
   rwa [F_ e] at g3
 refine⟨λ i hi=>?_,λ m hm=>?_⟩
 ·have hcon:=Nm h hq hr hi (by show (q.Ae.set k false).getD _ false=_;rw [F_ (Auu h hx hk hi)]) (λ _=>Iff.rfl)
  unfold Fc
  rw [hcon]
  constructor
  ·rintro⟨a,e,c⟩
   exact⟨a,e,(Ab0 htie c.symm).symm⟩
  ·rintro⟨a,e,c⟩
   exact⟨a,e,Ol hback c⟩
 ·constructor
  ·rintro⟨a,e,c⟩
   obtain⟨k',x',g1,g2,g3,g4,g5⟩:=(Ds hq hm).1 e
   have ha:=Ja h e
   refine⟨a,(Ds hr hm).2 ⟨k',x',g1,g2,g3,?_,g5⟩,(Ab0 htie c.symm).symm⟩
   by_cases e2:k'=k
   ·exfalso
    subst e2
    rw [hx] at g1;cases g1
    exact hnd a.toNat (by omega) c.symm (by rw [g5])
   ·show (q.Ae.set k false).getD k' false=true
    rw [F_ e2];exact g4
  ·rintro⟨a,e,c⟩
   obtain⟨k',x',g1,g2,g3,g4,g5⟩:=(Ds hr hm).1 e
   refine⟨a,(Ds hq hm).2 ⟨k',x',g1,g2,g3,?_,g5⟩,Ol hback c⟩
   by_cases e2:k'=k
   ·exfalso
    subst e2
    have hlt:=(aa.1 hx).1
    have hn2:=hq.ncl
    have g4:(q.Ae.set k' false).getD k' false=true:=g4
    rw [Tm (by omega)] at g4;cases g4
   ·have g4:(q.Ae.set k false).getD k' false=true:=g4
    rwa [F_ e2] at g4
theorem Nd {b:Aa} (h:Ar b) {q r:Ab} (hq:Aq b q) (hr:Aq b r) (s:Sub b r q) {n:Nat} (hn:n<b.Am.toNat) (hl:A2 b r n=true):A2 b q n=true:=by
 obtain⟨k,hk,a,e,c⟩:=(I_ h hn).1 hl
 refine (I_ h hn).2 ⟨k,hk,a,?_,s.conn hr.ncl hq.ncl c⟩
 rw [E8 h hr hk] at e
 rw [E8 h hq hk]
 split at e
 ·rename_i hh
  rw [if_pos (s.con k hk hh.1 hh.2)];exact e
 ·cases e
def Iq (b:Aa) (q:Ab):Prop:=∀ (k:Nat) x,b.Ad[k]? = some x->q.Ae.getD k false=true->A2 b q x.A.toNat=true
theorem J8 {b:Aa} {q:Ab} (hq:Aq b q) {k:Nat} {x:Ag} (hx:b.Ad[k]? = some x) (hf:x.Kind=3->By b q 3 x.B=none):Aq b (A7 b q k):=by
 have h1:=qK hq hx hf
 exact Ia h1 (Gt _ _) (Rm h1)
theorem E3 (b:Aa) (q:Ab) (k i:Nat):((A7 b q k).Ac.getD i default).State=(q.Ac.getD i default).State:=Sr b _ i
theorem Cf {b:Aa} {q:Ab} (hq:Aq b q) {k:Nat} {x:Ag} (hx:b.Ad[k]? = some x) (j:Nat):(A7 b q k).Ae.getD j false=true↔j=k\/q.Ae.getD j false=true:=by
 have hlt:=(aa.1 hx).1
 have hn:=hq.ncl
 show (q.Ae.set k true).getD j false=true↔_
 by_cases e:j=k
 ·subst e
  rw [Tm (by omega)];simp
 ·rw [F_ e];simp [e]
theorem I1 {b:Aa} {q:Ab} (hq:Aq b q) {k:Nat} {x:Ag} (hx:b.Ad[k]? = some x):Sub b q (A7 b q k):=
 Aek (λ i=>(E3 b q k i).symm) λ j hj=>(Cf hq hx j).2 (.inr hj)
theorem Ao4 {b:Aa} (h:Ar b) {q:Ab} (hq:Aq b q) {k:Nat} {x:Ag} (hx:b.Ad[k]? = some x) (hr:Aq b (A7 b q k)) (ha:Iq b q) (hl:A2 b (A7 b q k) x.A.toNat=true):Iq b (A7 b q k):=λ j y hy hc=>by
 have hb:=Db h hy
 rcases (Cf hq hx j).1 hc with e | e
 ·subst e
  rw [hx] at hy;cases hy;exact hl
 ·exact Nd h hr hq (I1 hq hx) (by omega) (ha j y hy e)
theorem F1 {b:Aa} {q:Ab} (hq:Aq b q) {k:Nat} {x:Ag} (hx:b.Ad[k]? = some x) (hr:Aq b (A7 b q k)) (hk:x.Kind≠1) {i j:Nat}:Bn (Be b (A7 b q k)) i j↔Bn (Be b q) i j:=by
 constructor
 ·refine Ol λ i j t=>?_
  obtain⟨k',x',g1,g2,g3,g4⟩:=(Fg hr.ncl).1 t
  rcases (Cf hq hx k').1 g3 with e | e
  ·subst e
   rw [hx] at g1;cases g1;exact absurd g2 hk
  ·exact (Fg hq.ncl).2 ⟨k',x',g1,g2,e,g4⟩
 ·exact (I1 hq hx).conn hq.ncl hr.ncl
theorem Ru {b:Aa} (h:Ar b) {q:Ab} (hq:Aq b q) {k:Nat} {x:Ag} (hx:b.Ad[k]? = some x) (hr:Aq b (A7 b q k)) (hk:x.Kind≠2) {i:Nat} (hi:i<b.Ac.length):Cy b (A7 b q k) (i:Int)=Cy b q (i:Int):=
 Nm h hq hr hi (by show (q.Ae.set k true).getD _ false=_;rw [F_ (Auu h hx hk hi)]) λ _=>by rw [E3]
theorem Nf {b:Aa} {q:Ab} (hq:Aq b q) {k:Nat} {x:Ag} (hx:b.Ad[k]? = some x) (hr:Aq b (A7 b q k)) {m:Nat} (hm:m<b.Af.length) (hk:¬(x.Kind=3/\x.B=(m:Int))) {a:Int}:By b (A7 b q k) 3 (m:Int)=some a↔By b q 3 (m:Int)=some a:=by
 rw [Ds hr hm,Ds hq hm]
 constructor
 ·rintro⟨k',x',g1,g2,g3,g4,g5⟩
  rcases (Cf hq hx k').1 g4 with e | e
  ·subst e
   rw [hx] at g1;cases g1;exact absurd ⟨g2,g3⟩ hk
  ·exact⟨k',x',g1,g2,g3,e,g5⟩
 ·rintro⟨k',x',g1,g2,g3,g4,g5⟩
  exact⟨k',x',g1,g2,g3,(Cf hq hx k').2 (.inr g4),g5⟩
def fl (p:Nat->Bool) (n:Nat):List Int:=((List.range n).filter p).map λ (i:Nat)=>(i:Int)
theorem Ato (L:List Int) {p p':Nat->Bool} {c:Nat} (hc:p c=false):∀ n,(∀ k,k<n->p' k=(p k || k==c))->Ir L (fl p' n)=Ir L (fl p n)+if c<n then L.getD c 0 else 0
 | 0,_=>rfl
 | n+1,h=>by
  have ih:=Ato L hc n λ k hk=>h k (by omega)
  have hn:=h n (by omega)
  unfold fl at ih ⊢
  rw [Ea,Ea]
  by_cases e:n=c
  ·subst e
   have e1:p' n=true:=by rw [hn];simp
   rw [e1,hc,if_pos rfl,if_neg (by simp),aG,Hw,ih,if_neg (by omega),if_pos (by omega),ai]
   omega
  ·have e1:p' n=p n:=by rw [hn];simp [e]
   rw [e1]
   have e2:(c<n+1)=(c<n):=by rw [eq_iff_iff];omega
   cases p n with
   | true=>
    rw [if_pos rfl,Hw,Hw,ih]
    simp only [e2];omega
   | false=>
    rw [if_neg (by simp),aG,aG,ih]
    simp only [e2]
theorem A4v {b:Aa} (h:Ar b) {q:Ab} (hq:Aq b q) {k:Nat} {x:Ag} (hx:b.Ad[k]? = some x) {c:Nat} (hk:x.Kind=3) (hB:x.B=(c:Int)) (hc:c<b.Af.length) (hled:By b q 3 (c:Int)=none)
  (hl:Bm b q x.A.toNat+q.Al.getD c 0<=Cg b q x.A.toNat) (he:∀ n,n<b.Am.toNat->Bu b q n=0):∀ n,n<b.Am.toNat->Bu b (A7 b q k) n=0:=by
 have hr:=J8 hq hx (λ _=>by rw [hB];exact hled)
 have hb:=Db h hx
 intro n hn
 have hsrc:∀ i,i<b.Ac.length->(Fc b q n i↔Fc b (A7 b q k) n i):=λ i hi=>by
  unfold Fc
  rw [Ru h hq hx hr (by omega) hi]
  simp only [F1 hq hx hr (by omega)]
 have hcon:∀ m,m<b.Af.length->m≠c->(Ip b q n m↔Ip b (A7 b q k) n m):=λ m hm hmc=>by
  unfold Ip
  simp only [Nf hq hx hr hm (by rintro⟨_,e⟩;rw [hB] at e;omega),F1 hq hx hr (show x.Kind≠1 by omega)]
 have hcc:Ip b (A7 b q k) n c↔Bn (Be b q) x.A.toNat n:=by
  constructor
  ·rintro⟨a,e,cc⟩
   rw [F1 hq hx hr (by omega)] at cc
   obtain⟨k',x',g1,g2,g3,g4,g5⟩:=(Ds hr hc).1 e
   rcases (Cf hq hx k').1 g4 with e2 | e2
   ·subst e2
    rw [hx] at g1;cases g1
    rw [g5];exact cc
   ·have:=(Ds hq hc).2 ⟨k',x',g1,g2,g3,e2,g5⟩
    rw [hled] at this;cases this
  ·intro cc
   exact⟨x.A,(Ds hr hc).2 ⟨k,x,hx,hk,hB,(Cf hq hx k).2 (.inl rfl),rfl⟩,(F1 hq hx hr (by omega)).2 cc⟩
 have hno:¬Ip b q n c:=by
  rintro⟨a,e,_⟩
  rw [hled] at e;cases e
 by_cases hA:Bn (Be b q) x.A.toNat n
 ·have e1:=dn h hn hn hsrc
  have e2:=(F4 h q (by omega) hn).2 hA
  have eg:Bh b q x.A.toNat=Bh b q n:=by unfold Bh;rw [e2]
  have er:Cg b (A7 b q k) n=Cg b q x.A.toNat:=by unfold Cg;rw [←e1,eg]
  have el:Bm b (A7 b q k) n<=Bm b q x.A.toNat+q.Al.getD c 0:=by
   have hlim:=(O5 h hq (c:=(c:Int)) (by omega) (by omega)).2.1
   rw [ai] at hlim
   unfold Bm
   rw [←e1,eg]
   split
   ·have hs:=Ato q.Al (p:=λ m=>Dr b q (By b q 3 (m:Int))==some ((Bh b q n:Nat):Int)) (p':=λ m=>Dr b (A7 b q k) (By b (A7 b q k) 3 (m:Int))==some ((Bh b (A7 b q k) n:Nat):Int)) (c:=c) (by
     rw [dz]
     intro e
     exact hno ((Lv h hn).1 e)) b.Af.length λ m hm=>by
     rw [bf,aJ,dy,dy,dy,Lv h hn,Lv h hn]
     by_cases e:m=c
     ·subst e
      exact⟨λ _=>.inr rfl,λ _=>hcc.2 hA⟩
     ·rw [←hcon m hm e]
      exact⟨.inl,λ hh=>hh.resolve_right e⟩
    rw [if_pos hc] at hs
    exact Int.le_of_eq hs
   ·omega
  unfold Bu
  rw [er]
  have:=he _ (show x.A.toNat<b.Am.toNat by omega)
  omega
 ·have s:Dk b q n (A7 b q k) n:=⟨hsrc,λ m hm=>by
   by_cases e:m=c
   ·subst e
    exact⟨λ hh=>absurd hh hno,λ hh=>absurd (hcc.1 hh) hA⟩
   ·exact hcon m hm e⟩
  rw [(s.load h hn hn rfl).2.2]
  exact he n hn
theorem Ahw {L:Da} {n:Nat} (hs:∀ j,¬Tie L n j) {m:Nat} (c:Bn L n m):m=n:=by
 obtain⟨r,c⟩:=c
 have key:∀ (r m:Nat),C_ L n r m->m=n:=by
  intro r m c
  induction c with
  | refl=>rfl
  | stay _ ih=>exact ih
  | step _ t ih=>rw [ih] at t;exact absurd t (hs _)
 exact key r m c
theorem qH {b:Aa} (h:Ar b) {q:Ab} (hq:Aq b q) (ha:Iq b q) {n:Nat} (hn:n<b.Am.toNat) (hd:A2 b q n=false) (j:Nat):¬Tie (Be b q) n j:=λ t=>by
 have hlt:=Pf h q _ _ t
 obtain⟨k,x,g1,g2,g3,g4⟩:=(Fg hq.ncl).1 t
 have hl:=ha k x g1 g3
 rcases g4 with⟨e,_⟩ | ⟨e,_⟩
 ·rw [e,hd] at hl;cases hl
 ·rw [e,←Lo h hn hlt.2 ((Bn.refl _ _).tie t),hd] at hl;cases hl
theorem Xj {b:Aa} (h:Ar b) {q:Ab} (hq:Aq b q) (ha:Iq b q) {n:Nat} (hn:n<b.Am.toNat) (hd:A2 b q n=false) {m:Nat} (hm:m<b.Af.length):¬Ip b q n m:=by
 rintro⟨a,e,c⟩
 have hab:=Ja h e
 obtain⟨k,x,g1,_,_,g4,g5⟩:=(Ds hq hm).1 e
 have:=ha k x g1 g4
 rw [g5,Lo h (by omega) hn c,hd] at this
 cases this
theorem A4w {b:Aa} (h:Ar b) {q:Ab} (hq:Aq b q) (ha:Iq b q) {k:Nat} {x:Ag} (hx:b.Ad[k]? = some x) (hk:x.Kind=2) (hs:(q.Ac.getD x.B.toNat default).State=2) (hd:A2 b q x.A.toNat=false) (he:∀ n,n<b.Am.toNat->Bu b q n=0) :
  (∀ n,n<b.Am.toNat->Bu b (A7 b q k) n=0)/\A2 b (A7 b q k) x.A.toNat=true:=by
 have hr:=J8 hq hx (λ e=>by omega)
 have hb:=Db h hx
 have hbr:=h.br x (ae hx)
 unfold Jd at hbr
 obtain⟨i,ei⟩:∃ i:Nat,x.B=(i:Int):=⟨x.B.toNat,by omega⟩
 have hi:i<b.Ac.length:=by omega
 have ek:=Yj h hi hx hk ei
 have hlive:A2 b (A7 b q k) x.A.toNat=true:=by
  refine (I_ h (by omega)).2 ⟨i,hi,x.A,?_,Bn.refl _ _⟩
  rw [E8 h hr hi,←ek,Cs hx,if_pos ⟨by rw [E3];rw [ei,ai] at hs;exact hs,(Cf hq hx k).2 (.inl rfl)⟩]
 refine⟨λ n hn=>?_,hlive⟩
 by_cases hA:Bn (Be b q) x.A.toNat n
 ·have en:=Ahw (qH h hq ha (by omega) hd) hA
  subst en
  have:(isl b (A7 b q k) (Bh b (A7 b q k) x.A.toNat)).Af=[]:=by
   cases hl:(isl b (A7 b q k) (Bh b (A7 b q k) x.A.toNat)).Af with
   | nil=>rfl
   | cons y l=>
    exfalso
    obtain⟨m,_,hm,e⟩:=D7.1 (show y∈(isl b (A7 b q k) (Bh b (A7 b q k) x.A.toNat)).Af by rw [hl];exact ah)
    obtain⟨a,e1,cc⟩:=(Lv h hn).1 e
    rw [Nf hq hx hr hm (by omega)] at e1
    rw [F1 hq hx hr (by omega)] at cc
    exact Xj h hq ha hn hd hm ⟨a,e1,cc⟩
  have e2:Bm b (A7 b q k) x.A.toNat=0:=by unfold Bm;rw [this];simp [Ir]
  have e3:=(Ob h hr hn).2.1
  unfold Bu
  omega
 ·have s:Dk b q n (A7 b q k) n:=⟨λ j hj=>by
   unfold Fc
   simp only [F1 hq hx hr (show x.Kind≠1 by omega)]
   by_cases e:j=i
   ·subst e
    have hcq:∀ a,Cy b q (j:Int)=some a->a=x.A:=λ a e2=>by
     rw [E8 h hq hj,←ek,Cs hx] at e2
     split at e2
     ·exact (bz e2).symm
     ·cases e2
    have hcr:∀ a,Cy b (A7 b q k) (j:Int)=some a->a=x.A:=λ a e2=>by
     rw [E8 h hr hj,←ek,Cs hx] at e2
     split at e2
     ·exact (bz e2).symm
     ·cases e2
    constructor
    ·rintro⟨a,e2,cc⟩
     rw [hcq a e2] at cc;exact absurd cc hA
    ·rintro⟨a,e2,cc⟩
     rw [hcr a e2] at cc;exact absurd cc hA
   ·have hne:brN b j≠k:=λ e2=>by
     obtain⟨_,_,_,kB,hg⟩:=E4 h hj
     rw [e2,Cs hx] at kB
     omega
    rw [Nm h hq hr hj (by show (q.Ae.set k true).getD _ false=_;rw [F_ hne]) λ _=>by rw [E3]],λ m hm=>by
   unfold Ip
   simp only [Nf hq hx hr hm (by omega),F1 hq hx hr (show x.Kind≠1 by omega)]⟩
  rw [(s.load h hn hn rfl).2.2]
  exact he n hn
theorem Auh {b:Aa} (h:Ar b) {q:Ab} (hq:Aq b q) (ha:Iq b q) {k:Nat} {x:Ag} (hx:b.Ad[k]? = some x) (hk:x.Kind=1) {u v:Nat} (huv:(u=x.A.toNat/\v=x.B.toNat)\/(u=x.B.toNat/\v=x.A.toNat)) (hu:A2 b q u=true) (hv:A2 b q v=false) (he:∀ n,n<b.Am.toNat->Bu b q n=0) :
  (∀ n,n<b.Am.toNat->Bu b (A7 b q k) n=0)/\A2 b (A7 b q k) u=true/\A2 b (A7 b q k) v=true:=by
 have hr:=J8 hq hx (λ e=>by omega)
 have hb:=Db h hx
 have hB:=hb.2 hk
 have hun:u<b.Am.toNat:=by omega
 have hvn:v<b.Am.toNat:=by omega
 have hsub:=I1 hq hx
 have hup:∀ {i j},Bn (Be b q) i j->Bn (Be b (A7 b q k)) i j:=λ c=>hsub.conn hq.ncl hr.ncl c
 have ht:Tie (Be b (A7 b q k)) u v:=(Fg hr.ncl).2 ⟨k,x,hx,hk,(Cf hq hx k).2 (.inl rfl),by omega⟩
 have hadd:∀ i j,Tie (Be b (A7 b q k)) i j->Tie (Be b q) i j\/(i=u/\j=v)\/(i=v/\j=u):=λ i j t=>by
  obtain⟨k',x',g1,g2,g3,g4⟩:=(Fg hr.ncl).1 t
  rcases (Cf hq hx k').1 g3 with e | e
  ·subst e
   rw [hx] at g1;cases g1
   exact .inr (by omega)
  ·exact .inl ((Fg hq.ncl).2 ⟨k',x',g1,g2,e,g4⟩)
 have hlu:=Nd h hr hq hsub hun hu
 have hlv:A2 b (A7 b q k) v=true:=by rw [←Lo h hun hvn ((Bn.refl _ _).tie ht)];exact hlu
 have halone:∀ {j},Bn (Be b q) v j->j=v:=λ c=>Ahw (qH h hq ha hvn hv) c
 refine⟨λ n hn=>?_,hlu,hlv⟩
 have hcl:∀ {i:Nat},i<b.Am.toNat->Bn (Be b (A7 b q k)) i n->Bn (Be b q) i n\/(Bn (Be b q) i u/\Bn (Be b q) v n)\/(Bn (Be b q) i v/\Bn (Be b q) u n):=λ _ c=>Yd hadd c
 by_cases hn1:Bn (Be b q) u n\/n=v
 ·
  have hcu:Bn (Be b (A7 b q k)) u n:=by
   rcases hn1 with c | e
   ·exact hup c
   ·rw [e];exact (Bn.refl _ _).tie ht
  have hcls:∀ {i:Nat},Bn (Be b (A7 b q k)) i n↔Bn (Be b q) i u\/i=v:=by
   intro i
   constructor
   ·intro c
    have c2:Bn (Be b (A7 b q k)) i u:=c.trans hcu.symm
    rcases Yd hadd c2 with c3 | ⟨c3,_⟩ | ⟨c3,_⟩
    ·exact .inl c3
    ·exact .inl c3
    ·exact .inr (halone c3.symm)
   ·rintro (c | e)
    ·exact (hup c).trans hcu
    ·rw [e];exact ((Bn.refl _ _).tie ht.symm).trans hcu
  have s:Dk b q u (A7 b q k) n:=by
   refine⟨λ j hj=>?_,λ m hm=>?_⟩
   ·unfold Fc
    rw [Ru h hq hx hr (by omega) hj]
    constructor
    ·rintro⟨a,e,c⟩;exact⟨a,e,hcls.2 (.inl c)⟩
    ·rintro⟨a,e,c⟩
     rcases hcls.1 c with c | e2
     ·exact⟨a,e,c⟩
     ·exfalso
      have:=(I_ h (n:=v) hvn).2 ⟨j,hj,a,e,by rw [e2];exact Bn.refl _ _⟩
      rw [hv] at this;cases this
   ·unfold Ip
    simp only [Nf hq hx hr hm (show ¬(x.Kind=3/\x.B=(m:Int)) by omega)]
    constructor
    ·rintro⟨a,e,c⟩;exact⟨a,e,hcls.2 (.inl c)⟩
    ·rintro⟨a,e,c⟩
     rcases hcls.1 c with c | e2
     ·exact⟨a,e,c⟩
     ·exact absurd ⟨a,e,by rw [e2];exact Bn.refl _ _⟩ (Xj h hq ha hvn hv hm)
  rw [(s.load h hun hn rfl).2.2]
  exact he u hun
 ·have hne:¬Bn (Be b q) u n/\n≠v:=⟨λ c=>hn1 (.inl c),λ e=>hn1 (.inr e)⟩
  have hcls:∀ {i:Nat},Bn (Be b (A7 b q k)) i n↔Bn (Be b q) i n:=by
   intro i
   refine⟨λ c=>?_,hup⟩
   rcases Yd hadd c with c3 | ⟨_,c3⟩ | ⟨_,c3⟩
   ·exact c3
   ·exact absurd (halone c3) hne.2
   ·exact absurd c3 hne.1
  have s:Dk b q n (A7 b q k) n:=⟨λ j hj=>by
   unfold Fc
   rw [Ru h hq hx hr (by omega) hj]
   simp only [hcls],λ m hm=>by
   unfold Ip
   simp only [Nf hq hx hr hm (show ¬(x.Kind=3/\x.B=(m:Int)) by omega),hcls]⟩
  rw [(s.load h hn hn rfl).2.2]
  exact he n hn
theorem Anr {b:Aa} (h:Ar b):Ok (F12 b) λ y=>y.length<=256/\∀ x:Int,x∈y->0<=x/\x<b.Af.length:=by
 have hcl:=h.col
 unfold F12
 rw [M8 h]
 simp only [ab]
 refine c4 (λ hc=>by simp at hc) (λ _=>?_)
 refine Ok.andThen (A:=λ (s:Int×List Int)=>s.2.length<=256/\∀ x:Int,x∈s.2->0<=x/\x<b.Af.length) (B:=λ (_:Unit)=>False) ?_ (λ s hs=>c5 hs) (λ _ h=>h.elim)
 refine c9 (λ (s:Int×List Int)=>(0<=s.1/\s.1<=16)/\(s.2.length:Int)<=16*s.1/\∀ x:Int,x∈s.2->0<=x/\x<b.Af.length) (λ s=>(16-s.1).toNat) _ _ ⟨by dsimp only;omega,by simp,λ x hx=>by cases hx⟩ (by dsimp only;omega) ?_
 rintro⟨k,d⟩ ⟨hk,hl,hm⟩
 dsimp only at hk hm hl
 unfold vD
 dsimp only
 refine c4 (λ hq=>?_) (λ hq=>cW ⟨by dsimp only;omega,hm⟩)
 simp only [dw] at hq
 refine Ok.andThen (A:=λ (s:List Int)=>(s.length:Int)<=16*(k+1)/\∀ x:Int,x∈s->0<=x/\x<b.Af.length) (B:=λ (_:Unit)=>False) ?_ (λ s hs=>?_) (λ _ h=>h.elim)
 ·refine c7 (I:=λ j (s:List Int)=>(s.length:Int)<=16*k+j/\∀ x:Int,x∈s->0<=x/\x<b.Af.length) ⟨by omega,hm⟩ (λ j c s hc hI=>?_) λ s hI=>⟨by omega,hI.2⟩
  obtain⟨i1,i2⟩:=hI
  have hj:j<b.Af.length:=(aa.1 hc).1
  have ec:cnt 0 j=(j:Int):=Cw (by omega)
  unfold vC
  dsimp only
  refine c4 (λ hq2=>?_) (λ hq2=>c6 ⟨by omega,i2⟩)
  refine (cV (by simp;omega)).bind λ y hy=>c6 ?_
  rw [hy,ec]
  refine⟨by simp;omega,λ x hx=>?_⟩
  rcases aq.1 hx with hx | hx
  ·exact i2 x hx
  ·rw [aP.1 hx];omega
 ·have e2:w64 (k+1)=k+1:=A6 (by omega)
  rw [e2]
  exact c6 ⟨⟨by dsimp only;omega,hs⟩,by dsimp only;omega⟩
theorem A51 {b:Aa} (h:Ar b) (c:Int):Ok (F16 b 3 c) λ l=>l.length<=24/\∀ i,i∈l->0<=i/\i<b.Ad.length:=by
 have hbl:=h.brl
 unfold F16
 rw [M8 h,X2 h]
 refine c5 ⟨?_,λ i hi=>?_⟩
 ·show (List.map _ (List.filter (λ z:Ag×Nat=>Hv 3 c z.1) b.Ad.zipIdx)).length<=24
  have:=bh (λ z:Ag×Nat=>Hv 3 c z.1) b.Ad.zipIdx
  rw [List.length_zipIdx] at this
  rw [ax];omega
 ·unfold ofL at hi
  obtain⟨⟨x,k⟩,hz,rfl⟩:=am.1 hi
  have:=(an.1 hz).1
  rw [bx] at this
  have:=(aa.1 this).1
  dsimp only at this ⊢
  omega
def Uz (b:Aa) (L:List Int):Prop:=L.length=b.Af.length/\∀ (i:Nat) n c,L[i]? = some n->b.Af[i]? = some c->0<=n/\n<=c.Load
theorem Uz.set {b:Aa} {L:List Int} (hL:Uz b L) {k:Nat} {v:Int} (hv:∀ c,b.Af[k]? = some c->0<=v/\v<=c.Load):Uz b (L.set k v):=by
 refine⟨by rw [be];exact hL.1,λ i n c hn hc=>?_⟩
 rw [ao] at hn
 by_cases e:k=i
 ·subst e
  rw [if_pos rfl] at hn
  split at hn
  ·cases hn;exact hv c hc
  ·cases hn
 ·rw [if_neg e] at hn
  exact hL.2 i n c hn hc
def Ld (b:Aa) (p:Ab) (C:List Bool):Prop:=Aq b (Ba p C)/\∀ k:Nat,C.getD k false=true->p.Ae.getD k false=true
theorem Ld.set {b:Aa} {p:Ab} {C:List Bool} (u:Ld b p C) (k:Nat):Ld b p (C.set k false):=by
 refine⟨jE u.1 k,λ j hj=>u.2 j ?_⟩
 simp only [List.getD,ao] at hj ⊢
 split at hj
 ·split at hj <;> simp at hj
 ·exact hj
theorem Aq7 {b : Aa} (h : Ar b) {p : Ab} (hp : Aq b p) : Ok (F67 b p) λ y => (Aq b y.1 /\ y.1.Ac = p.Ac /\ y.1.Ah = p.Ah /\ ∀ k : Nat, y.1.Ae.getD k false = true -> p.Ae.getD k false = true) /\ y.2.1.length <= 150000 := by
 have hbl:=h.brl
 have hcl:=h.col
 have hbu:=h.buses
 have hil:=Ps b p
 unfold F67
 rw [H1 h hp,zA h hp]
 simp only [ab]
 refine c4 (λ hc=>by simp at hc) (λ _=>?_)
 refine (Anr h).bind λ o ho=>?_
 have hi:F21 b p=some (Bd b p):=T7 h hp
 refine Ok.bind (P:=λ v=>v=Bd b p) (c8 hi rfl) λ v hv=>?_
 subst hv
 refine Ok.andThen (A:=λ (s:List Bool×List Int×List Ak)=>Ld b p s.1/\Uz b s.2.1/\s.2.2.length<=150000) (B:=λ (_:Unit)=>False) ?_ (λ s hs=>?_) (λ _ h=>h.elim)
 ·refine c7 (I:=λ j (s:List Bool×List Int×List Ak)=>Ld b p s.1/\Uz b s.2.1/\s.2.2.length<=1000*24*j) ⟨⟨show Aq b (Ba p p.Ae) from hp,λ _ hk=>hk⟩,⟨hp.nli,hp.lim⟩,by simp⟩ (λ j x s hx hI=>?_) λ s hI=>⟨hI.1,hI.2.1,?_⟩
  ·obtain⟨g1,g2,g3⟩:=hI
   have hj:j<(Bd b p).length:=(aa.1 hx).1
   have hin:=jS h (ae hx)
   obtain⟨e0,hb0⟩:=Yi hin
   unfold Ajx
   rw [e0]
   simp only [ab]
   have hl:=Abo h hp hb0
   have hr:=Xc h hp hb0
   rw [hl,hr]
   simp only [ab]
   refine Ok.inner (A:=λ (s1:Int×List Int×List Ak)=>Uz b s1.2.1/\s1.2.2.length<=s.2.2.length+256) (B:=λ (_:Unit)=>False) ?_ (λ s1 hs1=>?_) (λ _ h=>h.elim)
   ·refine c7 (I:=λ i (s1:Int×List Int×List Ak)=>Uz b s1.2.1/\s1.2.2.length<=s.2.2.length+i) ⟨g2,by dsimp only;omega⟩ (λ i c s1 hc hI=>?_) λ s1 hI=>⟨hI.1,by have:=hI.2;omega⟩
    obtain⟨i1,i2⟩:=hI
    have hlt:=(aa.1 hc).1
    have hcin:=ho.2 c (ae hc)
    have hLl:=i1.1
    have hcg:=A4u hcin.1 hcin.2
    have hcg2:=Fl (b:=b) (i:=c.toNat) (by omega)
    unfold Ajw
    rw [hcg,jT]
    simp only [ab]
    have hstay:Uz b s1.2.1/\s1.2.2.length<=s.2.2.length+(i+1):=⟨i1,by omega⟩
    cases hq1:decide (s1.1<=0) with
    | true=>
     refine Ok.bind (P:=λ _=>True) (cT (λ hh=>absurd hh.1 (by simp)) λ _=>trivial) λ y1 _=>?_
     refine Ok.bind (P:=λ _=>True) (cT (λ hh=>absurd hh.1 (by simp)) λ _=>trivial) λ y2 _=>?_
     refine c4 (λ _=>c6 hstay) (λ hc=>?_)
     simp [qR,hq1] at hc
    | false=>
     refine Ok.bind (P:=λ y=>y=x.Af.any (· == c)) (c5 rfl) λ y1 hy1=>?_
     subst hy1
     cases hq2:x.Af.any (· == c) with
     | false=>
      refine Ok.bind (P:=λ _=>True) (cT (λ hh=>absurd hh.1 (by simp)) λ _=>trivial) λ y2 _=>?_
      refine c4 (λ _=>c6 hstay) (λ hc=>?_)
      simp [qR] at hc
     | true=>
      have hg:getI s1.2.1 c=some (s1.2.1.getD c.toNat 0):=by
       have e:s1.2.1[c.toNat]? = some (s1.2.1.getD c.toNat 0):=by
        rw [af (by omega)];simp [List.getD,List.getElem?_eq_getElem (show c.toNat<s1.2.1.length by omega)]
       have:=A8 e;rwa [aK hcin.1] at this
      have hlim:=i1.2 c.toNat _ _ (by rw [af (by omega)]) hcg2
      have hge:s1.2.1[c.toNat]'(by omega)=s1.2.1.getD c.toNat 0:=by simp [List.getD,List.getElem?_eq_getElem (show c.toNat<s1.2.1.length by omega)]
      rw [hge] at hlim
      have hco1:=(h.co c.toNat _ hcg2).1
      have hco2:=(h.co c.toNat _ hcg2).2.1
      have hq3:¬s1.1<=0:=of_decide_eq_false hq1
      refine Ok.bind (P:=λ y=>y=s1.2.1.getD c.toNat 0) (c8 hg rfl) λ y2 hy2=>?_
      subst hy2
      refine c4 (λ _=>c6 hstay) (λ hc2=>?_)
      simp only [qR,hq1,bi,Bool.or_false,aU,dx] at hc2
      rw [hg]
      simp only [ab]
      have w1:w64 (s1.2.1.getD c.toNat 0-(b.Af.getD c.toNat default).Least)=s1.2.1.getD c.toNat 0-(b.Af.getD c.toNat default).Least:=A6 (by omega)
      rw [w1]
      have hm1:min s1.1 (s1.2.1.getD c.toNat 0-(b.Af.getD c.toNat default).Least)<=s1.2.1.getD c.toNat 0-(b.Af.getD c.toNat default).Least:=cJ _ _
      have hm2:0<min s1.1 (s1.2.1.getD c.toNat 0-(b.Af.getD c.toNat default).Least):=by omega
      have w2:w64 (s1.2.1.getD c.toNat 0-min s1.1 (s1.2.1.getD c.toNat 0-(b.Af.getD c.toNat default).Least))=s1.2.1.getD c.toNat 0-min s1.1 (s1.2.1.getD c.toNat 0-(b.Af.getD c.toNat default).Least):=A6 (by omega)
      rw [w2]
      refine (cU hcin.1 (by omega)).bind λ y hy=>?_
      subst hy
      refine (cS hcin.1 (by rw [be];omega)).bind λ z _=>(cV (by simp;omega)).bind λ w hw=>c6 ⟨?_,by rw [hw];simp;omega⟩
      refine i1.set λ c' hc'=>?_
      rw [hcg2] at hc'
      cases hc'
      omega
   refine Ok.inner (A:=λ (s2:Int×List Bool×List Ak)=>Ld b p s2.2.1/\s2.2.2.length<=s.2.2.length+256+24*256) (B:=λ (_:Unit)=>False) ?_ (λ s2 hs2=>?_) (λ _ h=>h.elim)
   ·refine c7 (I:=λ i (s2:Int×List Bool×List Ak)=>Ld b p s2.2.1/\s2.2.2.length<=s.2.2.length+256+24*i) ⟨g1,by have:=hs1.2;dsimp only;omega⟩ (λ i c s2 hc hI=>?_) λ s2 hI=>⟨hI.1,by have:=hI.2;have:=ho.1;omega⟩
    obtain⟨i1,i2⟩:=hI
    have hlt:=(aa.1 hc).1
    have hcin:=ho.2 c (ae hc)
    have hLl:=hs1.1.1
    unfold Ajv
    rw [jT]
    have hstay:Ld b p s2.2.1/\s2.2.2.length<=s.2.2.length+256+24*(i+1):=⟨i1,by omega⟩
    refine Ok.bind (P:=λ _=>True) (d5 (λ _=>⟨_,rfl,trivial⟩) λ _=>trivial) λ y1 _=>?_
    refine Ok.bind (P:=λ _=>True) (d5 (λ _=>d7 hcin.1 (by omega)) λ _=>trivial) λ y2 _=>?_
    refine c4 (λ _=>c6 hstay) (λ _=>?_)
    refine (A51 h c).bind λ l hl=>?_
    refine Ok.inner (A:=λ (s3:List Bool×List Ak)=>Ld b p s3.1/\s3.2.length<=s2.2.2.length+24) (B:=λ (_:Unit)=>False) ?_ (λ s3 hs3=>?_) (λ _ h=>h.elim)
    ·refine c7 (I:=λ m (s3:List Bool×List Ak)=>Ld b p s3.1/\s3.2.length<=s2.2.2.length+m) ⟨i1,by dsimp only;omega⟩ (λ m k s3 hk hI=>?_) λ s3 hI=>⟨hI.1,by have:=hI.2;have:=hl.1;omega⟩
     obtain⟨m1,m2⟩:=hI
     have hml:=(aa.1 hk).1
     have hkin:=hl.2 k (ae hk)
     have hncl:s3.1.length=b.Ad.length:=m1.1.ncl
     have hl1:=hl.1
     unfold Aju
     refine (cS hkin.1 (by omega)).bind λ v _=>?_
     refine c4 (λ _=>?_) (λ _=>c6 ⟨m1,by dsimp only;omega⟩)
     refine (cU hkin.1 (by omega)).bind λ y hy=>?_
     subst hy
     refine (cV (by simp;have:=ho.1;omega)).bind λ w hw=>c6 ⟨m1.set _,by rw [hw];simp;omega⟩
    ·refine (cS hcin.1 (by omega)).bind λ v _=>c6 ⟨hs3.1,by have:=hs3.2;dsimp only;omega⟩
   ·exact c6 ⟨hs2.1,hs1.1,by have:=hs2.2;dsimp only;omega⟩
  ·have:=hI.2.2
   omega
 ·obtain⟨g1,g2,g3⟩:=hs
  refine c5 ⟨⟨⟨g1.1.ncl,hp.nso,g2.1,hp.run,g2.2,g1.1.one,hp.brk⟩,rfl,rfl,g1.2⟩,g3⟩
theorem Agh {b:Aa} (h:Ar b) {p:Ab} (hp:Aq b p):Ok (F29 b p) λ y=>Aq b y.1/\y.1.Ac=(Gv b p).Ac/\y.1.Ah=p.Ah/\∀ k:Nat,y.1.Ae.getD k false=true->(Gv b p).Ae.getD k false=true:=by
 unfold F29
 refine (Aos h hp).bind λ y hy=>?_
 obtain⟨c,acts,e⟩:=y
 obtain⟨rfl,rfl,hla⟩:=hy
 refine c4 (λ hc=>by simp at hc) (λ _=>?_)
 refine (Aq7 h (Jm hp)).bind λ z hz=>?_
 obtain⟨⟨z1,z2,z3,z4⟩,hlz⟩:=hz
 dsimp only at hla
 refine (cV (by simp only [];omega)).bind λ w _=>c5 ⟨z1,z2,z3,z4⟩
abbrev aW:Ak:=⟨7,0,0⟩
def A2d (n:Nat):Bool:=!(Az1 [aW] (n:Int))&&(w64 ((So (IntKind.wrap .u64 (([aW].length:Nat):Int)) (IntKind.wrap .u64 (n:Int))).2)==(n:Int))
theorem A2e:(List.range 601).all A2d=true:=by kernel_rfl
theorem A03 {n:Nat} (h:n<=600):F83 [aW] (n:Int)=some (List.replicate n aW):=by
 have hm:=aR.1 A2e n (aH.2 (by omega))
 unfold A2d at hm
 simp only [ac,aC,dy] at hm
 refine cZ ?_
 unfold F83
 refine Ok.andThen (A:=λ _=>True) (B:=λ (_:Unit)=>False) ?_ (λ _ _=>?_) (λ _ h=>h.elim)
 ·unfold Ajn
  exact c4 (λ hc=>by simp only [dw] at hc;omega) λ _=>d8 trivial
 refine Ok.andThen (A:=λ _=>True) (B:=λ (_:Unit)=>False) ?_ (λ _ _=>?_) (λ _ h=>h.elim)
 ·unfold Ajm
  exact c4 (λ hc=>by rw [hm.1] at hc;cases hc) λ _=>d8 trivial
 rw [hm.2]
 refine (Ok.mkI (by omega) (by omega)).bind λ y hy=>?_
 have hyl:y.length=n:=by rw [hy];simp
 refine Ok.andThen (A:=λ (s:Int×List Ak)=>s.2=List.replicate n aW) (B:=λ (_:Unit)=>False) ?_ (λ s hs=>c5 hs) (λ _ h=>h.elim)
 refine c9 (λ (s:Int×List Ak)=>∃ k:Nat,s.1=(k:Int)/\s.2.length=n/\k<=n/\(0<k\/n=0)/\s.2.take k=List.replicate k aW) (λ s=>((n:Int)-s.1).toNat) _ _ ?_ (by dsimp only;omega) ?_
 ·refine⟨min 1 n,by rw [hyl];rfl,?_,by omega,by omega,?_⟩
  ·show (Iy y 0 y.length [aW]).length=n
   have e1:Nat.min [aW].length n=min 1 n:=rfl
   unfold Iy
   rw [aI,aI,aF,aF,bW,hyl,e1,List.length_singleton]
   omega
  ·rcases cK n with e | e
   ·subst e;rfl
   ·have e1:min 1 n=1:=by omega
    have e2:Nat.min [aW].length n=1:=e1
    show (Iy y 0 y.length [aW]).take (min 1 n)=_
    rw [e1]
    unfold Iy
    rw [hyl,e2];rfl
 ·rintro⟨z,s⟩ ⟨k,hz,h1,h2,h3,h4⟩
  dsimp only at hz h1 h4
  subst hz
  unfold Ajo Az0
  dsimp only
  refine c4 (λ hq=>?_) (λ hq=>cW ?_)
  ·simp only [dw] at hq
   refine (Ok.bndI (by omega) (by omega) (by omega)).bind λ _ _=>(Ok.bndI (by omega) (by omega) (by omega)).bind λ _ _=>c6 ?_
   have e1:(Int.toNat (k:Int))-0=k:=by omega
   have e2:(Int.toNat (s.length:Int))-(Int.toNat (k:Int))=n-k:=by omega
   rw [e1,e2,ai,List.drop_zero,h4]
   have e3:Nat.min (List.replicate k aW).length (n-k)=min k (n-k):=by rw [cO]
   rw [e3]
   have e4:w64 ((k:Int)+((min k (n-k):Nat):Int))=((k+min k (n-k):Nat):Int):=by rw [A6 (by omega)];omega
   rw [e4]
   refine⟨⟨k+min k (n-k),rfl,?_,by omega,by omega,?_⟩,by dsimp only;omega⟩
   ·show (Iy s k (n-k) (List.replicate k aW)).length=n
    unfold Iy
    rw [aI,aI,aF,aF,bW,e3,cO]
    omega
   ·show (Iy s k (n-k) (List.replicate k aW)).take (k+min k (n-k))=_
    unfold Iy
    rw [e3,h4,List.take_replicate,ce (Nat.min_le_left k (n-k)),←aX,List.replicate_append_replicate]
    rw [bZ (by simp),List.take_replicate];simp
  ·simp only [dx] at hq
   have e:k=n:=by omega
   rw [e] at h4
   dsimp only
   rw [←h4,bN (by omega)]
theorem Wm {b:Aa} (h:Ar b) {q:Ab} (hq:Aq b q) {t:Int} (ht:0<=t/\t<=2147483648) {a:Ak} (hk:1<=a.Kind/\a.Kind<=9) (hn:F62 b a=some true) {w:A0} (hd:Oq ⟨b,q,t⟩ a=some (0,w)):Gw b q t a=(w.Ao,0):=by
 have key:F27 b q t a=some (w.Ao,0):=by
  refine cZ ?_
  unfold F27
  rw [Cm h hq,hn,D8 h hq]
  simp only [ab]
  refine c4 (λ hc=>by simp at hc) (λ _=>c4 (λ hc=>?_) (λ _=>c4 (λ hc=>by simp at hc) (λ _=>?_)))
  ·simp [Ado] at hc;omega
  ·rw [hd]
   exact c5 rfl
 unfold Gw
 rw [key];rfl
theorem Ay1 {b:Aa} (h:Ar b) {q:Ab} (hq:Aq b q) {t:Int} (ht:0<=t/\t<=2147483648) {k:Nat} (hk:k<b.Ad.length) (hc:q.Ae.getD k false=true) (hb:brk q.Ah 2 (k:Int)=false):Gw b q t ⟨2,(k:Int),0⟩=(⟨q.Ae.set k false,q.Ac,q.Al,q.Ah⟩,0):=by
 have hn:=hq.ncl
 have hbl:q.Ah.length<=1000:=by have:=hq.brk.len;omega
 have hkn:F62 b ⟨2,(k:Int),0⟩=some (G8 b 2 (k:Int)):=rfl
 have hp:G8 b 2 (k:Int)=true:=(H2 b 2 (k:Int)).2 ⟨by dsimp only;omega,by dsimp only;omega⟩
 refine Wm h hq ht (by dsimp only;omega) (by rw [hkn,hp]) (w:=⟨b,_,t⟩) ?_
 have ho:Vq b q (k:Int)=some (⟨q.Ae.set k false,q.Ac,q.Al,q.Ah⟩,0):=by
  refine cZ ?_
  unfold Vq
  rw [Cm h hq,D8 h hq]
  simp only [ab]
  refine c4 (λ hc=>by simp at hc) (λ _=>c4 (λ hr=>?_) (λ _=>?_))
  ·simp [Ah6] at hr;omega
  rw [A8 (Gz hq hk),C3 hbl,hb]
  simp only [ab]
  rw [hc,T_]
  simp only [ab]
  refine c4 (λ hc=>by simp at hc) (λ _=>?_)
  refine (cU (l:=q.Ae) (n:=(k:Int)) (by omega) (by omega)).bind λ z hz=>c5 ?_
  rw [hz,ai]
 show (Vq b q (k:Int)).bind _=_
 rw [ho];rfl
theorem Ay0 {b:Aa} (h:Ar b) {q:Ab} (hq:Aq b q) {t:Int} (ht:0<=t/\t<=2147483648):Gw b q t ⟨7,0,0⟩=(wtS b q t,0):=by
 refine Wm h hq ht (by dsimp only;omega) rfl (w:=⟨b,wtS b q t,t⟩) ?_
 show (Kb ⟨b,q,t⟩).bind _=_
 rw [Ald h hq];rfl
theorem Auw {b:Aa} (h:Ar b) {q:Ab} (hq:Aq b q) {t:Int} (ht:0<=t/\t<=2147483648) {i:Nat} (hi:i<b.Ac.length) (hs:(q.Ac.getD i default).State=0) (hb:brk q.Ah 1 (i:Int)=false) :
  Gw b q t ⟨3,(i:Int),0⟩=(⟨q.Ae,q.Ac.set i ⟨if (b.Ac.getD i default).Start=0/\Jb b q.Ae i=true then 2 else 1,t,5000,0⟩,q.Al,q.Ah⟩,0):=by
 have hn:=hq.nso
 have hbl:q.Ah.length<=1000:=by have:=hq.brk.len;omega
 have hkn:F62 b ⟨3,(i:Int),0⟩=some (G8 b 1 (i:Int)):=rfl
 have hp:G8 b 1 (i:Int)=true:=(H2 b 1 (i:Int)).2 ⟨by dsimp only;omega,by dsimp only;omega⟩
 refine Wm h hq ht (by dsimp only;omega) (by rw [hkn,hp]) (w:=⟨b,_,t⟩) ?_
 have ho:Ly ⟨b,q,t⟩ (i:Int)=some (0,⟨b,⟨q.Ae,q.Ac.set i ⟨if (b.Ac.getD i default).Start=0/\Jb b q.Ae i=true then 2 else 1,t,5000,0⟩,q.Al,q.Ah⟩,t⟩):=by
  refine cZ ?_
  unfold Ly
  have g1:getI q.Ac (i:Int)=some (q.Ac.getD i default):=A6q (by omega)
  have g2:getI b.Ac (i:Int)=some (b.Ac.getD i default):=A8 (Xw hi)
  have g3:=Al2 h (p:=q) hq.ncl t hi
  dsimp only
  rw [g1,C3 hbl,hb,g2,g3]
  simp only [ab,hs]
  rw [T_]
  simp only [ab]
  refine c4 (λ hc=>by simp at hc) (λ _=>?_)
  rw [Hk]
  simp only [ab]
  have eb:((((b.Ac.getD i default).Start==0)&&bif ((b.Ac.getD i default).Start==0) then Jb b q.Ae i else default)=true)↔((b.Ac.getD i default).Start=0/\Jb b q.Ae i=true):=by
   cases hst:((b.Ac.getD i default).Start==0) with
   | true=>simp at hst;simp [hst]
   | false=>simp at hst;simp [hst]
  refine c4 (λ hc=>?_) (λ hc=>?_)
  ·rw [if_pos (eb.1 hc)]
   exact (cU (l:=q.Ac) (n:=(i:Int)) (by omega) (by omega)).bind λ z hz=>c5 (by rw [hz,ai])
  ·rw [if_neg (λ hh=>by rw [eb.2 hh] at hc;cases hc)]
   exact (cU (l:=q.Ac) (n:=(i:Int)) (by omega) (by omega)).bind λ z hz=>c5 (by rw [hz,ai])
 show (Ly ⟨b,q,t⟩ (i:Int)).bind _=_
 rw [ho];rfl
theorem Xg {b:Aa} (h:Ar b) {q:Ab} (hq:Aq b q) {n:Nat} (hn:n<b.Am.toNat) (hd:A2 b q n=false):L9 b q (n:Int)=some (0,false):=by
 have e2:(isl b q (Bh b q n)).Ac=[]:=by
  unfold A2 at hd
  rw [dx] at hd
  have hd:¬((isl b q (Bh b q n)).Ac.length:Int)>0:=hd
  cases hl:(isl b q (Bh b q n)).Ac with
  | nil=>rfl
  | cons y l=>rw [hl] at hd;exact absurd (by simp only [aS];omega) hd
 unfold L9
 rw [Azk h hq hn]
 simp only [ab,e2]
 rfl
theorem Aky {b:Aa} (h:Ar b) {q:Ab} (hq:Aq b q) {n:Nat} (hn:n<b.Am.toNat) (hd:A2 b q n=true):∃ s:Nat,L9 b q (n:Int)=some ((s:Int),true)/\s<b.Ac.length:=by
 obtain⟨k,hk,hs⟩:=(I_ h hn).1 hd
 obtain⟨s,e,_,hs⟩:=Atb h hq hn (Hg.2 ⟨k,rfl,hk,(Tk h hn).2 hs⟩)
 exact⟨s,e,hs⟩
def Aqt (b:Aa) (q:Ab) (x:Ag):Prop:=x.Kind=3\/(x.Kind=2/\A2 b q x.A.toNat=false)\/(x.Kind=1/\(A2 b q x.A.toNat=false\/A2 b q x.B.toNat=false))
theorem Aqw {b:Aa} (h:Ar b) {q:Ab} (hq:Aq b q) {k:Nat} {x:Ag} (hx:b.Ad[k]? = some x) (ha:Aqt b q x):Y7 b q x=some true:=by
 obtain⟨hA,hB⟩:=Db h hx
 have hn:=hq.nso
 have eA:x.A=((x.A.toNat:Nat):Int):=by omega
 refine cZ ?_
 unfold Y7
 cases hl:A2 b q x.A.toNat with
 | false=>
  rw [eA,Xg h hq (by omega) hl]
  exact c5 rfl
 | true=>
  obtain⟨s,e,hs⟩:=Aky h hq (by omega) hl
  rw [←eA] at e
  rw [e]
  simp only [ab]
  refine c4 (λ hc=>by simp at hc) (λ _=>?_)
  rcases ha with hk | ⟨hk,hd⟩ | ⟨hk,hd⟩
  ·rw [hk];exact c5 rfl
  ·rw [hl] at hd;cases hd
  ·have hd:=hd.resolve_left (by rw [hl];simp)
   have hB:=hB hk
   have eB:x.B=((x.B.toNat:Nat):Int):=by omega
   have e2:=Xg h hq (n:=x.B.toNat) (by omega) hd
   rw [←eB] at e2
   rw [hk,e2]
   exact c5 rfl
theorem A2g {b:Aa} (h:Ar b) {q:Ab} (hq:Aq b q) {k:Nat} {x:Ag} (hx:b.Ad[k]? = some x) (hs:Dw b q (k:Int)=true) (ha:Aqt b q x):Zb b q (k:Int)=some 0:=by
 have hlt:=(aa.1 hx).1
 refine cZ ?_
 unfold Zb
 rw [Cm h hq]
 simp only [ab]
 refine c4 (λ hc=>by simp at hc) (λ _=>c4 (λ hr=>?_) (λ _=>?_))
 ·simp [Ah3] at hr;omega
 rw [Aq5 h hq (by omega) (by omega),hs]
 simp only [ab]
 refine c4 (λ hc=>by simp at hc) (λ _=>?_)
 rw [A8 hx]
 simp only [ab]
 refine (A3l h hq x.A).bind λ z hz=>?_
 refine Ok.bind (P:=λ _=>True) (d5 (λ _=>dg (Eu _ _ hz)) λ _=>trivial) λ y12 _=>?_
 rw [Aqw h hq hx ha,Hk]
 simp only [ab]
 refine c4 (λ hc=>?_) (λ _=>c5 rfl)
 exfalso
 revert hc
 cases (!((x.Kind==1)&&y12)) <;> simp
theorem Aux {b:Aa} (h:Ar b) {q:Ab} (hq:Aq b q) {t:Int} (ht:0<=t/\t<=2147483648) {k:Nat} {x:Ag} (hx:b.Ad[k]? = some x) (hs:Dw b q (k:Int)=true) (ha:Aqt b q x):Gw b q t ⟨1,(k:Int),0⟩=(A7 b q k,0):=by
 have hlt:=(aa.1 hx).1
 have hn:=hq.ncl
 have hkn:F62 b ⟨1,(k:Int),0⟩=some (G8 b 2 (k:Int)):=rfl
 have hp:G8 b 2 (k:Int)=true:=(H2 b 2 (k:Int)).2 ⟨by dsimp only;omega,by dsimp only;omega⟩
 refine Wm h hq ht (by dsimp only;omega) (by rw [hkn,hp]) (w:=⟨b,_,t⟩) ?_
 have ho:Vr b q (k:Int)=some (A7 b q k,0):=by
  refine cZ ?_
  unfold Vr
  rw [A2g h hq hx hs ha,D8 h hq]
  simp only [ab]
  refine c4 (λ hc=>by simp at hc) (λ _=>?_)
  refine (cS (l:=q.Ae) (n:=(k:Int)) (by omega) (by omega)).bind λ _ _=>(cU (l:=q.Ae) (n:=(k:Int)) (by omega) (by omega)).bind λ z hz=>?_
  have hq2:=qK hq hx (Aar (j:=(k:Int)) (by rw [ai];exact hx) hs)
  rw [hz,ai,Uf h hq2]
  exact c5 rfl
 show (Vr b q (k:Int)).bind _=_
 rw [ho];rfl
def Fq (b:Aa):Ab->Int->List Ak->Ab->Int->Prop
 | q,t,[],r,u=>q=r/\t=u
 | q,t,a::l,r,u=>∃ s,Gw b q t a=(s,0)/\Aq b s/\Ws b q s/\(∀ n,n<b.Am.toNat->Bu b s n=0)/\Fq b s (if a.Kind=7 then t+1 else t) l r u
theorem Fq.app {b:Aa}:∀ {l m:List Ak} {q r s:Ab} {t u v:Int},Fq b q t l r u->Fq b r u m s v->Fq b q t (l++m) s v
 | [],_,_,_,_,_,_,_,h,k=>by obtain⟨rfl,rfl⟩:=h;exact k
 | _::_,_,_,_,_,_,_,_,h,k=>by
  obtain⟨w,h1,h2,h3,h4,h5⟩:=h
  exact⟨w,h1,h2,h3,h4,h5.app k⟩
theorem Fq.one {b:Aa} {q s:Ab} {t:Int} {a:Ak} (ha:a.Kind≠7) (h1:Gw b q t a=(s,0)) (h2:Aq b s) (h3:Ws b q s) (h4:∀ n,n<b.Am.toNat->Bu b s n=0):Fq b q t [a] s t:=⟨s,h1,h2,h3,h4,rfl,by rw [if_neg ha]⟩
theorem du {b:Aa} {q s:Ab} {t:Int} {a:Ak} (ha:a.Kind=7) (h1:Gw b q t a=(s,0)) (h2:Aq b s) (h3:Ws b q s) (h4:∀ n,n<b.Am.toNat->Bu b s n=0):Fq b q t [a] s (t+1):=⟨s,h1,h2,h3,h4,rfl,by rw [if_pos ha]⟩
theorem zH {b:Aa} (h:Ar b) {q:Ab} (hq:Aq b q) (ha:Ef b q) {t:Int} {a:Ak} (hk:a.Kind≠7) {s:Ab} (he:Gw b q t a=(s,0)):Ws b q s:=by
 have he2:yW b q t a=0:=by unfold yW;rw [if_neg hk,he]
 have:=A49 h hq ha he2
 unfold Anu at this
 rw [he] at this
 exact this
structure Lw (b:Aa) (p:Ab):Prop where
 st:Aq b p
 safe:∀ (k:Nat) x,b.Ad[k]? = some x->p.Ae.getD k false=true->Bz p x=false
 con:∀ (k:Nat) x,b.Ad[k]? = some x->p.Ae.getD k false=true->x.Kind=3->A2 b p x.A.toNat=true
 agr:Ef b p
 exc:∀ n,n<b.Am.toNat->Bu b p n=0
theorem Aoh {C D:List Bool} (hl:C.length=D.length) (h:∀ k:Nat,C.getD k false=true↔D.getD k false=true):C=D:=by
 refine List.ext_getElem hl λ k h1 h2=>?_
 have:=h k
 simp only [List.getD,af h1,af h2,bF] at this
 rwa [bf]
theorem Aq0 {b:Aa} (h:Ar b) {p:Ab} (hp:Aq b p) (e:p=Gn b p):Lw b p:=by
 obtain⟨u,_⟩:=vV h hp
 have hsafe:∀ (k:Nat) x,b.Ad[k]? = some x->p.Ae.getD k false=true->Bz p x=false:=λ k x hx hc=>Aw7 h hp hx (by rw [←e];exact hc)
 have h1:(B6 b p).Ae=p.Ae:=by
  refine Aoh (by rw [(P0 hp).ncl,hp.ncl]) λ k=>⟨λ hk=>zI b _ _ hp.ncl k hk,λ hk=>?_⟩
  have hkl:k<b.Ad.length:=by
   have:=Q4 (s:=p.Ae) hk
   have:=hp.ncl
   omega
  have hx:b.Ad[k]? = some (b.Ad.getD k default):=by
   rw [af hkl];simp [List.getD,List.getElem?_eq_getElem hkl]
  show (acC b p.Ae (Bz p)).getD k false=true
  rw [K0 b _ _ hkl,hk,hsafe k _ hx hk];rfl
 have hclr:B6 b p=p:=by
  show (⟨(B6 b p).Ae,p.Ac,p.Al,p.Ah⟩:Ab)=p
  rw [h1]
 refine⟨hp,hsafe,λ k x hx hc hk=>?_,by have:=As2 h hp;rwa [←e] at this,λ n hn=>by have:=A1q h hp hn;rwa [←e] at this⟩
 have h2:(Nn b p).Ae.getD k false=true:=u.mono k (by rw [←e];exact hc)
 have hkl:=(aa.1 hx).1
 have h2:(acC b (B6 b p).Ae (Co b (B6 b p))).getD k false=true:=h2
 rw [K0 b _ _ hkl,Cs hx,hclr] at h2
 simp only [ac,aC] at h2
 have h3:=h2.2
 unfold Co at h3
 rw [hk] at h3
 simpa using h3
theorem Afq {b:Aa} (h:Ar b) {p:Ab} (s:Lw b p) {i:Nat} (hi:i<b.Ac.length) (hc:p.Ae.getD (brN b i) false=true):(p.Ac.getD i default).State=2/\A2 b p (b.Ad.getD (brN b i) default).A.toNat=true:=by
 obtain⟨_,_,k2,kB,hg⟩:=E4 h hi
 have hA:=(Db h hg).1
 have hd:=s.safe _ _ hg hc
 unfold Bz at hd
 rw [if_neg (by omega),if_pos k2,kB,ai] at hd
 simp only [bv,dC] at hd
 refine⟨hd.2.2,(I_ h (by omega)).2 ⟨i,hi,_,?_,Bn.refl _ _⟩⟩
 rw [E8 h s.st hi,if_pos ⟨hd.2.2,hc⟩]
abbrev G2 (b:Aa) (w:Ab) (g:List Bool) (as:List Ak):=(b.Am,b.Ad,b.Ac,b.Af,b.Phase,b.Au,w.Ae,w.Ac,w.Al,w.Ah,g,as)
theorem Kl {b:Aa} (h:Ar b) {w:Ab} (hw:Aq b w) {g:List Bool} {as:List Ak} {n:Int} (hn:0<=n/\n<b.Am):Le ⟨b,w,g,as⟩ n=some (A2 b w n.toNat):=by
 have e:n=((n.toNat:Nat):Int):=by omega
 unfold Le
 have:=Wa h hw (n:=n.toNat) (by omega)
 rw [←e] at this
 dsimp only
 rw [this];rfl
theorem qX {b:Aa} {w:Ab} (hw:Aq b w) {g:List Bool} {as:List Ak} (ha:as.length<=100000) (kd:Int) {k:Nat} (hk:k<b.Ad.length):Ot ⟨b,w,g,as⟩ kd (k:Int)=some ⟨b,⟨w.Ae.set k (kd==1),w.Ac,w.Al,w.Ah⟩,g,as++[⟨kd,(k:Int),0⟩]⟩:=by
 have hn:=hw.ncl
 refine cZ ?_
 unfold Ot
 refine (cV (by simp;omega)).bind λ y hy=>(cS (by omega) (by dsimp only;omega)).bind λ _ _=>(cU (by omega) (by dsimp only;omega)).bind λ z hz=>c5 ?_
 rw [hy,hz,ai]
def Qt (b:Aa) (p:Ab) (k:Nat):Bool:=(((b.Ad.getD k default).Kind != 2) && !brk p.Ah 2 (k:Int)) && !A2 b p (b.Ad.getD k default).A.toNat
def Ct (b:Aa) (p:Ab) (n:Nat):List Int:=fl (λ k=>p.Ae.getD k false&&Qt b p k) n
theorem Kg {b:Aa} {p:Ab} {n:Nat} {x:Int}:x∈Ct b p n↔∃ k:Nat,x=(k:Int)/\k<n/\p.Ae.getD k false=true/\Qt b p k=true:=by
 unfold Ct fl
 rw [am]
 constructor
 ·rintro⟨k,hk,e⟩
  obtain⟨h1,h2⟩:=an.1 hk
  rw [ac] at h2
  exact⟨k,e.symm,aH.1 h1,h2.1,h2.2⟩
 ·rintro⟨k,e,h1,h2,h3⟩
  exact⟨k,an.2 ⟨aH.2 h1,by rw [h2,h3];rfl⟩,e.symm⟩
theorem Aq9 (b:Aa) (p:Ab) (n:Nat):(Ct b p n).Nodup:=by
 unfold Ct fl
 rw [bS,cL]
 exact ((bS.1 List.nodup_range).sublist cw).imp λ h e=>h (by omega)
structure Sep (b:Aa) (p:Ab) (l:List Int):Prop where
 st:Aq b (Ba p (Bk p.Ae l))
 goes:Fq b p 20 (Du l) (Ba p (Bk p.Ae l)) 20
 agr:Ef b (Ba p (Bk p.Ae l))
 exc:∀ n,n<b.Am.toNat->Bu b (Ba p (Bk p.Ae l)) n=0
 live:∀ n,n<b.Am.toNat->A2 b (Ba p (Bk p.Ae l)) n=A2 b p n
theorem Sep.nil {b:Aa} {p:Ab} (s:Lw b p):Sep b p []:=⟨s.st,⟨rfl,rfl⟩,s.agr,s.exc,λ _ _=>rfl⟩
theorem Q2 {C:List Bool} {l:List Int} (h0:∀ i,i∈l->0<=i) (k:Nat):(Bk C l).getD k false=true↔C.getD k false=true/\(k:Int)∉l:=by
 rw [Ll,ac,aC,bK]
 refine and_congr Iff.rfl ⟨λ hh hm=>hh _ hm (by simp),λ hh i hi e=>?_⟩
 rw [dy] at e
 have:=h0 i hi
 exact hh (by rw [←e,aK this];exact hi)
theorem Sep.step {b:Aa} (h:Ar b) {p:Ab} {l:List Int} (u:Sep b p l) (h0:∀ i,i∈l->0<=i) {k:Nat} (hk:k<b.Ad.length) (hc:p.Ae.getD k false=true) (hq:Qt b p k=true) (hn:(k:Int)∉l):Sep b p (l++[(k:Int)]):=by
 have hx:b.Ad[k]? = some (b.Ad.getD k default):=by
  rw [af hk];simp [List.getD,List.getElem?_eq_getElem hk]
 generalize b.Ad.getD k default=x at hx
 have hb:=(Db h hx).1
 unfold Qt at hq
 rw [Cs hx] at hq
 simp only [ac,aC,dE] at hq
 obtain⟨⟨q1,q2⟩,q3⟩:=hq
 have hcl:(Ba p (Bk p.Ae l)).Ae.getD k false=true:=(Q2 h0 k).2 ⟨hc,hn⟩
 have hd:A2 b (Ba p (Bk p.Ae l)) x.A.toNat=false:=by rw [u.live _ (by omega)];exact q3
 have hr:=jE u.st k
 have eq:Ba p (Bk p.Ae (l++[(k:Int)]))=⟨(Ba p (Bk p.Ae l)).Ae.set k false,(Ba p (Bk p.Ae l)).Ac,(Ba p (Bk p.Ae l)).Al,(Ba p (Bk p.Ae l)).Ah⟩:=by
  unfold Ba
  rw [Jt,ai]
 have hact:=Ay1 h u.st (t:=20) (by omega) hk hcl (by exact q2)
 have hsub:Sub b ⟨(Ba p (Bk p.Ae l)).Ae.set k false,(Ba p (Bk p.Ae l)).Ac,(Ba p (Bk p.Ae l)).Al,(Ba p (Bk p.Ae l)).Ah⟩ (Ba p (Bk p.Ae l)):=Aek (λ _=>rfl) λ j hj=>by
  by_cases e:j=k
  ·rw [e];exact hcl
  ·have hj:((Ba p (Bk p.Ae l)).Ae.set k false).getD j false=true:=hj
   rwa [F_ e] at hj
 have hlive:∀ n,n<b.Am.toNat->A2 b ⟨(Ba p (Bk p.Ae l)).Ae.set k false,(Ba p (Bk p.Ae l)).Ac,(Ba p (Bk p.Ae l)).Al,(Ba p (Bk p.Ae l)).Ah⟩ n=A2 b (Ba p (Bk p.Ae l)) n:=λ n hn2=>by
  cases hl:A2 b (Ba p (Bk p.Ae l)) n with
  | true=>rw [Dk.live h hn2 hn2 (Agl h u.st hx q1 hd hn2 hl).src,hl]
  | false=>
   cases hl2:A2 b ⟨(Ba p (Bk p.Ae l)).Ae.set k false,(Ba p (Bk p.Ae l)).Ac,(Ba p (Bk p.Ae l)).Al,(Ba p (Bk p.Ae l)).Ah⟩ n with
   | false=>rfl
   | true=>rw [Nd h u.st hr hsub hn2 hl2] at hl;cases hl
 have hexc:∀ n,n<b.Am.toNat->Bu b ⟨(Ba p (Bk p.Ae l)).Ae.set k false,(Ba p (Bk p.Ae l)).Ac,(Ba p (Bk p.Ae l)).Al,(Ba p (Bk p.Ae l)).Ah⟩ n=0:=λ n hn2=>by
  cases hl:A2 b (Ba p (Bk p.Ae l)) n with
  | true=>rw [((Agl h u.st hx q1 hd hn2 hl).load h hn2 hn2 rfl).2.2];exact u.exc n hn2
  | false=>exact Ayj h hn2 (by rw [hlive n hn2];exact hl)
 have ea:Du (l++[(k:Int)])=Du l++[⟨2,(k:Int),0⟩]:=by unfold Du;rw [bm];rfl
 refine⟨by rw [eq];exact hr,?_,?_,by rw [eq];exact hexc,λ n hn2=>by rw [eq,hlive n hn2];exact u.live n hn2⟩
 ·rw [ea,eq]
  exact u.goes.app (Fq.one (by dsimp only;omega) hact hr (zH h u.st u.agr (by dsimp only;omega) hact) hexc)
 ·rw [eq]
  exact Ux h hr u.st hsub u.agr λ _ _ _ _ _ hl=>hl
theorem Akt {b:Aa} (h:Ar b) {p:Ab} (s:Lw b p) (g:List Bool):Ww ⟨b,p,g,[]⟩=some ⟨b,Ba p (Bk p.Ae (Ct b p b.Ad.length)),g,Du (Ct b p b.Ad.length)⟩/\Sep b p (Ct b p b.Ad.length):=by
 have hbb:=h.brl
 have hp:=s.st
 have hncl:=hp.ncl
 have hbl:p.Ah.length<=1000:=by have:=hp.brk.len;omega
 have hlen:∀ n,(Ct b p n).length<=n:=λ n=>De _ n
 have h0:∀ n i,i∈Ct b p n->0<=i:=λ n i hi=>by
  obtain⟨k,rfl,_⟩:=Kg.1 hi
  omega
 have key : Ok (Ww ⟨b, p, g, []⟩) λ y => y = ⟨b, Ba p (Bk p.Ae (Ct b p b.Ad.length)), g, Du (Ct b p b.Ad.length)⟩ /\ Sep b p (Ct b p b.Ad.length) := by
  unfold Ww
  refine Ok.andThen (A:=λ l=>l=Ct b p b.Ad.length) (B:=λ (_:Unit)=>False) ?_ (λ l hl=>?_) (λ _ h=>h.elim)
  ·refine c7 (I:=λ j s=>s=Ct b p j) rfl (λ j x r hx hI=>?_) λ r hr=>hr
   have hx:b.Ad[j]? = some x:=hx
   have hj:=(aa.1 hx).1
   have hb:=(Db h hx).1
   have hjl:=hlen j
   subst hI
   unfold Y6
   dsimp only
   rw [Cw (by omega),A8 (Gz hp hj),C3 hbl,Kl h hp hb]
   rw [Hk]
   simp only [ab]
   rw [Hk]
   simp only [ab]
   rw [Hk]
   simp only [ab]
   have hsu:Ct b p (j+1)=Ct b p j++if (p.Ae.getD j false&&Qt b p j)=true then [(j:Int)] else []:=by
    unfold Ct fl;rw [Ea]
   have hcond:zG x (bif x.Kind != 2 then p.Ae.getD j false else default) (bif (x.Kind != 2)&&(bif x.Kind != 2 then p.Ae.getD j false else default) then brk p.Ah 2 (j:Int) else default) (bif ((x.Kind != 2)&&(bif x.Kind != 2 then p.Ae.getD j false else default)) && !(bif (x.Kind != 2)&&(bif x.Kind != 2 then p.Ae.getD j false else default) then brk p.Ah 2 (j:Int) else default) then A2 b p x.A.toNat else default)=(p.Ae.getD j false&&Qt b p j):=by
    unfold zG Qt
    rw [Cs hx]
    cases x.Kind != 2 <;> cases p.Ae.getD j false <;> cases brk p.Ah 2 (j:Int) <;> rfl
   rw [hcond,hsu]
   refine c4 (λ hc=>?_) (λ hc=>c6 ?_)
   ·refine (cV (by simp only [aS,bI];omega)).bind λ y hy=>c6 ?_
    rw [hy,if_pos hc]
   ·rw [if_neg (by rw [hc];simp),aG]
  ·subst hl
   have hll:=hlen b.Ad.length
   refine Ok.andThen (A:=λ z=>z=G2 b (Ba p (Bk p.Ae (Ct b p b.Ad.length))) g (Du (Ct b p b.Ad.length))/\Sep b p (Ct b p b.Ad.length)) (B:=λ (_:Unit)=>False) ?_ (λ z hz=>?_) (λ _ h=>h.elim)
   ·refine c7 (I:=λ j z=>z=G2 b (Ba p (Bk p.Ae ((Ct b p b.Ad.length).take j))) g (Du ((Ct b p b.Ad.length).take j))/\Sep b p ((Ct b p b.Ad.length).take j)) ⟨rfl,Sep.nil s⟩ (λ j x z hx hI=>?_) λ z hI=>?_
    ·obtain⟨rfl,hS⟩:=hI
     have hj:=(aa.1 hx).1
     obtain⟨k,rfl,hk,hc,hq⟩:=Kg.1 (ae hx)
     have hnd:(k:Int)∉(Ct b p b.Ad.length).take j:=λ hm=>by
      have hn:=Aq9 b p b.Ad.length
      rw [bS,bT] at hn
      obtain⟨m,hm1,hm2⟩:=bP hm
      rw [aF] at hm1
      rw [List.getElem_take] at hm2
      refine hn m j (by omega) hj (by omega) ?_
      rw [hm2,(aa.1 hx).2]
     have hS2:=hS.step h (λ i hi=>h0 _ i (aT hi)) hk hc hq hnd
     unfold Y5
     have ha:=qX hS.st (g:=g) (as:=Du ((Ct b p b.Ad.length).take j)) (by unfold Du;rw [ax,aF];omega) 2 hk
     refine Ok.bind (P:=λ v=>v=_) (c8 ha rfl) λ v hv=>c6 ?_
     subst hv
     rw [Bg hx]
     refine⟨?_,hS2⟩
     have e1:Du ((Ct b p b.Ad.length).take j++[(k:Int)])=Du ((Ct b p b.Ad.length).take j)++[⟨2,(k:Int),0⟩]:=by unfold Du;rw [bm];rfl
     have e2:Bk p.Ae ((Ct b p b.Ad.length).take j++[(k:Int)])=(Bk p.Ae ((Ct b p b.Ad.length).take j)).set k false:=by rw [Jt,ai]
     unfold G2
     rw [e1,e2];rfl
    ·rw [ay] at hI;exact hI
   ·obtain⟨rfl,hS⟩:=hz
    exact c5 ⟨rfl,hS⟩
 obtain⟨r,e,h1,h2⟩:=key
 rw [h1] at e
 exact⟨e,h2⟩
theorem A0z {b:Aa} (h:Ar b) {p:Ab} (s:Lw b p) (hst:∀ (k:Nat) x,b.Ad[k]? = some x->x.Kind=1->p.Ae.getD k false=true->brk p.Ah 2 (k:Int)=true->A2 b p x.A.toNat=true) (u:Sep b p (Ct b p b.Ad.length)):Iq b (Ba p (Bk p.Ae (Ct b p b.Ad.length))):=λ k x hx hc=>by
 have hb:=(Db h hx).1
 have hbr:=h.br x (ae hx)
 unfold Jd at hbr
 have hk:=(aa.1 hx).1
 obtain⟨h1,h2⟩:=(Q2 (λ i hi=>by obtain⟨k,rfl,_⟩:=Kg.1 hi;omega) k).1 hc
 rw [u.live _ (by omega)]
 by_cases k2:x.Kind=2
 ·obtain⟨i,ei⟩:∃ i:Nat,x.B=(i:Int):=⟨x.B.toNat,by omega⟩
  have hi:i<b.Ac.length:=by omega
  have ek:=Yj h hi hx k2 ei
  have:=(Afq h s hi (by rw [←ek];exact h1)).2
  rwa [←ek,Cs hx] at this
 by_cases k3:x.Kind=3
 ·exact s.con k x hx h1 k3
 cases hl:A2 b p x.A.toNat with
 | true=>rfl
 | false=>
  cases hbk:brk p.Ah 2 (k:Int) with
  | true=>rw [hst k x hx (by omega) h1 hbk] at hl;cases hl
  | false=>
   exfalso
   refine h2 (Kg.2 ⟨k,rfl,hk,h1,?_⟩)
   unfold Qt
   rw [Cs hx,hbk,hl]
   simp [k2]
def Cz (b:Aa) (i:Nat):Nat:=(b.Ad.getD (brN b i) default).A.toNat
theorem Im {b:Aa} (h:Ar b) {i:Nat} (hi:i<b.Ac.length):Cz b i<b.Am.toNat/\(b.Ad.getD (brN b i) default).A=(Cz b i:Int):=by
 obtain⟨_,_,_,_,hg⟩:=E4 h hi
 have:=(Db h hg).1
 unfold Cz
 omega
theorem Aw0 {b:Aa} (h:Ar b) {q:Ab} (hq:Aq b q) {S:List Ai} (hr:Aq b ⟨q.Ae,S,q.Al,q.Ah⟩) (hs:∀ k,k<b.Ac.length->q.Ae.getD (brN b k) false=true->S.getD k default=q.Ac.getD k default) :
  (∀ n,Dk b q n ⟨q.Ae,S,q.Al,q.Ah⟩ n)/\(Ef b q->Ef b ⟨q.Ae,S,q.Al,q.Ah⟩):=by
 have hal:=Kz h hq hr rfl λ k hk hc=>by
  show (S.getD k default).State=2↔_
  rw [hs k hk hc]
 refine⟨hal,λ ha=>(On h).2 λ i j hi hj t=>?_⟩
 obtain⟨a,c,h1,h2,h3⟩:=t
 have cl:∀ {m:Nat} {v:Int},m<b.Ac.length->Cy b ⟨q.Ae,S,q.Al,q.Ah⟩ (m:Int)=some v->q.Ae.getD (brN b m) false=true/\Cy b q (m:Int)=some v:=fun {m v} hm e=>by
  have e2:=e
  rw [E8 h hr hm] at e
  split at e
  ·rename_i hh
   refine⟨hh.2,?_⟩
   rw [Nm h hq hr hm rfl (λ hc=>by
    show (S.getD m default).State=2↔_
    rw [hs m hm hc])] at e2
   exact e2
  ·cases e
 obtain⟨c1,e1⟩:=cl hi h1
 obtain⟨c2,e2⟩:=cl hj h2
 have:=(On h).1 ha i j hi hj ⟨a,c,e1,e2,h3⟩
 show B3 (S.getD i default) (S.getD j default)
 rw [hs i hi c1,hs j hj c2]
 exact this
def two (x:Ai):Ai:=⟨2,x.Since,x.Au,x.Phase⟩
def Dh (b:Aa) (p w:Ab) (i:Nat):Bool:=Bi b p (i:Int) && !A2 b w (Cz b i)
structure Beg (b:Aa) (p w:Ab) (pre:List Ak) (j:Nat) (wt:Int) (S Q:List Ai) (as:List Ak):Prop where
 sw:Aq b ⟨w.Ae,S,w.Al,w.Ah⟩
 sq:Aq b ⟨w.Ae,Q,w.Al,w.Ah⟩
 agr:Ef b ⟨w.Ae,Q,w.Al,w.Ah⟩
 exc:∀ n,n<b.Am.toNat->Bu b ⟨w.Ae,Q,w.Al,w.Ah⟩ n=0
 goes:Fq b p 20 as ⟨w.Ae,Q,w.Al,w.Ah⟩ 20
 len:as.length<=pre.length+j
 k3:∀ a,a∈as->a.Kind≠1
 wt0:0<=wt/\wt<=600
 wtM:∀ M,0<=M->(∀ x,x∈b.Ac->x.Start<=M)->wt<=M+1
 atS:∀ i,S.getD i default=if i<j/\Dh b p w i=true then two (p.Ac.getD i default) else p.Ac.getD i default
 atQ:∀ i,Q.getD i default=if i<j/\Dh b p w i=true/\(p.Ac.getD i default).State=0 then ⟨if (b.Ac.getD i default).Start=0 then 2 else 1,20,5000,0⟩ else p.Ac.getD i default
 at0:∀ i,i<j->Dh b p w i=true->(p.Ac.getD i default).State=0->(b.Ac.getD i default).Start<=wt
 at1:∀ i,i<j->Dh b p w i=true->(p.Ac.getD i default).State=1->(b.Ac.getD i default).Start<=wt/\1<=wt
structure H8 (b:Aa) (p w:Ab) (pre:List Ak):Prop where
 st:Lw b p
 sw:Aq b w
 src:w.Ac=p.Ac
 li:w.Al=p.Al
 br:w.Ah=p.Ah
 fewer:∀ k:Nat,w.Ae.getD k false=true->p.Ae.getD k false=true
 live:∀ n,n<b.Am.toNat->A2 b w n=A2 b p n
 all:Iq b w
 agr:Ef b w
 exc:∀ n,n<b.Am.toNat->Bu b w n=0
 goes:Fq b p 20 pre w 20
 k2:∀ a,a∈pre->a.Kind≠1
theorem H8.run {b:Aa} (h:Ar b) {p w:Ab} {pre:List Ak} (o:H8 b p w pre) {i:Nat} (hi:i<b.Ac.length) (hc:w.Ae.getD (brN b i) false=true):(p.Ac.getD i default).State=2/\Dh b p w i=false:=by
 obtain⟨h1,h2⟩:=Afq h o.st hi (o.fewer _ hc)
 refine⟨h1,?_⟩
 have e:A2 b w (Cz b i)=true:=by rw [o.live _ (Im h hi).1];exact h2
 unfold Dh
 rw [e];simp
theorem H8.nil {b:Aa} {p w:Ab} {pre:List Ak} (o:H8 b p w pre):Beg b p w pre 0 0 p.Ac p.Ac pre:=by
 have e:(⟨w.Ae,p.Ac,w.Al,w.Ah⟩:Ab)=w:=by rw [←o.src]
 exact⟨by rw [e];exact o.sw,by rw [e];exact o.sw,by rw [e];exact o.agr,by rw [e];exact o.exc,by rw [e];exact o.goes,by omega,o.k2,by omega,λ M _ _=>by omega,λ i=>by rw [if_neg (λ hh=>by omega)],λ i=>by rw [if_neg (λ hh=>by omega)],λ i hi=>by omega,λ i hi=>by omega⟩
theorem W8 {b:Aa} {p q:Ab} (hb:q.Ah=p.Ah) {i:Nat} (hs:(q.Ac.getD i default).State=3↔(p.Ac.getD i default).State=3):Bi b q (i:Int)=Bi b p (i:Int):=by
 unfold Bi
 rw [hb,ai]
 congr 1
 rw [bf,dE,dE]
 exact not_congr hs
theorem Jq {b:Aa} {p:Ab} {i:Int} (h:Bi b p i=true):brk p.Ah 1 i=false/\B0 b p.Ah (Ft b i)=true/\(p.Ac.getD i.toNat default).State≠3:=by
 unfold Bi at h
 simp only [ac,aC,dE] at h
 exact⟨h.1.2,h.1.1,h.2⟩
theorem Ue {S:List Ai} {j i:Nat} {y:Ai} (hj:j<S.length):(S.set j y).getD i default=if i=j then y else S.getD i default:=by
 rw [Nj]
 by_cases e:j=i
 ·rw [if_pos ⟨e,hj⟩,if_pos e.symm]
 ·rw [if_neg (λ hh=>e hh.1),if_neg (λ hh=>e hh.symm)]
theorem Beg.step {b:Aa} (h:Ar b) {p w:Ab} {pre:List Ak} (o:H8 b p w pre) {j:Nat} (hj:j<b.Ac.length) {wt:Int} {S Q:List Ai} {as:List Ak} (u:Beg b p w pre j wt S Q as) :
  (Dh b p w j=false->Beg b p w pre (j+1) wt S Q as) /\
  (Dh b p w j=true->(p.Ac.getD j default).State=0->Beg b p w pre (j+1) (max wt (b.Ac.getD j default).Start) (S.set j (two (p.Ac.getD j default))) (Q.set j ⟨if (b.Ac.getD j default).Start=0 then 2 else 1,20,5000,0⟩) (as++[⟨3,(j:Int),0⟩])) /\
  (Dh b p w j=true->(p.Ac.getD j default).State=1->Beg b p w pre (j+1) (max (max wt (b.Ac.getD j default).Start) 1) (S.set j (two (p.Ac.getD j default))) Q as) /\
  (Dh b p w j=true->(p.Ac.getD j default).State=2->Beg b p w pre (j+1) wt (S.set j (two (p.Ac.getD j default))) Q as):=by
 have hp:=o.st.st
 have hSl:S.length=b.Ac.length:=u.sw.nso
 have hQl:Q.length=b.Ac.length:=u.sq.nso
 have hxj:=Xw hj
 have hso:=h.so _ (ae hxj)
 have hst:=hso.2.2
 have hrun:=Aw2 hp hj
 have two_run:C9 (two (p.Ac.getD j default)):=⟨by dsimp only [two];omega,hrun.2.1,hrun.2.2.1,hrun.2.2.2⟩
 have sw2:Aq b ⟨w.Ae,S.set j (two (p.Ac.getD j default)),w.Al,w.Ah⟩:=Ia u.sw (by rw [be]) (Je u.sw.run two_run)
 have hS2:Dh b p w j=true->∀ i,(S.set j (two (p.Ac.getD j default))).getD i default=if i<j+1/\Dh b p w i=true then two (p.Ac.getD i default) else p.Ac.getD i default:=λ hh i=>by
  rw [Ue (by omega),u.atS]
  by_cases e:i=j
  ·subst e
   rw [if_pos rfl,if_pos ⟨by omega,hh⟩]
  ·rw [if_neg e]
   have:(i<j+1)=(i<j):=by rw [eq_iff_iff];omega
   simp only [this]
 have hQ2:¬(Dh b p w j=true/\(p.Ac.getD j default).State=0)->∀ i,Q.getD i default=if i<j+1/\Dh b p w i=true/\(p.Ac.getD i default).State=0 then ⟨if (b.Ac.getD i default).Start=0 then 2 else 1,20,5000,0⟩ else p.Ac.getD i default:=λ hh i=>by
  rw [u.atQ]
  by_cases e:i=j
  ·subst e
   rw [if_neg (λ hx=>by omega),if_neg (λ hx=>hh hx.2)]
  ·have:(i<j+1)=(i<j):=by rw [eq_iff_iff];omega
   simp only [this]
 refine⟨λ hh=>?_,λ hh h0=>?_,λ hh h1=>?_,λ hh h2=>?_⟩
 ·refine⟨u.sw,u.sq,u.agr,u.exc,u.goes,by have:=u.len;omega,u.k3,u.wt0,u.wtM,λ i=>?_,hQ2 (by rw [hh];simp),λ i hi hb=>?_,λ i hi hb=>?_⟩
  ·rw [u.atS]
   by_cases e:i=j
   ·subst e
    rw [if_neg (λ hx=>by omega),if_neg (λ hx=>by rw [hh] at hx;cases hx.2)]
   ·have:(i<j+1)=(i<j):=by rw [eq_iff_iff];omega
    simp only [this]
  ·by_cases e:i=j
   ·subst e;rw [hh] at hb;cases hb
   ·exact u.at0 i (by omega) hb
  ·by_cases e:i=j
   ·subst e;rw [hh] at hb;cases hb
   ·exact u.at1 i (by omega) hb
 ·have hopen:w.Ae.getD (brN b j) false=false:=by
   cases hc:w.Ae.getD (brN b j) false with
   | false=>rfl
   | true=>rw [(o.run h hj hc).2] at hh;cases hh
  have hop:Jb b w.Ae j=true:=by
   unfold Jb
   have:(Ft b (j:Int)).toNat=brN b j:=rfl
   rw [this,hopen];rfl
  have hus:Bi b p (j:Int)=true:=by
   unfold Dh at hh
   rw [ac] at hh;exact hh.1
  have hb1:=(Jq hus).1
  have hQj:Q.getD j default=p.Ac.getD j default:=by rw [u.atQ,if_neg (λ hx=>by omega)]
  have hact:=Auw h u.sq (t:=20) (by omega) hj (by show (Q.getD j default).State=0;rw [hQj];exact h0) (by show brk w.Ah 1 _=false;rw [o.br];exact hb1)
  have ecnd:((b.Ac.getD j default).Start=0/\Jb b w.Ae j=true)=((b.Ac.getD j default).Start=0):=by rw [eq_iff_iff];exact⟨λ hx=>hx.1,λ hx=>⟨hx,hop⟩⟩
  dsimp only at hact
  simp only [ecnd] at hact
  have new_run:C9 ⟨if (b.Ac.getD j default).Start=0 then 2 else 1,20,5000,0⟩:=⟨by dsimp only;split <;> omega,by dsimp only;omega,by dsimp only;omega,by dsimp only;omega⟩
  have hr:Aq b ⟨w.Ae,Q.set j ⟨if (b.Ac.getD j default).Start=0 then 2 else 1,20,5000,0⟩,w.Al,w.Ah⟩:=Ia u.sq (by rw [be]) (Je u.sq.run new_run)
  obtain⟨r1,r2⟩:=Aw0 h u.sq hr λ k hk hc=>by
   have:k≠j:=λ e=>by
    subst e
    have hc:w.Ae.getD (brN b k) false=true:=hc
    rw [hopen] at hc;cases hc
   show (Q.set j _).getD k default=Q.getD k default
   rw [Ue (by omega),if_neg this]
  have hexc:∀ n,n<b.Am.toNat->Bu b ⟨w.Ae,Q.set j ⟨if (b.Ac.getD j default).Start=0 then 2 else 1,20,5000,0⟩,w.Al,w.Ah⟩ n=0:=λ n hn=>by
   rw [((r1 n).load h hn hn rfl).2.2];exact u.exc n hn
  refine⟨sw2,hr,r2 u.agr,hexc,u.goes.app (Fq.one (by dsimp only;omega) hact hr (zH h u.sq u.agr (by dsimp only;omega) hact) hexc),by have:=u.len;simp;omega,λ a ha=>(aq.1 ha).elim (u.k3 a) λ ha=>by rw [aP.1 ha];dsimp only;omega,by have:=u.wt0;omega,λ M hM hx=>?_,hS2 hh,λ i=>?_,λ i hi hb hi0=>?_,λ i hi hb hi1=>?_⟩
  ·have g1:=u.wtM M hM hx
   have g2:=hx _ (ae hxj)
   omega
  ·rw [Ue (by omega),u.atQ]
   by_cases e:i=j
   ·subst e
    rw [if_pos (rfl:i=i),if_pos (show i<i+1/\Dh b p w i=true/\(p.Ac.getD i default).State=0 from⟨by omega,hh,h0⟩)]
   ·rw [if_neg e]
    have:(i<j+1)=(i<j):=by rw [eq_iff_iff];omega
    simp only [this]
  ·by_cases e:i=j
   ·subst e;omega
   ·have:=u.at0 i (by omega) hb hi0;omega
  ·by_cases e:i=j
   ·subst e;omega
   ·have:=u.at1 i (by omega) hb hi1;omega
 ·refine⟨sw2,u.sq,u.agr,u.exc,u.goes,by have:=u.len;omega,u.k3,by have:=u.wt0;omega,λ M hM hx=>?_,hS2 hh,hQ2 (λ hx=>by omega),λ i hi hb hi0=>?_,λ i hi hb hi1=>?_⟩
  ·have g1:=u.wtM M hM hx
   have g2:=hx _ (ae hxj)
   omega
  ·by_cases e:i=j
   ·subst e;omega
   ·have:=u.at0 i (by omega) hb hi0;omega
  ·by_cases e:i=j
   ·subst e;omega
   ·have:=u.at1 i (by omega) hb hi1;omega
 ·refine⟨sw2,u.sq,u.agr,u.exc,u.goes,by have:=u.len;omega,u.k3,u.wt0,u.wtM,hS2 hh,hQ2 (λ hx=>by omega),λ i hi hb hi0=>?_,λ i hi hb hi1=>?_⟩
  ·by_cases e:i=j
   ·subst e;omega
   ·exact u.at0 i (by omega) hb hi0
  ·by_cases e:i=j
   ·subst e;omega
   ·exact u.at1 i (by omega) hb hi1
structure Wtd (b:Aa) (p w:Ab) (wt:Int) (as0:List Ak) (m:Nat) (Q:List Ai):Prop where
 sq:Aq b ⟨w.Ae,Q,w.Al,w.Ah⟩
 agr:Ef b ⟨w.Ae,Q,w.Al,w.Ah⟩
 exc:∀ n,n<b.Am.toNat->Bu b ⟨w.Ae,Q,w.Al,w.Ah⟩ n=0
 goes:Fq b p 20 (as0++List.replicate m aW) ⟨w.Ae,Q,w.Al,w.Ah⟩ (20+m)
 rdy:∀ i,i<b.Ac.length->Dh b p w i=true->(Q.getD i default).State=2\/((Q.getD i default).State=1/\(0<=(Q.getD i default).Since/\(Q.getD i default).Since<=20)/\(b.Ac.getD i default).Start<=wt/\(m:Int)<wt)
 run:∀ i,i<b.Ac.length->w.Ae.getD (brN b i) false=true->(Q.getD i default).State=2
 s3:∀ i,i<b.Ac.length->((Q.getD i default).State=3↔(p.Ac.getD i default).State=3)
theorem Wtd.zero {b:Aa} (h:Ar b) {p w:Ab} {pre:List Ak} (o:H8 b p w pre) (hsi:∀ x,x∈p.Ac->x.Since<=20) {wt:Int} {S Q:List Ai} {as:List Ak} (u:Beg b p w pre b.Ac.length wt S Q as):Wtd b p w wt as 0 Q:=by
 have hp:=o.st.st
 have hn:=hp.nso
 refine⟨u.sq,u.agr,u.exc,by rw [List.replicate_zero,aG];exact u.goes,λ i hi hh=>?_,λ i hi hc=>?_,λ i hi=>?_⟩
 ·have hrun:=Aw2 hp hi
  have hus:Bi b p (i:Int)=true:=by
   unfold Dh at hh
   rw [ac] at hh;exact hh.1
  have h3:=(Jq hus).2.2
  rw [ai] at h3
  have hst:=(h.so _ (ae (Xw hi))).2.2
  rw [u.atQ]
  by_cases h0:(p.Ac.getD i default).State=0
  ·rw [if_pos ⟨hi,hh,h0⟩]
   have:=u.at0 i hi hh h0
   by_cases hs:(b.Ac.getD i default).Start=0
   ·left;dsimp only;rw [if_pos hs]
   ·right;dsimp only;rw [if_neg hs];omega
  ·rw [if_neg (λ hx=>h0 hx.2.2)]
   by_cases h1:(p.Ac.getD i default).State=1
   ·right
    have:=u.at1 i hi hh h1
    have hmem:p.Ac.getD i default∈p.Ac:=by
     rw [aZ,af (by omega)]
     exact cF _
    have:=hsi _ hmem
    have:=hrun.2.1
    omega
   ·left
    have:=hrun.1
    omega
 ·obtain⟨h1,h2⟩:=o.run h hi hc
  rw [u.atQ,if_neg (λ hx=>by rw [h2] at hx;cases hx.2.1)]
  exact h1
 ·rw [u.atQ]
  split
  ·rename_i hx
   dsimp only
   have:=hx.2.2
   split <;> omega
  ·exact Iff.rfl
theorem Wtd.step {b:Aa} (h:Ar b) {p w:Ab} {pre:List Ak} (o:H8 b p w pre) {wt:Int} (hwt:wt<=600) {as:List Ak} {m:Nat} (hm:(m:Int)<wt) {Q:List Ai} (u:Wtd b p w wt as m Q):∃ R,Wtd b p w wt as (m+1) R:=by
 have hQl:Q.length=b.Ac.length:=u.sq.nso
 have hact:=Ay0 h u.sq (t:=20+(m:Int)) (by omega)
 have hwa:=(Aei h u.sq (T:=20+(m:Int)) (by omega)).2.1
 rw [A17 h u.sq (by omega)] at hwa
 have hat:∀ i,i<b.Ac.length->(wtS b ⟨w.Ae,Q,w.Al,w.Ah⟩ (20+(m:Int))).Ac.getD i default=Ez b w.Ae (20+(m:Int)) (C5 (Q.getD i default)) i:=λ i hi=>Zg _ (by show i<Q.length;omega)
 have hrise:∀ i (x:Ai),(Ez b w.Ae (20+(m:Int)) x i).Since=x.Since/\((Ez b w.Ae (20+(m:Int)) x i).State=x.State\/(x.State=1/\(Ez b w.Ae (20+(m:Int)) x i).State=2)):=λ i x=>by
  unfold Ez
  split
  ·rename_i hx
   exact⟨rfl,.inr ⟨hx.1.1,rfl⟩⟩
  ·exact⟨rfl,.inl rfl⟩
 have hts:∀ x:Ai,(C5 x).Since=x.Since:=λ x=>by unfold C5;split <;> rfl
 have hrun:∀ i,i<b.Ac.length->w.Ae.getD (brN b i) false=true->((wtS b ⟨w.Ae,Q,w.Al,w.Ah⟩ (20+(m:Int))).Ac.getD i default).State=2:=λ i hi hc=>by
  rw [hat i hi]
  have h2:=u.run i hi hc
  rcases (hrise i (C5 (Q.getD i default))).2 with e | ⟨e,_⟩
  ·rw [e,F0];exact h2
  ·rw [F0] at e;omega
 have hal:=Kz h u.sq hwa rfl λ k hk hc=>⟨λ _=>u.run k hk hc,λ _=>hrun k hk hc⟩
 have hexc:∀ n,n<b.Am.toNat->Bu b (wtS b ⟨w.Ae,Q,w.Al,w.Ah⟩ (20+(m:Int))) n=0:=λ n hn=>by
  rw [((hal n).load h hn hn rfl).2.2];exact u.exc n hn
 refine⟨(wtS b ⟨w.Ae,Q,w.Al,w.Ah⟩ (20+(m:Int))).Ac,hwa,Am8 h u.sq u.agr hwa,hexc,?_,λ i hi hh=>?_,hrun,λ i hi=>?_⟩
 ·rw [List.replicate_succ',←aX]
  have e:(20:Int)+((m+1:Nat):Int)=20+(m:Int)+1:=by omega
  rw [e]
  exact u.goes.app (du rfl hact hwa ((Mb u.sq _).sub.nobad h hwa u.sq) hexc)
 ·rw [hat i hi]
  have hso:=(h.so _ (ae (Xw hi))).2.2
  obtain⟨r1,r2⟩:=hrise i (C5 (Q.getD i default))
  rw [hts] at r1
  rw [F0] at r2
  rcases u.rdy i hi hh with e | ⟨e1,⟨e2,e3⟩,e4,e5⟩
  ·left
   rcases r2 with r2 | ⟨r2,_⟩
   ·rw [r2];exact e
   ·omega
  ·have hopen:w.Ae.getD (brN b i) false=false:=by
    cases hc:w.Ae.getD (brN b i) false with
    | false=>rfl
    | true=>rw [(o.run h hi hc).2] at hh;cases hh
   have hop:Jb b w.Ae i=true:=by
    unfold Jb
    have:(Ft b (i:Int)).toNat=brN b i:=rfl
    rw [this,hopen];rfl
   by_cases hlast:(m:Int)+1<wt
   ·rcases r2 with r2 | ⟨_,r2⟩
    ·right
     rw [r2,r1]
     exact⟨e1,⟨e2,e3⟩,e4,by omega⟩
    ·exact .inl r2
   ·left
    unfold Ez
    rw [if_pos]
    refine⟨⟨by rw [F0];exact e1,hop⟩,?_⟩
    rw [hts,A6 (by omega),A6 (by omega)]
    omega
 ·rw [hat i hi]
  have h3:=u.s3 i hi
  rcases (hrise i (C5 (Q.getD i default))).2 with e | ⟨e,e2⟩
  ·rw [e,F0];exact h3
  ·rw [F0] at e
   rw [e2]
   constructor
   ·intro hx;omega
   ·intro hx;have:=h3.2 hx;omega
theorem Wtd.all {b:Aa} (h:Ar b) {p w:Ab} {pre:List Ak} (o:H8 b p w pre) {wt:Int} (hwt:wt<=600) {as:List Ak} {Q:List Ai} (u:Wtd b p w wt as 0 Q):∀ m:Nat,(m:Int)<=wt->∃ R,Wtd b p w wt as m R
 | 0,_=>⟨Q,u⟩
 | m+1,hm=>by
  obtain⟨R,hR⟩:=Wtd.all h o hwt u m (by omega)
  exact hR.step h o hwt (by omega)
theorem yQ {α:Type} (x:Option α) (d:α):Az [((!true:Bool),false)] x d=x:=rfl
theorem As1 {b:Aa} (h:Ar b) {p w:Ab} {pre:List Ak} (o:H8 b p w pre) (hpre:pre.length<=100) (g:List Bool):Ok (uP ⟨b,w,g,pre⟩) λ y=>∃ (wt:Int) (S Q:List Ai) (as:List Ak),y=⟨b,⟨w.Ae,S,w.Al,w.Ah⟩,g,as++List.replicate wt.toNat aW⟩/\Beg b p w pre b.Ac.length wt S Q as:=by
 have hso:=h.sol
 have hwl:w.Ac.length=b.Ac.length:=o.sw.nso
 have hbb:=h.brl
 have hbl:w.Ah.length<=1000:=by have:=o.sw.brk.len;omega
 unfold uP
 refine Ok.andThen (A:=λ z=>∃ Q,Beg b p w pre b.Ac.length z.1 z.2.1 Q z.2.2) (B:=λ (_:Unit)=>False) ?_ (λ z hz=>?_) (λ _ h=>h.elim)
 ·refine c7 (I:=λ j z=>∃ Q,Beg b p w pre j z.1 z.2.1 Q z.2.2) ⟨p.Ac,?_⟩ (λ j x z hx hI=>?_) λ z hI=>?_
  ·dsimp only;rw [o.src];exact o.nil
  ·have hx:w.Ac[j]? = some x:=hx
   have hj:j<b.Ac.length:=by have:=(aa.1 hx).1;omega
   obtain⟨Q,u⟩:=hI
   obtain⟨wt,S,as⟩:=z
   dsimp only at u
   obtain⟨st0,st1,st2,st3⟩:=u.step h o hj
   have hSl:S.length=b.Ac.length:=u.sw.nso
   have hal:=u.len
   have hSj:S.getD j default=p.Ac.getD j default:=by rw [u.atS,if_neg (λ hx=>by omega)]
   have hg:getI S (j:Int)=some (p.Ac.getD j default):=by
    rw [←hSj]
    exact A8 (by rw [af (by omega)];simp [List.getD,List.getElem?_eq_getElem (show j<S.length by omega)])
   have hus:Bi b ⟨w.Ae,S,w.Al,w.Ah⟩ (j:Int)=Bi b p (j:Int):=W8 (q:=⟨w.Ae,S,w.Al,w.Ah⟩) (p:=p) (i:=j) o.br (by show (S.getD j default).State=3↔_;rw [hSj])
   have hue:=Sz h (p:=⟨w.Ae,S,w.Al,w.Ah⟩) hSl hbl (i:=(j:Int)) (by omega) (by omega)
   rw [hus] at hue
   unfold Y4
   dsimp only
   rw [Cw (by omega),hg,hue]
   simp only [ab]
   cases hu:Bi b p (j:Int) with
   | false=>
    have hhb:Dh b p w j=false:=by unfold Dh;rw [hu];rfl
    refine Ok.bind (P:=λ _=>True) (d5 (λ hh=>absurd hh.1 (by simp)) λ _=>trivial) λ _ _=>?_
    refine Ok.bind (P:=λ _=>True) (d5 (λ hh=>absurd hh.1 (by simp)) λ _=>trivial) λ _ _=>?_
    refine Ok.bind (P:=λ _=>True) (d5 (λ hh=>absurd hh.1 (by simp)) λ _=>trivial) λ _ _=>?_
    exact c6 ⟨Q,st0 hhb⟩
   | true=>
    obtain⟨eb,_,_,_,hgb⟩:=E4 h hj
    obtain⟨hb1,hb2⟩:=Im h hj
    have hlv:A2 b ⟨w.Ae,S,w.Al,w.Ah⟩ (Cz b j)=A2 b w (Cz b j):=Dk.live h hb1 hb1 (Kz h o.sw u.sw rfl (λ k hk hc=>by
     obtain⟨r1,r2⟩:=o.run h hk hc
     show (S.getD k default).State=2↔_
     rw [u.atS,if_neg (λ hx=>by rw [r2] at hx;cases hx.2),o.src]) _).src
    have hpl:=Kl h u.sw (g:=g) (as:=as) (n:=(Cz b j:Int)) (by omega)
    rw [ai,hlv,←hb2] at hpl
    refine Ok.bind (P:=λ v=>v=(brN b j:Int)) (c8 (x:=(brN b j:Int)) (by rw [yQ,Io h,eb]) rfl) λ v hv=>?_
    subst hv
    refine Ok.bind (P:=λ v=>v=b.Ad.getD (brN b j) default) (c8 (x:=b.Ad.getD (brN b j) default) (by rw [yQ];exact A8 hgb) rfl) λ v hv=>?_
    subst hv
    refine Ok.bind (P:=λ v=>v=A2 b w (Cz b j)) (c8 (x:=A2 b w (Cz b j)) (by rw [yQ];exact hpl) rfl) λ v hv=>?_
    subst hv
    refine c4 (λ hc=>?_) (λ hc=>?_)
    ·have hhb:Dh b p w j=false:=by unfold Dh;simp at hc;rw [hc];simp
     exact c6 ⟨Q,st0 hhb⟩
    have hhb:Dh b p w j=true:=by unfold Dh;simp at hc;rw [hu,hc];rfl
    have hrun:=Aw2 o.st.st hj
    have h3:=(Jq hu).2.2
    rw [ai] at h3
    refine c4 (λ h0=>?_) (λ h0=>c4 (λ h1=>?_) (λ h1=>?_))
    ·simp only [dy] at h0
     refine (cV (by simp only [aS,bI];omega)).bind λ y hy=>?_
     refine Ok.bind (P:=λ v=>v=b.Ac.getD j default) (c8 (A8 (Xw hj)) rfl) λ v hv=>?_
     subst hv
     refine (cU (by omega) (by omega)).bind λ v hv=>c6 ⟨Q.set j ⟨if (b.Ac.getD j default).Start=0 then 2 else 1,20,5000,0⟩,?_⟩
     rw [hy,hv,ai]
     exact st1 hhb h0
    ·simp only [dy] at h1
     refine Ok.bind (P:=λ v=>v=b.Ac.getD j default) (c8 (A8 (Xw hj)) rfl) λ v hv=>?_
     subst hv
     refine (cU (by omega) (by omega)).bind λ v hv=>c6 ⟨Q,?_⟩
     rw [hv,ai]
     exact st2 hhb h1
    ·simp only [dz] at h0 h1
     refine (cU (by omega) (by omega)).bind λ v hv=>c6 ⟨Q,?_⟩
     rw [hv,ai]
     exact st3 hhb (by have:=hrun.1;omega)
  ·rw [show (⟨b,w,g,pre⟩:Ay).Ao.Ac.length=b.Ac.length from hwl] at hI
   exact hI
 ·obtain⟨Q,u⟩:=hz
  obtain⟨wt,S,as⟩:=z
  dsimp only at u ⊢
  have hw0:=u.wt0
  have hal:=u.len
  have hr:=A03 (n:=wt.toNat) (by omega)
  rw [aK hw0.1] at hr
  refine Ok.bind (P:=λ v=>v=List.replicate wt.toNat aW) (c8 hr rfl) λ v hv=>?_
  subst hv
  refine (cV (by rw [cO];omega)).bind λ y hy=>c5 ⟨wt,S,Q,as,by rw [hy],u⟩
def Azl (l:List As) (x:Ag):Prop:=brk l 3 x.A=false/\(x.Kind=1->brk l 3 x.B=false)/\(x.Kind=2->brk l 1 x.B=false)/\(x.Kind=3->brk l 4 x.B=false)
structure Mid (b:Aa) (p w q:Ab) (t:Int) (as:List Ak):Prop where
 hw:Aq b w
 hq:Aq b q
 cl:q.Ae=w.Ae
 li:q.Al=w.Al
 bw:w.Ah=p.Ah
 bq:q.Ah=p.Ah
 agr:Ef b q
 exc:∀ n,n<b.Am.toNat->Bu b q n=0
 all:Iq b q
 goes:Fq b p 20 as q t
 tim:20<=t/\t<=1000
 safe:∀ (k:Nat) x,b.Ad[k]? = some x->q.Ae.getD k false=true->Azl p.Ah x
 run:∀ i,i<b.Ac.length->q.Ae.getD (brN b i) false=true->(w.Ac.getD i default).State=2/\(q.Ac.getD i default).State=2
 rdy:∀ i,i<b.Ac.length->Bi b p (i:Int)=true->A2 b q (Cz b i)=false->(w.Ac.getD i default).State=2/\(q.Ac.getD i default).State=2
 uw:∀ i,i<b.Ac.length->((w.Ac.getD i default).State=3↔(p.Ac.getD i default).State=3)
 uq:∀ i,i<b.Ac.length->((q.Ac.getD i default).State=3↔(p.Ac.getD i default).State=3)
theorem A4t {p:Ab} {x:Ag} (hk:x.Kind=1\/x.Kind=2\/x.Kind=3) (hd:Bz p x=false):Azl p.Ah x:=by
 unfold Bz at hd
 rw [bv] at hd
 refine⟨hd.1,λ e=>?_,λ e=>?_,λ e=>?_⟩
 ·have:=hd.2;rw [if_pos e] at this;exact this
 ·have:=hd.2;rw [if_neg (by omega),if_pos e,bv] at this;exact this.1
 ·have:=hd.2;rw [if_neg (by omega),if_neg (by omega)] at this;exact this
theorem kinds {b:Aa} (h:Ar b) {k:Nat} {x:Ag} (hx:b.Ad[k]? = some x):(x.Kind=1\/x.Kind=2\/x.Kind=3)/\(x.Kind=2->0<=x.B/\x.B<b.Ac.length)/\(x.Kind=3->0<=x.B/\x.B<b.Af.length):=by
 have:=h.br x (ae hx)
 unfold Jd at this
 exact⟨by omega,λ e=>by omega,λ e=>by omega⟩
theorem As7 {b:Aa} (h:Ar b) {p w:Ab} {pre:List Ak} (o:H8 b p w pre) {wt:Int} {S Q R:List Ai} {as:List Ak} (u:Beg b p w pre b.Ac.length wt S Q as) (r:Wtd b p w wt as wt.toNat R):Mid b p ⟨w.Ae,S,w.Al,w.Ah⟩ ⟨w.Ae,R,w.Al,w.Ah⟩ (20+wt) (as++List.replicate wt.toNat aW):=by
 have hw0:=u.wt0
 have hal:=Kz h o.sw r.sq rfl λ k hk hc=>by
  show (R.getD k default).State=2↔_
  rw [o.src]
  exact⟨λ _=>(o.run h hk hc).1,λ _=>r.run k hk hc⟩
 have hlive:∀ n,n<b.Am.toNat->A2 b ⟨w.Ae,R,w.Al,w.Ah⟩ n=A2 b w n:=λ n hn=>Dk.live h hn hn (hal n).src
 refine⟨u.sw,r.sq,rfl,rfl,o.br,o.br,r.agr,r.exc,λ k x hx hc=>?_,?_,by omega,λ k x hx hc=>A4t (kinds h hx).1 (o.st.safe k x hx (o.fewer k hc)),λ i hi hc=>⟨?_,r.run i hi hc⟩,λ i hi hu hd=>?_,λ i hi=>?_,r.s3⟩
 ·have hb:=(Db h hx).1
  rw [hlive _ (by omega)]
  exact o.all k x hx hc
 ·have:=r.goes
  rwa [aK hw0.1] at this
 ·obtain⟨r1,r2⟩:=o.run h hi hc
  show (S.getD i default).State=2
  rw [u.atS,if_neg (λ hx=>by rw [r2] at hx;cases hx.2)]
  exact r1
 ·have hh:Dh b p w i=true:=by
   unfold Dh
   rw [hu,←hlive _ (Im h hi).1,hd];rfl
  refine⟨?_,?_⟩
  ·show (S.getD i default).State=2
   rw [u.atS,if_pos ⟨hi,hh⟩];rfl
  ·rcases r.rdy i hi hh with e | ⟨_,_,_,e⟩
   ·exact e
   ·omega
 ·show (S.getD i default).State=3↔_
  rw [u.atS]
  split
  ·rename_i hx
   have hus:Bi b p (i:Int)=true:=by
    have:=hx.2
    unfold Dh at this
    rw [ac] at this;exact this.1
   have h3:=(Jq hus).2.2
   rw [ai] at h3
   constructor
   ·intro e;exact absurd (show (2:Int)=3 from e) (by decide)
   ·intro e;exact absurd e h3
  ·exact Iff.rfl
theorem Mid.live {b:Aa} (h:Ar b) {p w q:Ab} {t:Int} {as:List Ak} (u:Mid b p w q t as) {n:Nat} (hn:n<b.Am.toNat):A2 b w n=A2 b q n:=
 Dk.live h hn hn (Kz h u.hq u.hw u.cl.symm (λ k hk hc=>⟨λ _=>(u.run k hk hc).2,λ _=>(u.run k hk hc).1⟩) n).src
theorem Mid.load {b:Aa} (h:Ar b) {p w q:Ab} {t:Int} {as:List Ak} (u:Mid b p w q t as) {n:Nat} (hn:n<b.Am.toNat):Bm b w n=Bm b q n/\Cg b w n=Cg b q n:=by
 have:=(Kz h u.hq u.hw u.cl.symm (λ k hk hc=>⟨λ _=>(u.run k hk hc).2,λ _=>(u.run k hk hc).1⟩) n).load h hn hn u.li.symm
 exact⟨this.1,this.2.1⟩
def Gc (w:Ab) (k:Nat):Ab:=⟨w.Ae.set k true,w.Ac,w.Al,w.Ah⟩
theorem Mid.close {b:Aa} (h:Ar b) {p w q:Ab} {t:Int} {as:List Ak} (u:Mid b p w q t as) {k:Nat} {x:Ag} (hx:b.Ad[k]? = some x) (hs:Dw b q (k:Int)=true) (ha:Aqt b q x) (hS:x.Kind=2->(w.Ac.getD x.B.toNat default).State=2)
  (he:∀ n,n<b.Am.toNat->Bu b (A7 b q k) n=0) (hl:A2 b (A7 b q k) x.A.toNat=true):Mid b p (Gc w k) (A7 b q k) t (as++[⟨1,(k:Int),0⟩]):=by
 have hled:x.Kind=3->By b q 3 x.B=none:=λ e=>Aar (j:=(k:Int)) (by rw [ai];exact hx) hs e
 have hr:=J8 u.hq hx hled
 have hw2:Aq b (Gc w k):=qK u.hw hx λ e=>by
  have:=hled e
  unfold By at this ⊢
  rwa [u.cl] at this
 have hact:=Aux h u.hq (t:=t) (by have:=u.tim;omega) hx hs ha
 have hsub:=I1 (b:=b) u.hq hx
 have hk2:=kinds h hx
 refine⟨hw2,hr,?_,u.li,u.bw,u.bq,Pv h (p:=⟨q.Ae.set k true,q.Ac,q.Al,q.Ah⟩) u.hq.nso,he,Ao4 h u.hq hx hr u.all hl,u.goes.app (Fq.one (by dsimp only;omega) hact hr (zH h u.hq u.agr (by dsimp only;omega) hact) he),u.tim,λ j y hy hc=>?_,λ i hi hc=>?_,λ i hi hu hd=>?_,λ i hi=>u.uw i hi,λ i hi=>?_⟩
 ·show q.Ae.set k true=w.Ae.set k true
  rw [u.cl]
 ·rcases (Cf u.hq hx j).1 hc with e | e
  ·subst e
   rw [hx] at hy;cases hy
   have hs2:=hs
   unfold Dw at hs2
   rw [ai,Cs hx,u.bq] at hs2
   simp only [ac,aC] at hs2
   obtain⟨⟨⟨_,s2⟩,s3⟩,s4⟩:=hs2
   refine⟨s3,λ e=>?_,λ e=>?_,λ e=>?_⟩
   ·rw [if_pos e] at s4;simpa using s4
   ·rw [if_neg (by omega),if_pos e] at s4
    simp only [ac,aC] at s4
    exact s4.1
   ·rw [if_neg (by omega),if_neg (by omega)] at s4
    simp only [ac,aC] at s4
    exact s4.1
  ·exact u.safe j y hy e
 ·rw [E3]
  rcases (Cf u.hq hx (brN b i)).1 hc with e | e
  ·obtain⟨_,_,k2,kB,hg⟩:=E4 h hi
   rw [e,Cs hx] at k2 kB
   have hok:=(Aq4 hx hs).2.2.2 k2
   have hSw:=hS k2
   rw [kB,ai] at hok hSw
   exact⟨hSw,hok.2⟩
  ·exact u.run i hi e
 ·rw [E3]
  refine u.rdy i hi hu ?_
  cases hl2:A2 b q (Cz b i) with
  | false=>rfl
  | true=>rw [Nd h hr u.hq hsub (Im h hi).1 hl2] at hd;cases hd
 ·rw [E3];exact u.uq i hi
theorem Mid.mono {b:Aa} (h:Ar b) {q:Ab} (hq:Aq b q) {k:Nat} {x:Ag} (hx:b.Ad[k]? = some x) (hr:Aq b (A7 b q k)) {n:Nat} (hn:n<b.Am.toNat) (hl:A2 b q n=true):A2 b (A7 b q k) n=true:=Nd h hr hq (I1 hq hx) hn hl
theorem Adl:∀ (C:List Bool) (k:Nat),k<C.length->C.getD k false=false->cl (C.set k true)=cl C+1
 | [],k,h,_=>by simp at h
 | c::C,0,_,h=>by
  have h:c=false:=h
  subst h
  simp [cl]
 | c::C,k+1,h,h2=>by
  have:=Adl C k (by simpa using h) h2
  unfold cl at this ⊢
  simp only [List.set_cons_succ,List.count_cons]
  omega
structure Prg (b:Aa) (p:Ab) (t:Int) (q0:Ab) (as0:List Ak) (w q:Ab) (as:List Ak):Prop where
 mid:Mid b p w q t as
 len:as.length+cl q0.Ae=as0.length+cl q.Ae
 mono:∀ n,n<b.Am.toNat->A2 b q0 n=true->A2 b q n=true
 more:∀ k:Nat,q0.Ae.getD k false=true->q.Ae.getD k false=true
 nc:∀ a,a∈as->a∈as0\/(a.Kind=1/\∀ x,b.Ad[a.Unit.toNat]? = some x->x.Kind≠3)
theorem Prg.refl {b:Aa} {p w q:Ab} {t:Int} {as:List Ak} (u:Mid b p w q t as):Prg b p t q as w q as:=⟨u,rfl,λ _ _ h=>h,λ _ h=>h,λ _ h=>.inl h⟩
theorem Prg.close {b:Aa} (h:Ar b) {p w q q0:Ab} {t:Int} {as as0:List Ak} (u:Prg b p t q0 as0 w q as) {k:Nat} {x:Ag} (hx:b.Ad[k]? = some x) (h3:x.Kind≠3) (hs:Dw b q (k:Int)=true) (m:Mid b p (Gc w k) (A7 b q k) t (as++[⟨1,(k:Int),0⟩])):Prg b p t q0 as0 (Gc w k) (A7 b q k) (as++[⟨1,(k:Int),0⟩]):=by
 have hk:=(aa.1 hx).1
 have hn:=u.mid.hq.ncl
 have hc:q.Ae.getD k false=false:=by
  unfold Dw at hs
  simp only [ac,aC,ai] at hs
  exact hs.1.1.1
 refine⟨m,?_,λ n hn2 hl=>Mid.mono h u.mid.hq hx m.hq hn2 (u.mono n hn2 hl),λ j hj=>(Cf u.mid.hq hx j).2 (.inr (u.more j hj)),λ a ha=>?_⟩
 ·have e:cl (A7 b q k).Ae=cl q.Ae+1:=Adl _ _ (by omega) hc
  have:=u.len
  rw [e,aI,List.length_singleton];omega
 ·rcases aq.1 ha with ha | ha
  ·exact u.nc a ha
  ·rw [aP.1 ha]
   refine .inr ⟨rfl,λ y hy=>?_⟩
   dsimp only at hy
   rw [ai,hx] at hy
   cases hy;exact h3
theorem Prg.clen {b:Aa} {p w q q0:Ab} {t:Int} {as as0:List Ak} (u:Prg b p t q0 as0 w q as):as.length<=as0.length+b.Ad.length:=by
 have h1:=u.len
 have h2:=Adm q.Ae
 have h3:=u.mid.hq.ncl
 omega
theorem A5k {b:Aa} {p w q:Ab} {t:Int} {as:List Ak} (u:Mid b p w q t as) {i:Nat} (hi:i<b.Ac.length):Bi b w (i:Int)=Bi b p (i:Int):=W8 (q:=w) (p:=p) u.bw (u.uw i hi)
theorem A0u {b:Aa} (h:Ar b) {p w q:Ab} {t:Int} {as:List Ak} (u:Mid b p w q t as) {i:Nat} (hi:i<b.Ac.length) (hu:Bi b p (i:Int)=true) (hd:A2 b q (Cz b i)=false):Mid b p (Gc w (brN b i)) (A7 b q (brN b i)) t (as++[⟨1,(brN b i:Int),0⟩])/\Dw b q (brN b i:Int)=true/\A2 b (A7 b q (brN b i)) (Cz b i)=true:=by
 obtain⟨eb,_,k2,kB,hg⟩:=E4 h hi
 obtain⟨hb1,hb2⟩:=Im h hi
 obtain⟨u1,u2,_⟩:=Jq hu
 obtain⟨r1,r2⟩:=u.rdy i hi hu hd
 have hc:q.Ae.getD (brN b i) false=false:=by
  cases hc:q.Ae.getD (brN b i) false with
  | false=>rfl
  | true=>
   have:=(I_ h hb1).2 ⟨i,hi,_,by rw [E8 h u.hq hi,if_pos ⟨r2,hc⟩],Bn.refl _ _⟩
   rw [hd] at this;cases this
 unfold B0 at u2
 rw [eb,ai] at u2
 simp only [ac,aC] at u2
 have hs:Dw b q (brN b i:Int)=true:=by
  unfold Dw
  rw [ai,hc,u.bq,u2.1.1,u2.1.2,if_neg (by omega),if_pos k2,kB,u1,ai,r2]
  rfl
 have hst:(q.Ac.getD (b.Ad.getD (brN b i) default).B.toNat default).State=2:=by rw [kB,ai];exact r2
 obtain⟨c1,c2⟩:=A4w h u.hq u.all hg k2 hst hd u.exc
 exact⟨u.close h hg hs (.inr (.inl ⟨k2,hd⟩)) (λ _=>by rw [kB,ai];exact r1) c1 c2,hs,c2⟩
theorem Aop {b : Aa} (h : Ar b) {p w0 q0 : Ab} {t : Int} {as0 : List Ak} (u0 : Mid b p w0 q0 t as0) (h0 : as0.length <= 1000) (g : List Bool) : Ok (uO ⟨b, w0, g, as0⟩) λ y => ∃ (w q : Ab) (as : List Ak), y = ⟨b, w, g, as⟩ /\ Prg b p t q0 as0 w q as /\ ∀ i, i < b.Ac.length -> Bi b p (i : Int) = true -> A2 b q (Cz b i) = true := by
 have hso:=h.sol
 have hbb:=h.brl
 have hbu:=h.buses
 unfold uO
 refine Ok.andThen (A:=λ z=>∃ (w q:Ab) (as:List Ak),z.2=G2 b w g as/\Prg b p t q0 as0 w q as/\∀ i,i<b.Ac.length->Bi b p (i:Int)=true->A2 b q (Cz b i)=true) (B:=λ (_:Unit)=>False) ?_ (λ z hz=>?_) (λ _ h=>h.elim)
 ·refine c9 (λ z=>(0<=z.1/\z.1<=b.Am)/\∃ (w q:Ab) (as:List Ak),z.2=G2 b w g as/\Prg b p t q0 as0 w q as/\∀ i,i<b.Ac.length->Bi b p (i:Int)=true->(Cz b i:Int)<z.1->A2 b q (Cz b i)=true) (λ z=>(b.Am-z.1).toNat) _ _ ⟨⟨by dsimp only;omega,by dsimp only;omega⟩,w0,q0,as0,rfl,Prg.refl u0,λ i _ _ hi=>by dsimp only at hi;omega⟩ (by dsimp only;omega) ?_
  rintro⟨n,z⟩ ⟨⟨n0,n1⟩,w,q,as,hz,u,hl⟩
  dsimp only at n0 n1 hz hl
  subst hz
  unfold Y3
  dsimp only
  refine c4 (λ hq=>?_) (λ hq=>cW ⟨w,q,as,rfl,u,λ i hi hu=>hl i hi hu ?_⟩)
  ·simp only [dw] at hq
   refine Ok.inner (A:=λ z=>∃ (w q:Ab) (as:List Ak),z.2=G2 b w g as/\Prg b p t q0 as0 w q as/\∀ i,i<b.Ac.length->Bi b p (i:Int)=true->(Cz b i:Int)<n+1->A2 b q (Cz b i)=true) (B:=λ (_:Unit)=>False) ?_ (λ z hz=>?_) (λ _ h=>h.elim)
   ·refine c9 (λ z=>(0<=z.1/\z.1<=(b.Ac.length:Int))/\∃ (w q:Ab) (as:List Ak),z.2=G2 b w g as/\Prg b p t q0 as0 w q as/\∀ i,i<b.Ac.length->Bi b p (i:Int)=true->((Cz b i:Int)<n\/((Cz b i:Int)=n/\(i:Int)<z.1))->A2 b q (Cz b i)=true) (λ z=>((b.Ac.length:Int)-z.1).toNat) _ _ ⟨⟨by dsimp only;omega,by dsimp only;omega⟩,w,q,as,rfl,u,λ i hi hu hh=>hl i hi hu (by dsimp only at hh;omega)⟩ (by dsimp only;omega) ?_
    rintro⟨i,z⟩ ⟨⟨i0,i1⟩,w,q,as,hz,u,hl⟩
    dsimp only at i0 i1 hz hl
    subst hz
    obtain⟨i,rfl⟩:∃ k:Nat,i=(k:Int):=⟨i.toNat,by omega⟩
    have hal:=u.clen
    unfold Y2 Amh
    dsimp only
    refine c4 (λ hq2=>?_) (λ hq2=>cW ⟨w,q,as,rfl,u,λ j hj hu hb=>hl j hj hu ?_⟩)
    ·simp only [dw] at hq2
     have hi:i<b.Ac.length:=by omega
     obtain⟨eb,_,_,_,hgb⟩:=E4 h hi
     obtain⟨hb1,hb2⟩:=Im h hi
     have hwl:w.Ac.length=b.Ac.length:=u.mid.hw.nso
     have hbl:w.Ah.length<=1000:=by have:=u.mid.hw.brk.len;omega
     have hue:=Sz h (p:=w) hwl hbl (i:=(i:Int)) (by omega) (by omega)
     rw [A5k u.mid hi] at hue
     have hpl:=Kl h u.mid.hw (g:=g) (as:=as) (n:=n) ⟨n0,hq⟩
     rw [u.mid.live h (by omega)] at hpl
     have e1:w64 ((i:Int)+1)=((i+1:Nat):Int):=by rw [A6 (by omega)];omega
     have nxt:∀ (w q:Ab) (as:List Ak),Prg b p t q0 as0 w q as->(∀ j,j<b.Ac.length->Bi b p (j:Int)=true->((Cz b j:Int)<n\/((Cz b j:Int)=n/\(j:Int)<(i:Int)))->A2 b q (Cz b j)=true)->((Cz b i:Int)=n->Bi b p (i:Int)=true->A2 b q (Cz b i)=true)->(0<=((i+1:Nat):Int)/\((i+1:Nat):Int)<=(b.Ac.length:Int))/\∃ (w' q:Ab) (as':List Ak),G2 b w g as=G2 b w' g as'/\Prg b p t q0 as0 w' q as'/\∀ j,j<b.Ac.length->Bi b p (j:Int)=true->((Cz b j:Int)<n\/((Cz b j:Int)=n/\(j:Int)<((i+1:Nat):Int)))->A2 b q (Cz b j)=true:=λ w q as u hl hi2=>⟨by omega,w,q,as,rfl,u,λ j hj hu hb=>by
      by_cases e:j=i
      ·subst e
       rcases hb with hb | hb
       ·exact hl j hj hu (.inl hb)
       ·exact hi2 hb.1 hu
      ·exact hl j hj hu (by omega)⟩
     refine Ok.bind (P:=λ v=>v=(brN b i:Int)) (c8 (x:=(brN b i:Int)) (by show F56 b (i:Int)=_;rw [Io h,eb]) rfl) λ v hv=>?_
     subst hv
     refine Ok.bind (P:=λ v=>v=b.Ad.getD (brN b i) default) (c8 (A8 hgb) rfl) λ v hv=>?_
     subst hv
     rw [hb2,e1]
     cases hA:((Cz b i:Int)==n) with
     | false=>
      simp only [dz] at hA
      refine Ok.bind (P:=λ _=>True) (d5 (λ hh=>absurd hh.1 (by simp)) λ _=>trivial) λ _ _=>?_
      refine Ok.bind (P:=λ _=>True) (d5 (λ hh=>absurd hh.1 (by simp)) λ _=>trivial) λ _ _=>?_
      exact c6 ⟨nxt w q as u hl (λ e=>absurd e hA),by dsimp only;omega⟩
     | true=>
      simp only [dy] at hA
      refine Ok.bind (P:=λ v=>v=Bi b p (i:Int)) (c8 (x:=Bi b p (i:Int)) hue rfl) λ v hv=>?_
      subst hv
      cases hu:Bi b p (i:Int) with
      | false=>
       refine Ok.bind (P:=λ _=>True) (d5 (λ hh=>absurd hh.1 (by simp)) λ _=>trivial) λ _ _=>?_
       exact c6 ⟨nxt w q as u hl (λ _ e=>by rw [hu] at e;cases e),by dsimp only;omega⟩
      | true=>
       refine Ok.bind (P:=λ v=>v=A2 b q n.toNat) (c8 (x:=A2 b q n.toNat) hpl rfl) λ v hv=>?_
       subst hv
       have en:n.toNat=Cz b i:=by omega
       rw [en]
       cases hlv:A2 b q (Cz b i) with
       | true=>exact c6 ⟨nxt w q as u hl (λ _ _=>hlv),by dsimp only;omega⟩
       | false=>
        obtain⟨m1,m2,m3⟩:=A0u h u.mid hi hu hlv
        have hk:=(aa.1 hgb).1
        have ha:=qX u.mid.hw (g:=g) (as:=as) (by omega) 1 hk
        refine Ok.bind (P:=λ v=>v=_) (c8 ha rfl) λ v hv=>?_
        subst hv
        obtain⟨_,_,k2,_,_⟩:=E4 h hi
        have u2:=u.close h hgb (by omega) m2 m1
        exact c6 ⟨nxt (Gc w (brN b i)) _ _ u2 (λ j hj hju hb=>Mid.mono h u.mid.hq hgb m1.hq (Im h hj).1 (hl j hj hju hb)) (λ _ _=>m3),by dsimp only;omega⟩
    ·simp only [dx] at hq2
     omega
   ·obtain⟨w,q,as,hz,u,hl⟩:=hz
    obtain⟨i,z⟩:=z
    dsimp only at hz
    subst hz
    have e1:w64 (n+1)=n+1:=A6 (by omega)
    dsimp only
    rw [e1]
    exact c6 ⟨⟨by dsimp only;omega,w,q,as,rfl,u,hl⟩,by dsimp only;omega⟩
  ·simp only [dx] at hq
   have:=(Im h hi).1
   omega
 ·obtain⟨w,q,as,hz,u,hl⟩:=hz
  obtain⟨n,z⟩:=z
  dsimp only at hz
  subst hz
  exact c5 ⟨w,q,as,rfl,u,hl⟩
def Pb (b:Aa) (p q:Ab) (g:List Bool) (k:Nat) (x:Ag):Prop:=x.Kind=1/\q.Ae.getD k false=false/\B0 b p.Ah (k:Int)=true/\lv g x.A.toNat/\A2 b q x.A.toNat≠A2 b q x.B.toNat
theorem A19 {b:Aa} (h:Ar b) {p w q:Ab} {t:Int} {as:List Ak} (u:Mid b p w q t as) {g:List Bool} (hg:g.length=b.Am.toNat):Ok (uN ⟨b,w,g,as⟩) λ y=>(y.2=true/\∃ k x,y.1=((k:Nat):Int)/\b.Ad[k]? = some x/\Pb b p q g k x)\/(y.2=false/\∀ k x,b.Ad[k]? = some x->¬Pb b p q g k x):=by
 have hbb:=h.brl
 have hbl:w.Ah.length<=1000:=by have:=u.hw.brk.len;omega
 unfold uN
 refine Ok.andThen (A:=λ _=>∀ k x,b.Ad[k]? = some x->¬Pb b p q g k x) (B:=λ (y:Int×Bool)=>y.2=true/\∃ k x,y.1=((k:Nat):Int)/\b.Ad[k]? = some x/\Pb b p q g k x) ?_ (λ _ hn=>c5 (.inr ⟨rfl,hn⟩)) (λ y hy=>c5 (.inl hy))
 refine c7 (I:=λ j _=>∀ k x,k<j->b.Ad[k]? = some x->¬Pb b p q g k x) (λ k x hk=>by omega) (λ j x s hx hI=>?_) λ _ hI k x hx=>hI k x (aa.1 hx).1 hx
 have hx:b.Ad[j]? = some x:=hx
 have hj:=(aa.1 hx).1
 obtain⟨hA,hB⟩:=Db h hx
 have nxt:¬Pb b p q g j x->∀ k y,k<j+1->b.Ad[k]? = some y->¬Pb b p q g k y:=λ hn k y hk hy=>by
  by_cases e:k=j
  ·subst e;rw [hx] at hy;cases hy;exact hn
  ·exact hI k y (by omega) hy
 have hc:w.Ae.getD j false=q.Ae.getD j false:=by rw [u.cl]
 unfold Y1
 dsimp only
 rw [Cw (by omega)]
 by_cases hk:x.Kind=1
 ·have hB:=hB hk
  have ek:(x.Kind==1)=true:=by rw [hk];rfl
  have g1:getI w.Ae (j:Int)=some (q.Ae.getD j false):=by rw [←hc];exact A8 (Gz u.hw hj)
  have g2:=Qn h (p:=w) hbl (i:=(j:Int)) (by omega) (by omega)
  rw [u.bw] at g2
  have g3:getI g x.A=some (g.getD x.A.toNat false):=by
   have e:g[x.A.toNat]? = some (g.getD x.A.toNat false):=by
    rw [af (by omega)];simp [List.getD,List.getElem?_eq_getElem (show x.A.toNat<g.length by omega)]
   have:=A8 e;rwa [aK hA.1] at this
  have g4:=Kl h u.hw (g:=g) (as:=as) hA
  have g5:=Kl h u.hw (g:=g) (as:=as) (n:=x.B) (by omega)
  rw [u.live h (by omega)] at g4 g5
  rw [ek,g1,g2,g3,g4,g5]
  simp only [Hk,ab,aO]
  refine c4 (λ hq=>Ok.ret ⟨rfl,j,x,rfl,hx,?_⟩) (λ hq=>c6 (nxt ?_))
  ·simp only [Wk,ek,aO,cond_true] at hq
   revert hq
   cases h1:q.Ae.getD j false <;> cases h2:B0 b p.Ah (j:Int) <;> cases h3:g.getD x.A.toNat false <;> simp
   intro h4
   exact⟨hk,h1,h2,h3,h4⟩
  ·rintro⟨_,t1,t2,t3,t4⟩
   unfold lv at t3
   simp only [Wk,ek,aO,cond_true,t1,t2,t3,Bool.not_false,bt,ct,dy] at hq
   exact t4 hq
 ·have ek:(x.Kind==1)=false:=dz.2 hk
  rw [ek]
  refine Ok.bind (P:=λ _=>True) (d5 (λ hh=>absurd hh.1 (by simp)) λ _=>trivial) λ _ _=>?_
  refine Ok.bind (P:=λ _=>True) (d5 (λ hh=>absurd hh.1 (by simp)) λ _=>trivial) λ _ _=>?_
  refine Ok.bind (P:=λ _=>True) (d5 (λ hh=>absurd hh.1 (by simp)) λ _=>trivial) λ _ _=>?_
  refine Ok.bind (P:=λ _=>True) (d5 (λ hh=>absurd hh.1 (by simp)) λ _=>trivial) λ _ _=>?_
  refine Ok.bind (P:=λ _=>True) (d5 (λ hh=>absurd hh.1 (by simp)) λ _=>trivial) λ _ _=>?_
  refine c4 (λ hq=>?_) (λ _=>c6 (nxt λ ht=>hk ht.1))
  simp [Wk,ek] at hq
theorem A0r {b:Aa} (h:Ar b) {p w q:Ab} {t:Int} {as:List Ak} (u:Mid b p w q t as) {g:List Bool} {k:Nat} {x:Ag} (hx:b.Ad[k]? = some x) (ht:Pb b p q g k x):Mid b p (Gc w k) (A7 b q k) t (as++[⟨1,(k:Int),0⟩])/\Dw b q (k:Int)=true:=by
 obtain⟨t1,t2,t3,_,t5⟩:=ht
 obtain⟨hA,hB⟩:=Db h hx
 have hB:=hB t1
 unfold B0 at t3
 rw [ai,Cs hx] at t3
 dsimp only at t3
 rw [t1] at t3
 simp only [ac,aC,dD,aU] at t3
 have hs:Dw b q (k:Int)=true:=by
  unfold Dw
  rw [ai,Cs hx,t2,u.bq,t3.1.1,t3.1.2,if_pos t1,t3.2]
  rfl
 cases hlA:A2 b q x.A.toNat with
 | true=>
  have hlB:A2 b q x.B.toNat=false:=by
   cases hl:A2 b q x.B.toNat with
   | false=>rfl
   | true=>rw [hlA,hl] at t5;exact absurd rfl t5
  obtain⟨c1,c2,_⟩:=Auh h u.hq u.all hx t1 (u:=x.A.toNat) (v:=x.B.toNat) (.inl ⟨rfl,rfl⟩) hlA hlB u.exc
  exact⟨u.close h hx hs (.inr (.inr ⟨t1,.inr hlB⟩)) (λ e=>by omega) c1 c2,hs⟩
 | false=>
  have hlB:A2 b q x.B.toNat=true:=by
   cases hl:A2 b q x.B.toNat with
   | true=>rfl
   | false=>rw [hlA,hl] at t5;exact absurd rfl t5
  obtain⟨c1,_,c3⟩:=Auh h u.hq u.all hx t1 (u:=x.B.toNat) (v:=x.A.toNat) (.inr ⟨rfl,rfl⟩) hlB hlA u.exc
  exact⟨u.close h hx hs (.inr (.inr ⟨t1,.inl hlA⟩)) (λ e=>by omega) c1 c3,hs⟩
def Kd (b:Aa) (p q:Ab) (c:Int) (k:Nat) (x:Ag):Prop:=b.Ad[k]? = some x/\(x.Kind=3/\x.B=c)/\B0 b p.Ah (k:Int)=true/\A2 b q x.A.toNat=true
def Aeb (b:Aa) (p q:Ab) (c:Int) (k:Nat) (x:Ag):Prop:=Kd b p q c k x/\∀ j y,j<k->¬Kd b p q c j y
def Sat (b:Aa) (p q:Ab) (c:Int):Prop:=By b q 3 c≠none\/brk p.Ah 4 c=true\/∀ k x,Aeb b p q c k x->Cg b q x.A.toNat<Bm b q x.A.toNat+q.Al.getD c.toNat 0
structure Srv (b:Aa) (p:Ab) (t:Int) (q0:Ab) (as0:List Ak) (j:Nat) (ks:List (Nat×Nat)) (w q:Ab) (as:List Ak):Prop where
 mid:Mid b p w q t as
 len:as.length+cl q0.Ae=as0.length+cl q.Ae
 acts:as=as0++ks.map λ z=>(⟨1,(z.1:Int),0⟩:Ak)
 at3:∀ z,z∈ks->∃ x,b.Ad[z.1]? = some x/\x.Kind=3/\(Cc b)[z.2]? = some x.B
 low:∀ z,z∈ks->(Cc b).length-j<=z.2
 desc:ks.Pairwise λ y z=>z.2<y.2
 live:∀ n,n<b.Am.toNat->A2 b q n=A2 b q0 n
 more:∀ k:Nat,q0.Ae.getD k false=true->q.Ae.getD k false=true
 sat:∀ (m:Nat) c,(Cc b)[m]? = some c->(Cc b).length-j<=m->Sat b p q c
theorem Ur {b:Aa} (h:Ar b) {q:Ab} (hq:Aq b q) {k:Nat} {x:Ag} (hx:b.Ad[k]? = some x) (hk:x.Kind=3) (hr:Aq b (A7 b q k)) {n:Nat} (hn:n<b.Am.toNat):A2 b (A7 b q k) n=A2 b q n/\Cg b (A7 b q k) n=Cg b q n/\Bm b q n<=Bm b (A7 b q k) n:=by
 have hsrc:∀ i,i<b.Ac.length->(Fc b q n i↔Fc b (A7 b q k) n i):=λ i hi=>by
  unfold Fc
  rw [Ru h hq hx hr (by omega) hi]
  simp only [F1 hq hx hr (show x.Kind≠1 by omega)]
 have e:=dn h hn hn hsrc
 refine⟨Dk.live h hn hn hsrc,by unfold Cg;rw [e],?_⟩
 by_cases hs:0<(isl b q (Bh b q n)).Ac.length
 ·have hs2:0<(isl b (A7 b q k) (Bh b (A7 b q k) n)).Ac.length:=by rw [←e];exact hs
  rw [Ih b q n hs,Ih b (A7 b q k) n hs2]
  refine Z5 (Mh b q _) (λ m hm=>?_) (jQ h hr)
  obtain⟨j,rfl,hj,e1⟩:=D7.1 hm
  obtain⟨a,e2,c⟩:=(Lv h hn).1 e1
  refine D7.2 ⟨j,rfl,hj,(Lv h hn).2 ⟨a,?_,(F1 hq hx hr (by omega)).2 c⟩⟩
  obtain⟨k',x',g1,g2,g3,g4,g5⟩:=(Ds hq hj).1 e2
  exact (Ds hr hj).2 ⟨k',x',g1,g2,g3,(Cf hq hx k').2 (.inr g4),g5⟩
 ·have hs2:¬0<(isl b (A7 b q k) (Bh b (A7 b q k) n)).Ac.length:=by rw [←e];exact hs
  unfold Bm
  rw [if_neg hs,if_neg hs2]
  exact bu _
theorem Sat.keep {b:Aa} (h:Ar b) {p q:Ab} (hq:Aq b q) {k:Nat} {x:Ag} (hx:b.Ad[k]? = some x) (hk:x.Kind=3) (hr:Aq b (A7 b q k)) {c:Int} (hc:0<=c/\c<b.Af.length) (u:Sat b p q c):Sat b p (A7 b q k) c:=by
 rcases u with e | e | e
 ·left
  obtain⟨m,rfl⟩:∃ m:Nat,c=(m:Int):=⟨c.toNat,by omega⟩
  cases hl:By b q 3 (m:Int) with
  | none=>exact absurd hl e
  | some a=>
   obtain⟨k',x',g1,g2,g3,g4,g5⟩:=(Ds hq (by omega)).1 hl
   have:=(Ds hr (by omega)).2 ⟨k',x',g1,g2,g3,(Cf hq hx k').2 (.inr g4),g5⟩
   rw [this];intro hh;cases hh
 ·exact .inr (.inl e)
 ·right;right
  intro k' x' hf
  have hcand:∀ j y,Kd b p (A7 b q k) c j y↔Kd b p q c j y:=λ j y=>by
   unfold Kd
   refine and_congr_right λ hy=>and_congr_right λ _=>and_congr_right λ _=>?_
   have:=(Db h hy).1
   rw [(Ur h hq hx hk hr (n:=y.A.toNat) (by omega)).1]
  have hf2:Aeb b p q c k' x':=⟨(hcand _ _).1 hf.1,λ j y hj hy=>hf.2 j y hj ((hcand _ _).2 hy)⟩
  have:=e k' x' hf2
  have hb:=(Db h hf2.1.1).1
  obtain⟨_,r2,r3⟩:=Ur h hq hx hk hr (n:=x'.A.toNat) (by omega)
  have hl:(A7 b q k).Al=q.Al:=rfl
  rw [r2,hl]
  omega
theorem Srv.refl {b:Aa} {p w q:Ab} {t:Int} {as:List Ak} (u:Mid b p w q t as):Srv b p t q as 0 [] w q as where
 mid:=u
 len:=rfl
 acts:=by simp
 at3 z hz:=by cases hz
 low z hz:=by cases hz
 desc:=List.Pairwise.nil
 live _ _:=rfl
 more _ h:=h
 sat m c hm hl:=by
  have:=(aa.1 hm).1
  omega
theorem Srv.skip {b:Aa} {p w q q0:Ab} {t:Int} {as as0:List Ak} {j:Nat} {ks:List (Nat×Nat)} (u:Srv b p t q0 as0 j ks w q as) (hj:j<(Cc b).length) (hs:∀ c,(Cc b)[(Cc b).length-1-j]? = some c->Sat b p q c):Srv b p t q0 as0 (j+1) ks w q as:=
 ⟨u.mid,u.len,u.acts,u.at3,λ z hz=>by have:=u.low z hz;omega,u.desc,u.live,u.more,λ m c hm hl=>by
  by_cases e:m=(Cc b).length-1-j
  ·rw [e] at hm;exact hs c hm
  ·exact u.sat m c hm (by omega)⟩
theorem Srv.close {b:Aa} (h:Ar b) {p w q q0:Ab} {t:Int} {as as0:List Ak} {j:Nat} {ks:List (Nat×Nat)} (u:Srv b p t q0 as0 j ks w q as) (hj:j<(Cc b).length) {c:Nat} (hc:c<b.Af.length) (ho:(Cc b)[(Cc b).length-1-j]? = some (c:Int)) (hled:By b q 3 (c:Int)=none) (h4:brk p.Ah 4 (c:Int)=false) {k:Nat} {x:Ag} (hx:Kd b p q (c:Int) k x) (hl:Bm b q x.A.toNat+q.Al.getD c 0<=Cg b q x.A.toNat) :
  Srv b p t q0 as0 (j+1) (ks++[(k,(Cc b).length-1-j)]) (Gc w k) (A7 b q k) (as++[⟨1,(k:Int),0⟩]):=by
 obtain⟨hx,⟨k3,hB⟩,hso,hlv⟩:=hx
 have hk:=(aa.1 hx).1
 have hn:=u.mid.hq.ncl
 have hb:=(Db h hx).1
 have hcl:q.Ae.getD k false=false:=by
  cases hcl:q.Ae.getD k false with
  | false=>rfl
  | true=>
   have:=(Ds u.mid.hq hc).2 ⟨k,x,hx,k3,hB,hcl,rfl⟩
   rw [hled] at this;cases this
 unfold B0 at hso
 rw [ai,Cs hx] at hso
 simp only [ac,aC] at hso
 have hs:Dw b q (k:Int)=true:=by
  unfold Dw
  rw [ai,Cs hx,hcl,u.mid.bq,hso.1.1,hso.1.2,if_neg (by omega),if_neg (by omega),hB,h4,hled]
  rfl
 have he:=A4v h u.mid.hq hx k3 hB hc hled hl u.mid.exc
 have hr:=J8 u.mid.hq hx (λ _=>by rw [hB];exact hled)
 have hlv2:A2 b (A7 b q k) x.A.toNat=true:=Mid.mono h u.mid.hq hx hr (by omega) hlv
 have m:=u.mid.close h hx hs (.inl k3) (λ e=>by omega) he hlv2
 have e:cl (A7 b q k).Ae=cl q.Ae+1:=Adl _ _ (by omega) hcl
 refine⟨m,?_,?_,λ z hz=>?_,λ z hz=>?_,?_,λ n hn2=>?_,λ i hi=>(Cf u.mid.hq hx i).2 (.inr (u.more i hi)),λ m' c' hm hl2=>?_⟩
 ·have:=u.len
  rw [e,aI,List.length_singleton];omega
 ·rw [u.acts,bm,aX];rfl
 ·rcases aq.1 hz with hz | hz
  ·exact u.at3 z hz
  ·rw [aP.1 hz]
   exact⟨x,hx,k3,by rw [hB];exact ho⟩
 ·rcases aq.1 hz with hz | hz
  ·have:=u.low z hz;omega
  ·rw [aP.1 hz];dsimp only;omega
 ·rw [List.pairwise_append]
  refine⟨u.desc,List.pairwise_singleton _ _,λ y hy z hz=>?_⟩
  rw [aP.1 hz]
  have:=u.low y hy
  dsimp only
  omega
 ·rw [(Ur h u.mid.hq hx k3 hr hn2).1];exact u.live n hn2
 ·by_cases e2:m'=(Cc b).length-1-j
  ·rw [e2,ho] at hm
   cases hm
   left
   rw [(Ds hr hc).2 ⟨k,x,hx,k3,hB,(Cf u.mid.hq hx k).2 (.inl rfl),rfl⟩]
   intro hh;cases hh
  ·have hin:=jD h (ae hm)
   exact (u.sat m' c' hm (by omega)).keep h u.mid.hq hx k3 hr hin
theorem Aw1 {b : Aa} (h : Ar b) {p w0 q0 : Ab} {t : Int} {as0 : List Ak} (u0 : Mid b p w0 q0 t as0) (h0 : as0.length <= 1000) (g : List Bool) : Ok (uM ⟨b, w0, g, as0⟩) λ y => ∃ (w q : Ab) (as : List Ak) (ks : List (Nat × Nat)), y = ⟨b, w, g, as⟩ /\ Srv b p t q0 as0 (Cc b).length ks w q as := by
 have hbb:=h.brl
 have hcol:=h.col
 unfold uM
 have hord:=(I8 h).1
 refine Ok.bind (P:=λ v=>v=Cc b) (c8 (x:=Cc b) hord rfl) λ v hv=>?_
 subst hv
 have hbw:(bw (Cc b)).length=(Cc b).length:=by simp [bw,Gd]
 refine Ok.andThen (A:=λ z=>∃ (w q:Ab) (as:List Ak) (ks:List (Nat×Nat)),z=G2 b w g as/\Srv b p t q0 as0 (Cc b).length ks w q as) (B:=λ (_:Unit)=>False) ?_ (λ z hz=>?_) (λ _ h=>h.elim)
 ·refine Ok.foldE (I := λ j z => ∃ (w q : Ab) (as : List Ak) (ks : List (Nat × Nat)), z = G2 b w g as /\ Srv b p t q0 as0 j ks w q as) _ 0 _ ⟨w0, q0, as0, [], rfl, Srv.refl u0⟩ (λ j x z hx hI => ?_) λ z hI => ?_
  ·rw [aL] at hI
   rw [aL]
   obtain⟨w,q,as,ks,rfl,u⟩:=hI
   have hj:j<(Cc b).length:=by have:=(aa.1 hx).1;omega
   have hoj:(Cc b)[(Cc b).length-1-j]? = some x.2:=by
    unfold bw Gd at hx
    rw [az,bU hj] at hx
    have hx:=bz hx
    rw [←hx]
    have hlt:(Cc b).length-1-j<(Cc b).length:=by omega
    dsimp only
    rw [af hlt];rfl
   have hin:=jD h (ae hoj)
   obtain⟨i,c⟩:=x
   dsimp only at hoj hin
   obtain⟨c,rfl⟩:∃ m:Nat,c=(m:Int):=⟨c.toNat,by omega⟩
   have hc:c<b.Af.length:=by omega
   have hbl:w.Ah.length<=1000:=by have:=u.mid.hw.brk.len;omega
   have hwn:=u.mid.hw.ncl
   have hled:By b w 3 (c:Int)=By b q 3 (c:Int):=by unfold By;rw [u.mid.cl]
   have hal:as.length<=as0.length+b.Ad.length:=by
    have h1:=u.len
    have h2:=Adm q.Ae
    have h3:=u.mid.hq.ncl
    omega
   unfold Sg
   dsimp only
   have hfed:F86 b w (c:Int)=some (Dd (By b q 3 (c:Int))):=by
    unfold F86
    rw [Cm h u.mid.hw,jY h hwn,hled];rfl
   refine Ok.bind (P:=λ v=>v=Dd (By b q 3 (c:Int))) (c8 (x:=Dd (By b q 3 (c:Int))) hfed rfl) λ v hv=>?_
   subst hv
   have hbrk:F76 w 4 (c:Int)=some (brk p.Ah 4 (c:Int)):=by rw [C3 hbl,u.mid.bw]
   have stay:Sat b p q (c:Int)->∃ (w' q:Ab) (as':List Ak) (ks:List (Nat×Nat)),G2 b w g as=G2 b w' g as'/\Srv b p t q0 as0 (j+1) ks w' q as':=λ hs=>⟨w,q,as,ks,rfl,u.skip hj λ c' hc'=>by rw [hoj] at hc';cases hc';exact hs⟩
   cases hl:By b q 3 (c:Int) with
   | some a=>
    refine Ok.bind (P:=λ _=>True) (d5 (λ hh=>absurd hh.1 (by simp [Dd])) λ _=>trivial) λ v _=>?_
    exact c6 (stay (.inl (by rw [hl];intro hh;cases hh)))
   | none =>
    refine Ok.bind (P:=λ v=>v=brk p.Ah 4 (c:Int)) (c8 (x:=brk p.Ah 4 (c:Int)) hbrk rfl) λ v hv=>?_
    subst hv
    cases h4:brk p.Ah 4 (c:Int) with
    | true=>exact c6 (stay (.inr (.inl h4)))
    | false =>
     refine Ok.inner (A:=λ z=>∃ (w q:Ab) (as:List Ak) (ks:List (Nat×Nat)),z=G2 b w g as/\Srv b p t q0 as0 (j+1) ks w q as) (B:=λ (_:Unit)=>False) ?_ (λ z hz=>?_) (λ _ h=>h.elim)
     ·refine c7 (I:=λ m z=>z=G2 b w g as/\∀ k x,k<m->¬Kd b p q (c:Int) k x) ⟨rfl,λ k x hk=>by omega⟩ (λ m y z hy hI=>?_) λ z hI=>?_
      ·obtain⟨rfl,hno⟩:=hI
       have hy:b.Ad[m]? = some y:=hy
       have hm:=(aa.1 hy).1
       obtain⟨hA,_⟩:=Db h hy
       have nxt:¬Kd b p q (c:Int) m y->G2 b w g as=G2 b w g as/\∀ k x,k<m+1->¬Kd b p q (c:Int) k x:=λ hn=>⟨rfl,λ k x hk hx=>by
        by_cases e:k=m
        ·subst e
         have:=hx.1
         rw [hy] at this;cases this
         exact hn hx
        ·exact hno k x (by omega) hx⟩
       have g2:=Qn h (p:=w) hbl (i:=(m:Int)) (by omega) (by omega)
       rw [u.mid.bw] at g2
       have g4:=Kl h u.mid.hw (g:=g) (as:=as) hA
       rw [u.mid.live h (by omega)] at g4
       unfold Y0
       dsimp only
       rw [Cw (by omega)]
       by_cases hk:y.Kind=3/\y.B=(c:Int)
       ·have e1:((y.Kind != 3) || (y.B != (c:Int)))=false:=by rw [hk.1,hk.2];simp
        rw [e1]
        refine Ok.bind (P:=λ v=>v=B0 b p.Ah (m:Int)) (c8 (x:=B0 b p.Ah (m:Int)) g2 rfl) λ v hv=>?_
        subst hv
        cases hso:B0 b p.Ah (m:Int) with
        | false=>
         refine Ok.bind (P:=λ _=>True) (d5 (λ hh=>absurd hh.1 (by simp)) λ _=>trivial) λ v _=>?_
         refine c4 (λ _=>c6 (nxt λ hh=>by have:=hh.2.2.1;rw [hso] at this;cases this)) (λ hq=>?_)
         simp [P1] at hq
        | true=>
         refine Ok.bind (P:=λ v=>v=A2 b q y.A.toNat) (c8 (x:=A2 b q y.A.toNat) g4 rfl) λ v hv=>?_
         subst hv
         cases hlv:A2 b q y.A.toNat with
         | false=>
          refine c4 (λ _=>c6 (nxt λ hh=>by have:=hh.2.2.2;rw [hlv] at this;cases this)) (λ hq=>?_)
          simp [P1] at hq
         | true=>
          have hcand:Kd b p q (c:Int) m y:=⟨hy,hk,hso,hlv⟩
          refine c4 (λ hq=>?_) (λ _=>?_)
          ·simp [P1,hk.1,hk.2] at hq
          have eA:y.A=((y.A.toNat:Nat):Int):=by omega
          obtain⟨l1,l2,l3⟩:=V_ h u.mid.hw (n:=y.A.toNat) (by omega)
          obtain⟨r1,r2,r3⟩:=Ob h u.mid.hw (n:=y.A.toNat) (by omega)
          rw [←eA] at l1 r1
          obtain⟨m1,m2⟩:=u.mid.load h (n:=y.A.toNat) (by omega)
          rw [m1] at l1 l2 l3
          rw [m2] at r1
          obtain⟨d1,d2,d3,d4⟩:=O5 h u.mid.hw (c:=(c:Int)) (by omega) (by omega)
          rw [ai] at d1 d2 d3 d4
          have eL:w.Al.getD c 0=q.Al.getD c 0:=by rw [u.mid.li]
          rw [eL] at d1 d2 d4
          refine Ok.bind (P:=λ v=>v=Bm b q y.A.toNat) (c8 (x:=Bm b q y.A.toNat) l1 rfl) λ v hv=>?_
          subst hv
          refine Ok.bind (P:=λ v=>v=q.Al.getD c 0) (c8 (x:=q.Al.getD c 0) d1 rfl) λ v hv=>?_
          subst hv
          refine Ok.bind (P:=λ v=>v=Cg b q y.A.toNat) (c8 (x:=Cg b q y.A.toNat) r1 rfl) λ v hv=>?_
          subst hv
          rw [A6 (by omega)]
          refine c4 (λ hle=>?_) (λ hle=>cW ?_)
          ·simp only [dw] at hle
           have ha:=qX u.mid.hw (g:=g) (as:=as) (by omega) 1 hm
           refine Ok.bind (P:=λ v=>v=_) (c8 ha rfl) λ v hv=>cW ?_
           subst hv
           exact⟨Gc w m,_,_,_,rfl,u.close h hj hc hoj hl h4 hcand hle⟩
          ·simp only [dx] at hle
           refine stay (.inr (.inr λ k x hf=>?_))
           have hkm:k=m:=by
            rcases bn k m with e | e | e
            ·exact absurd hf.1 (hno k x e)
            ·exact e
            ·exact absurd hcand (hf.2 m y e)
           subst hkm
           have:=hf.1.1
           rw [hy] at this;cases this
           rw [ai]
           omega
       ·have e1:((y.Kind != 3) || (y.B != (c:Int)))=true:=by
         rw [aJ,dE,dE]
         by_cases e:y.Kind=3
         ·exact .inr λ e2=>hk ⟨e,e2⟩
         ·exact .inl e
        rw [e1]
        refine Ok.bind (P:=λ _=>True) (d5 (λ hh=>absurd hh.1 (by simp)) λ _=>trivial) λ v _=>?_
        refine Ok.bind (P:=λ _=>True) (d5 (λ hh=>absurd hh.1 (by simp)) λ _=>trivial) λ v _=>?_
        refine c4 (λ _=>c6 (nxt λ hh=>hk hh.2.1)) (λ hq=>?_)
        simp only [P1] at hq
        rw [e1] at hq
        simp at hq
      ·obtain⟨rfl,hno⟩:=hI
       exact stay (.inr (.inr λ k x hf=>absurd hf.1 (hno k x (aa.1 hf.1.1).1)))
     ·obtain⟨w',q',as',ks',rfl,u'⟩:=hz
      exact c6 ⟨w',q',as',ks',rfl,u'⟩
  ·rw [aL,hbw] at hI;exact hI
 ·obtain⟨w,q,as,ks,rfl,u⟩:=hz
  exact c5 ⟨w,q,as,ks,rfl,u⟩
theorem Aww {b:Aa} (h:Ar b) {p:Ab} (hp:Aq b p):Ok (F33 b p) λ v=>v=false↔∀ (k:Nat) x,b.Ad[k]? = some x->x.Kind=1->p.Ae.getD k false=true->brk p.Ah 2 (k:Int)=true->A2 b p x.A.toNat=true:=by
 have hbb:=h.brl
 have hbl:p.Ah.length<=1000:=by have:=hp.brk.len;omega
 unfold F33
 refine Ok.andThen (A:=λ _=>∀ (k:Nat) x,b.Ad[k]? = some x->x.Kind=1->p.Ae.getD k false=true->brk p.Ah 2 (k:Int)=true->A2 b p x.A.toNat=true) (B:=λ (v:Bool)=>v=true/\¬ ∀ (k:Nat) x,b.Ad[k]? = some x->x.Kind=1->p.Ae.getD k false=true->brk p.Ah 2 (k:Int)=true->A2 b p x.A.toNat=true) ?_ (λ _ hs=>c5 ⟨λ _=>hs,λ _=>rfl⟩) (λ v hv=>c5 ⟨λ e=>absurd (hv.1.symm.trans e) (by simp),λ e=>absurd e hv.2⟩)
 refine c7 (I:=λ j _=>∀ (k:Nat) x,k<j->b.Ad[k]? = some x->x.Kind=1->p.Ae.getD k false=true->brk p.Ah 2 (k:Int)=true->A2 b p x.A.toNat=true) (λ k x hk=>by omega) (λ j x s hx hI=>?_) λ _ hI k x hx=>hI k x (aa.1 hx).1 hx
 have hj:=(aa.1 hx).1
 have hA:=(Db h hx).1
 have nxt:(x.Kind=1->p.Ae.getD j false=true->brk p.Ah 2 (j:Int)=true->A2 b p x.A.toNat=true)->∀ (k:Nat) y,k<j+1->b.Ad[k]? = some y->y.Kind=1->p.Ae.getD k false=true->brk p.Ah 2 (k:Int)=true->A2 b p y.A.toNat=true:=λ hn k y hk hy=>by
  by_cases e:k=j
  ·subst e;rw [hx] at hy;cases hy;exact hn
  ·exact hI k y (by omega) hy
 have eA:x.A=((x.A.toNat:Nat):Int):=by omega
 have g5:=Wa h hp (n:=x.A.toNat) (by omega)
 rw [←eA] at g5
 unfold Aj7
 rw [Cw (by omega),A8 (Gz hp hj),C3 hbl,g5]
 simp only [Hk,ab]
 refine c4 (λ hq=>Ok.ret ⟨rfl,λ hall=>?_⟩) (λ hq=>c6 (nxt λ h1 h2 h3=>?_))
 ·have:=hall j x hx
  revert hq this
  simp only [Ao0]
  cases hk:(x.Kind==1) <;> cases p.Ae.getD j false <;> cases brk p.Ah 2 (j:Int) <;> cases A2 b p x.A.toNat <;> simp
  simpa using hk
 ·have ek:(x.Kind==1)=true:=by rw [h1];rfl
  simp only [Ao0,ek,h2,h3,aO,cond_true,ct] at hq
  exact hq
theorem Auf (l:List Bool) (v:Bool) (h:l.length<=1000):Ok (F34 l v) λ _=>True:=by
 unfold F34 F77
 refine Ok.bind (P:=λ _=>True) ?_ λ _ _=>c5 trivial
 refine Ok.andThen (A:=λ _=>True) (B:=λ (_:Int)=>True) ?_ (λ _ _=>c5 trivial) (λ _ _=>c5 trivial)
 refine c7 (I:=λ _ _=>True) trivial (λ j x s hx _=>?_) λ _ _=>trivial
 unfold Ajp
 exact c4 (λ _=>Ok.ret trivial) (λ _=>c6 trivial)
theorem Aku {b:Aa} (h:Ar b) {p:Ab} (hp:Aq b p):Ok (F24 b p) λ v=>(∀ n,lv (F5 b (Bi b p) (B0 b p.Ah)) n->A2 b p n=true)->v=true:=by
 have hbu:=h.buses
 have hgl:=Ni b (Bi b p) (B0 b p.Ah)
 unfold F24
 rw [Ama h hp,Cm h hp]
 simp only [ab]
 refine Ok.andThen (A:=λ _=>True) (B:=λ (v:Bool)=>¬ ∀ n,lv (F5 b (Bi b p) (B0 b p.Ah)) n->A2 b p n=true) ?_ (λ _ _=>c5 λ _=>rfl) (λ v hv=>c5 λ hh=>absurd hh hv)
 refine c7 (I:=λ _ _=>True) trivial (λ j x s hx _=>?_) λ _ _=>trivial
 have hj:=(aa.1 hx).1
 have ex:(F5 b (Bi b p) (B0 b p.Ah)).getD j false=x:=by rw [aZ,hx];rfl
 unfold Aka
 rw [Cw (by omega),Wa h hp (n:=j) (by omega)]
 simp only [Hk,ab]
 refine c4 (λ hq=>Ok.ret λ hall=>?_) (λ _=>c6 trivial)
 have:=hall j
 unfold lv at this
 rw [ex] at this
 cases x with
 | false=>simp at hq
 | true=>rw [this rfl] at hq;simp at hq
structure A15 (b:Aa) (p:Ab) (l:List Ak) (w q:Ab) (t:Int) (q1:Ab) (as1:List Ak) (ks:List (Nat×Nat)):Prop where
 stable:Lw b p
 srv:Srv b p t q1 as1 (Cc b).length ks w q l
 goal:∀ n,lv (F5 b (Bi b p) (B0 b p.Ah)) n->A2 b q n=true
 keep:∀ (k:Nat) x,b.Ad[k]? = some x->p.Ae.getD k false=true->A2 b p x.A.toNat=true->q.Ae.getD k false=true
 nc:∀ a,a∈as1->a.Kind=1->∀ x,b.Ad[a.Unit.toNat]? = some x->x.Kind≠3
 len:∀ M,0<=M->(∀ x,x∈b.Ac->x.Start<=M)->(l.length:Int)<=2*b.Ad.length+b.Ac.length+M+1
theorem Atn {b:Aa} (h:Ar b) {p w q:Ab} {t:Int} {as:List Ak} (u:Mid b p w q t as) (hs:∀ i,i<b.Ac.length->Bi b p (i:Int)=true->A2 b q (Cz b i)=true) (ht:∀ k x,b.Ad[k]? = some x->¬Pb b p q (F5 b (Bi b p) (B0 b p.Ah)) k x) {n:Nat} (hn:lv (F5 b (Bi b p) (B0 b p.Ah)) n):A2 b q n=true:=by
 obtain⟨j,hj,r,hc⟩:=(Rk h).1 hn
 have hjl:lv (F5 b (Bi b p) (B0 b p.Ah)) j:=(Rk h).2 ⟨j,hj,Bn.refl _ _⟩
 have hlt:=Q4 hj
 rw [I0] at hlt
 obtain⟨i,hi,hu,hA⟩:=(Axp hlt).1 hj
 have hj0:A2 b q j=true:=by
  have:=hs i hi hu
  have e:Cz b i=j:=hA
  rwa [e] at this
 have key:∀ (r m:Nat),C_ (K3 b (B0 b p.Ah)) j r m->lv (F5 b (Bi b p) (B0 b p.Ah)) m/\A2 b q m=true:=by
  intro r m hc
  induction hc with
  | refl=>exact⟨hjl,hj0⟩
  | stay _ ih=>exact ih
  | step _ tie ih=>
   rename_i m m'
   have hlt2:=Xy h _ _ _ tie
   have hgm':=Ax6 h tie ih.1
   refine⟨hgm',?_⟩
   obtain⟨k,x,hx,hk,hso,he⟩:=N9.1 tie
   have hgA:lv (F5 b (Bi b p) (B0 b p.Ah)) x.A.toNat:=by
    rcases he with⟨e,_⟩ | ⟨e,_⟩
    ·rw [e];exact ih.1
    ·rw [e];exact hgm'
   have hab:A2 b q x.A.toNat=A2 b q x.B.toNat:=by
    cases hcl:q.Ae.getD k false with
    | true=>exact Lo h (by omega) (by omega) ((Bn.refl _ _).tie ((Fg u.hq.ncl).2 ⟨k,x,hx,hk,hcl,.inl ⟨rfl,rfl⟩⟩))
    | false=>exact Decidable.byContradiction λ hne=>ht k x hx ⟨hk,hcl,hso,hgA,hne⟩
   rcases he with⟨e1,e2⟩ | ⟨e1,e2⟩
   ·rw [←e2,←hab,e1];exact ih.2
   ·rw [←e1,hab,e2];exact ih.2
 exact (key r n hc).2
theorem As5 {b:Aa} (h:Ar b) {p:Ab} (s:Lw b p) (u:Sep b p (Ct b p b.Ad.length)) (hst:∀ (k:Nat) x,b.Ad[k]? = some x->x.Kind=1->p.Ae.getD k false=true->brk p.Ah 2 (k:Int)=true->A2 b p x.A.toNat=true):H8 b p (Ba p (Bk p.Ae (Ct b p b.Ad.length))) (Du (Ct b p b.Ad.length)):=
 ⟨s,u.st,rfl,rfl,rfl,λ k hk=>((Q2 (λ i hi=>by obtain⟨k,rfl,_⟩:=Kg.1 hi;omega) k).1 hk).1,u.live,A0z h s hst u,u.agr,u.exc,u.goes,λ a ha=>by
  unfold Du at ha
  obtain⟨i,_,rfl⟩:=am.1 ha
  dsimp only;omega⟩
theorem A06 {b:Aa} (h:Ar b) {p:Ab} (hp:Aq b p) (hsi:∀ x,x∈p.Ac->x.Since<=20):Ok (F8 b p) λ y=>(y.2=9\/y.2=11)\/(y.2=0/\∃ w q t q1 as1 ks,A15 b p y.1 w q t q1 as1 ks):=by
 have hbb:=h.brl
 have hso:=h.sol
 have hbu:=h.buses
 have hgl:=Ni b (Bi b p) (B0 b p.Ah)
 unfold F8
 obtain⟨p1,p2,_⟩:=Qz h hp
 refine Ok.bind (P:=λ v=>v=(Gn b p,Anp b p,(0:Int))) (c8 (x:=(Gn b p,Anp b p,(0:Int))) p1 rfl) λ v hv=>?_
 subst hv
 refine c4 (λ hc=>by simp at hc) (λ _=>?_)
 obtain⟨s1,s2⟩:=A00 (hp.lens h) (Gn b p)
 refine Ok.bind (P:=λ v=>v=Qu p (Gn b p)) (c8 (x:=Qu p (Gn b p)) s1 rfl) λ v hv=>?_
 subst hv
 cases hsm:Qu p (Gn b p) with
 | false=>
  refine Ok.bind (P:=λ _=>True) (d5 (λ hh=>absurd hh.1 (by simp)) λ _=>trivial) λ v _=>?_
  exact c5 (.inl (.inr rfl))
 | true=>
  have s:=Aq0 h hp (s2 hsm)
  refine Ok.bind (P:=λ v=>v=false↔∀ (k:Nat) x,b.Ad[k]? = some x->x.Kind=1->p.Ae.getD k false=true->brk p.Ah 2 (k:Int)=true->A2 b p x.A.toNat=true) (cT (λ _=>Aww h hp) λ hn=>absurd ⟨rfl,trivial⟩ hn) λ v hv=>?_
  refine c4 (λ _=>c5 (.inl (.inr rfl))) (λ hstk=>?_)
  have hst:=hv.1 (by simpa using hstk)
  rw [Ama h hp]
  simp only [ab]
  refine (Auf _ true (by omega)).bind λ y11 _=>?_
  refine Ok.bind (P:=λ _=>True) (d5 (λ _=>(Aku h hp).mono λ _ _=>trivial) λ _=>trivial) λ y13 _=>?_
  refine c4 (λ _=>c5 (.inl (.inl rfl))) (λ _=>?_)
  rw [D8 h hp]
  simp only [ab]
  generalize hG:F5 b (Bi b p) (B0 b p.Ah)=G at hgl ⊢
  obtain⟨e1,u1⟩:=Akt h s G
  have hsl:(Ct b p b.Ad.length).length<=b.Ad.length:=De _ _
  have hpl:(Du (Ct b p b.Ad.length)).length<=b.Ad.length:=by unfold Du;rw [ax];exact hsl
  have o:=As5 h s u1 hst
  refine Ok.bind (P:=λ v=>v=_) (c8 e1 rfl) λ v hv=>?_
  subst hv
  refine (As1 h o (by omega) G).bind λ v hv=>?_
  obtain⟨wt,S,Q,as,rfl,hbeg⟩:=hv
  have hw0:=hbeg.wt0
  have hz:=Wtd.zero h o hsi hbeg
  obtain⟨R,hR⟩:=Wtd.all h o hw0.2 hz wt.toNat (by omega)
  have m0:=As7 h o hbeg hR
  have hal:=hbeg.len
  have hl0:(as++List.replicate wt.toNat aW).length=as.length+wt.toNat:=by rw [aI,cO]
  refine (Aop h m0 (by omega) G).bind λ v hv=>?_
  obtain⟨w2,q2,as2,rfl,g2,l2⟩:=hv
  have hc2:=g2.clen
  dsimp only
  generalize hq0:(⟨(Ba p (Bk p.Ae (Ct b p b.Ad.length))).Ae,R,(Ba p (Bk p.Ae (Ct b p b.Ad.length))).Al,(Ba p (Bk p.Ae (Ct b p b.Ad.length))).Ah⟩:Ab)=q0 at m0 g2
  generalize has0:as++List.replicate wt.toNat aW=as0 at m0 g2 hl0 hc2
  refine Ok.andThen (A:=λ z=>∃ (w q:Ab) (l:List Ak),z=G2 b w G l/\Prg b p (20+wt) q0 as0 w q l/\(∀ i,i<b.Ac.length->Bi b p (i:Int)=true->A2 b q (Cz b i)=true)/\∀ k x,b.Ad[k]? = some x->¬Pb b p q G k x) (B:=λ (_:Unit)=>False) ?_ (λ z hz=>?_) (λ _ h=>h.elim)
  ·refine c9 (λ z=>∃ (w q:Ab) (l:List Ak),z=G2 b w G l/\Prg b p (20+wt) q0 as0 w q l/\(∀ i,i<b.Ac.length->Bi b p (i:Int)=true->A2 b q (Cz b i)=true)) (λ z=>b.Ad.length-cl z.2.2.2.2.2.2.1) _ _ ⟨w2,q2,as2,rfl,g2,l2⟩ (by omega) ?_
   rintro z ⟨w,q,l,rfl,u,hl⟩
   have hul:=u.clen
   unfold Aqd
   dsimp only
   refine Ok.bind (A19 h u.mid hgl) λ y hy=>?_
   rcases hy with⟨hy,k,x,ek,hx,ht⟩ | ⟨hy,hno⟩
   ·rw [hy]
    refine c4 (λ hc=>by simp at hc) (λ _=>?_)
    rw [ek]
    have hk:=(aa.1 hx).1
    obtain⟨m1,m2⟩:=A0r h u.mid hx ht
    have ha:=qX u.mid.hw (g:=G) (as:=l) (by omega) 1 hk
    refine Ok.bind (P:=λ v=>v=_) (c8 ha rfl) λ v hv=>c6 ?_
    subst hv
    have u2:=u.close h hx (by rw [ht.1];decide) m2 m1
    have hcl:=ht.2.1
    have e1:cl (Gc w k).Ae=cl w.Ae+1:=Adl _ _ (by have:=u.mid.hw.ncl;omega) (by rw [←u.mid.cl];exact hcl)
    have e2:=Adm (Gc w k).Ae
    have e3:(Gc w k).Ae.length=b.Ad.length:=u2.mid.hw.ncl
    refine⟨⟨Gc w k,_,_,rfl,u2,λ i hi hu=>Mid.mono h u.mid.hq hx m1.hq (Im h hi).1 (hl i hi hu)⟩,?_⟩
    show b.Ad.length-cl (Gc w k).Ae<b.Ad.length-cl w.Ae
    omega
   ·rw [hy]
    exact c4 (λ _=>cW ⟨w,q,l,rfl,u,hl,hno⟩) (λ hc=>by simp at hc)
  ·obtain⟨w,q,l,rfl,u,hl,hno⟩:=hz
   have hul:=u.clen
   refine (Aw1 h u.mid (by omega) G).bind λ v hv=>c5 (.inr ⟨rfl,?_⟩)
   obtain⟨w',q',l',ks,rfl,sv⟩:=hv
   refine⟨w',q',20+wt,q,l,ks,s,sv,λ n hn=>?_,λ k x hx hc hlv=>?_,λ a ha hk=>?_,λ M hM hx=>?_⟩
   ·have hn2:=Q4 hn
    rw [Ni] at hn2
    rw [sv.live n hn2]
    rw [←hG] at hno
    exact Atn h u.mid hl hno hn
   ·refine sv.more k (u.more k ?_)
    rw [←hq0]
    refine (Q2 (λ i hi=>by obtain⟨k,rfl,_⟩:=Kg.1 hi;omega) k).2 ⟨hc,λ hm=>?_⟩
    obtain⟨k',e,_,_,hs⟩:=Kg.1 hm
    have e:k=k':=by omega
    subst e
    unfold Qt at hs
    rw [Cs hx,hlv] at hs
    simp at hs
   ·rcases u.nc a ha with ha | ⟨_,ha⟩
    ·exfalso
     rw [←has0] at ha
     rcases aq.1 ha with ha | ha
     ·exact hbeg.k3 a ha hk
     ·rw [(List.mem_replicate.1 ha).2] at hk
      cases hk
    ·exact ha
   ·have h1:=sv.len
    have h2:=u.len
    have h3:=Adm q'.Ae
    have h4:=sv.mid.hq.ncl
    have h5:=hbeg.wtM M hM hx
    dsimp only
    omega
theorem Z7 (B3:Ai):∀ (idx:List Int) (ss:List Ai) (n:Nat),((Ew B3 idx ss).getD n default).Since=(ss.getD n default).Since
 | [],_,_=>rfl
 | i::idx,ss,n=>by
  show ((Ew B3 idx _).getD n default).Since=_
  rw [Z7 B3 idx,Nj]
  split
  ·rename_i e;rw [←e.1];rfl
  ·rfl
theorem Ac8 (b:Aa) (p:Ab) (n:Nat):((D_ b p).getD n default).Since=(p.Ac.getD n default).Since:=by
 have key:∀ (l:List Aj) (s:List Ai),((l.foldl (Dc p) s).getD n default).Since=(s.getD n default).Since:=by
  intro l
  induction l with
  | nil=>intro s;rfl
  | cons x l ih=>
   intro s
   rw [aY,ih]
   unfold Dc
   split
   ·rfl
   ·exact Z7 _ _ _ _
 exact key _ _
theorem Awt {s:Ap} (hs:B4 s):Ok (F7 s) λ y=>A5h y.1/\Aq y.1 y.2.1/\∀ x,x∈y.2.1.Ac->x.Since<=20:=by
 unfold F7
 refine (Aza hs).bind λ b hb=>(Awm hb.1.ok hb.2).bind λ p hp=>?_
 have h:=hb.1.ok
 have hpn:=hp.1.1.1.nso
 refine (Agh h hp.1.1.1).bind λ q hq=>c5 ⟨hb.1,hq.1,λ x hx=>?_⟩
 dsimp only at hx
 rw [hq.2.1] at hx
 obtain⟨i,hi,rfl⟩:=bP hx
 have e:(Gv b.1 p.1).Ac[i]=(D_ b.1 (Nn b.1 p.1)).getD i default:=by
  have hi2:i<(D_ b.1 (Nn b.1 p.1)).length:=hi
  rw [aZ,af hi2];rfl
 rw [e,Ac8]
 have hl:(Gv b.1 p.1).Ac.length=p.1.Ac.length:=Gt b.1 (Nn b.1 p.1)
 have:(Nn b.1 p.1).Ac.getD i default∈p.1.Ac:=by
  show p.1.Ac.getD i default∈_
  rw [aZ,af (by omega)]
  exact cF _
 have:=hp.2 _ this
 omega
theorem Fq.time {b:Aa}:∀ {l:List Ak} {q r:Ab} {t u:Int},Fq b q t l r u->t<=u
 | [],_,_,_,_,h=>by rw [h.2];exact bu _
 | a::l,_,_,_,_,h=>by
  obtain⟨s,_,_,_,_,h5⟩:=h
  have:=Fq.time h5
  split at this <;> omega
theorem A01 {b:Aa} (h:Ar b) {p q:Ab} (hp:Aq b p) {t:Int} {l:List Ak} (hl:l.length<=100000) (hg:Fq b p 20 l q t) (ht:t<=1000):F10 b p 20 l=some (q,t,(l.length:Int),0):=by
 refine cZ ?_
 unfold F10
 rw [Cm h hp,D8 h hp]
 simp only [ab]
 refine c4 (λ hc=>by simp at hc) (λ _=>?_)
 refine Ok.andThen (A:=λ z=>z=(t,q.Ae,q.Ac,q.Al,q.Ah)) (B:=λ (_:Ab×Int×Int×Int)=>False) ?_ (λ z hz=>?_) (λ _ h=>h.elim)
 ·refine c7 (I:=λ j z=>∃ (r:Ab) (u:Int),z=(u,r.Ae,r.Ac,r.Al,r.Ah)/\Aq b r/\0<=u/\Fq b r u (l.drop j) q t) ⟨p,20,rfl,hp,by omega,hg⟩ (λ j a z ha hI=>?_) λ z hI=>?_
  ·obtain⟨r,u,rfl,hr,hu,hg⟩:=hI
   have hj:=(aa.1 ha).1
   have hd:l.drop j=a::l.drop (j+1):=by
    rw [cH hj,(aa.1 ha).2]
   have htt:=hg.time
   rw [hd] at hg
   obtain⟨r',g1,g2,_,_,g5⟩:=hg
   have hact:=(Amm h hr u a).1
   rw [g1] at hact
   have e1:w64 (u+1)=u+1:=A6 (by omega)
   unfold Ako
   refine Ok.bind (P:=λ v=>v=(r',(0:Int))) (c8 (x:=(r',(0:Int))) hact rfl) λ v hv=>?_
   subst hv
   refine c4 (λ hc=>by simp at hc) (λ _=>c4 (λ hk=>c6 ?_) (λ hk=>c6 ?_))
   ·rw [if_pos (by simpa using hk)] at g5
    exact⟨r',u+1,by rw [e1],g2,by omega,g5⟩
   ·rw [if_neg (by simpa using hk)] at g5
    exact⟨r',u,rfl,g2,hu,g5⟩
  ·obtain⟨r,u,rfl,_,_,hg⟩:=hI
   rw [List.drop_length] at hg
   obtain⟨rfl,rfl⟩:=hg
   rfl
 ·subst hz
  exact c5 rfl
theorem Atp {b:Aa} (h:Ar b) (c:Int):Ok (F16 b 3 c) λ l=>l.length<=24/\l.Pairwise (· < ·)/\∀ i:Int,i∈l↔∃ (k:Nat) (x:Ag),i=(k:Int)/\b.Ad[k]? = some x/\x.Kind=3/\x.B=c:=by
 have hbl:=h.brl
 unfold F16
 rw [M8 h,X2 h]
 refine c5 ⟨?_,?_,λ i=>?_⟩
 ·show (List.map _ (List.filter (λ z:Ag×Nat=>Hv 3 c z.1) b.Ad.zipIdx)).length<=24
  have:=bh (λ z:Ag×Nat=>Hv 3 c z.1) b.Ad.zipIdx
  rw [List.length_zipIdx] at this
  rw [ax];omega
 ·unfold ofL
  rw [cL]
  have hz:b.Ad.zipIdx.Pairwise λ y z=>(y.2:Int)<z.2:=by
   rw [bT]
   intro i j hi hj hij
   rw [List.getElem_zipIdx,List.getElem_zipIdx]
   dsimp only
   omega
  exact hz.sublist cw
 ·unfold ofL
  rw [am]
  constructor
  ·rintro⟨⟨x,k⟩,hz,rfl⟩
   obtain⟨h1,h2⟩:=an.1 hz
   rw [bx] at h1
   dsimp only at h2
   rw [Agg 3 (by omega)] at h2
   simp only [ac,dy] at h2
   exact⟨k,x,rfl,h1,h2⟩
  ·rintro⟨k,x,rfl,hx,hk,hB⟩
   refine⟨(x,k),an.2 ⟨by rw [bx];exact hx,?_⟩,rfl⟩
   show Hv 3 c x=true
   rw [Agg 3 (by omega),hk,hB];simp
theorem Axh {l:List Int} (h:l.Nodup) {i j:Nat} {x:Int} (hi:l[i]? = some x) (hj:l[j]? = some x):i=j:=by
 obtain⟨h1,e1⟩:=aa.1 hi
 obtain⟨h2,e2⟩:=aa.1 hj
 rw [bS,bT] at h
 rcases bn i j with e | e | e
 ·exact absurd (e1.trans e2.symm) (h i j h1 h2 e)
 ·exact e
 ·exact absurd (e2.trans e1.symm) (h j i h2 h1 e)
theorem restoreOrder_law (t : List Int) : F3 t = some true := by
 refine cZ ?_
 unfold F3
 refine (A5f t).bind λ s hs=>(Awt hs).bind λ w hw=>?_
 obtain⟨hmk,hp,hsi⟩:=hw
 have h:=hmk.ok
 have hbu:=h.buses
 have hbb:=h.brl
 have hcol:=h.col
 refine (A06 h hp hsi).bind λ y hy=>?_
 rcases hy with hy | ⟨hy,w1,q,tt,q1,as1,ks,hpl⟩
 ·refine c4 (λ _=>?_) (λ hc=>?_)
  ·rw [Ara];exact c5 rfl
  ·rcases hy with e | e <;> rw [e] at hc <;> simp at hc
 ·rw [hy]
  refine c4 (λ hc=>by simp at hc) (λ _=>?_)
  have sv:=hpl.srv
  have um:=sv.mid
  have htm:=um.tim
  have hq:=um.hq
  have hlen:y.1.length<=1000:=by
   have:=hpl.len 600 (by omega) λ x hx=>(h.so x hx).2.2.2
   have:=h.sol
   omega
  have hrun:=A01 h hp (by omega) um.goes (by omega)
  refine Ok.bind (P:=λ v=>v=(q,tt,(y.1.length:Int),(0:Int))) (c8 (x:=(q,tt,(y.1.length:Int),(0:Int))) hrun rfl) λ v hv=>?_
  subst hv
  refine Ok.bind (P:=λ v=>v=0) (c8 (x:=(0:Int)) (H1 h hq) rfl) λ v hv=>?_
  subst hv
  refine c4 (λ hc=>?_) (λ _=>?_)
  ·exfalso
   have e1:=hq.nli
   have e2:=hq.ncl
   simp only [A4z,e1,e2,dD,Bool.or_self] at hc
   cases hc
  rw [Ans h]
  simp only [ab]
  have hol:=vY h
  have hyl:y.1=as1++ks.map λ z=>(⟨1,(z.1:Int),0⟩:Ak):=sv.acts
  have hyn:y.1.length=as1.length+ks.length:=by rw [hyl];simp
  refine Ok.andThen (A:=λ _=>True) (B:=λ (_:Bool)=>False) ?_ (λ _ _=>?_) (λ _ h=>h.elim)
  ·refine c9 (λ z=>(-1<=z.2/\z.2<(y.1.length:Int))/\∀ u,u∈ks.take ((z.2+1).toNat-as1.length)->z.1<(u.2:Int)) (λ z=>(z.2+1).toNat) _ _ ?_ ?_ ?_
   ·have e1:w64 ((y.1.length:Int)-1)=(y.1.length:Int)-1:=A6 (by omega)
    dsimp only
    rw [e1]
    exact⟨by omega,λ u _=>by omega⟩
   ·have e1:w64 ((y.1.length:Int)-1)=(y.1.length:Int)-1:=A6 (by omega)
    dsimp only
    rw [e1];omega
   ·rintro⟨pl,i⟩ ⟨⟨i0,i1⟩,hI⟩
    dsimp only at i0 i1 hI
    unfold Aqh
    dsimp only
    refine c4 (λ hq2=>?_) (λ _=>cW trivial)
    simp only [dw] at hq2
    obtain⟨i,rfl⟩:∃ k:Nat,i=(k:Int):=⟨i.toNat,by omega⟩
    have hi:i<y.1.length:=by omega
    have e1:w64 ((i:Int)-1)=(i:Int)-1:=A6 (by omega)
    have e2:((i:Int)+1).toNat=i+1:=by omega
    have e3:((i:Int)-1+1).toNat=i:=by omega
    rw [e2] at hI
    rw [e1]
    have ha:y.1[i]? = some y.1[i]:=af hi
    generalize y.1[i]=a at ha
    rw [A8 ha]
    simp only [ab]
    have nxt:(-1<=(i:Int)-1/\(i:Int)-1<(y.1.length:Int))/\∀ u,u∈ks.take (((i:Int)-1+1).toNat-as1.length)->pl<(u.2:Int):=⟨by omega,λ u hu=>hI u (by
     rw [e3] at hu
     have e:ks.take (i-as1.length)=(ks.take (i+1-as1.length)).take (i-as1.length):=by rw [cm];congr 1;omega
     rw [e] at hu
     exact aT hu)⟩
    by_cases hi1:i<as1.length
    ·have ham:a∈as1:=by
      rw [hyl,aw hi1] at ha
      exact ae ha
     refine Ok.bind (P:=λ x=>((((a.Kind==1)&&(decide (a.Unit>=0)))&&(decide (a.Unit<(w.1.Ad.length:Int)))))=true->w.1.Ad[a.Unit.toNat]? = some x) (cT (λ hh=>?_) λ hn=>λ hh=>absurd ⟨hh,trivial⟩ hn) λ x hx=>?_
     ·have hh:=hh.1
      simp only [ac,dw] at hh
      exact (cS (by omega) (by omega)).mono λ x hx _=>hx
     ·refine c4 (λ hc=>?_) (λ _=>c6 ⟨nxt,by dsimp only;omega⟩)
      exfalso
      simp only [Ayo,ac] at hc
      have hx:=hx (by simp only [ac];exact hc.1)
      have hk:a.Kind=1:=by simpa using hc.1.1.1
      exact hpl.nc a ham hk x hx (by simpa using hc.2)
    ·have hki:ks[i-as1.length]? = some (ks[i-as1.length]'(by omega)):=af (by omega)
     generalize ks[i-as1.length]'(by omega)=u at hki
     have hu:=ae hki
     have hae:a=⟨1,(u.1:Int),0⟩:=by
      rw [hyl,aB (by omega),az,hki] at ha
      exact (bz ha).symm
     obtain⟨x,hx,hk3,hox⟩:=sv.at3 u hu
     have hul:=(aa.1 hx).1
     have hml:=(aa.1 hox).1
     have hlt:=hI u (ae (i:=i-as1.length) (by rw [ap,if_pos (by omega)];exact hki))
     rw [hae]
     have ec:((((1:Int)==1)&&(decide ((u.1:Int)>=0)))&&(decide ((u.1:Int)<(w.1.Ad.length:Int))))=true:=by
      rw [dA (show (u.1:Int)>=0 by omega),dA (show (u.1:Int)<(w.1.Ad.length:Int) by omega)];rfl
     rw [ec,A8 hx,Hk]
     simp only [ab,cond_true]
     refine c4 (λ _=>?_) (λ hc=>?_)
     ·refine Ok.inner (A:=λ z=>z=(u.2:Int)) (B:=λ (_:Unit)=>False) ?_ (λ z hz=>?_) (λ _ h=>h.elim)
      ·refine c9 (λ z=>∃ m:Nat,z=(m:Int)/\m<=u.2) (λ z=>((u.2:Int)-z).toNat) _ _ ⟨0,rfl,by omega⟩ (by omega) ?_
       rintro z ⟨m,rfl,hm⟩
       unfold Aqg
       have hom:(Cc w.1)[m]? = some ((Cc w.1)[m]'(by omega)):=af (by omega)
       generalize (Cc w.1)[m]'(by omega)=c at hom
       dsimp only
       rw [A8 hom,A8 hx]
       simp only [ab]
       have e4:w64 ((m:Int)+1)=((m+1:Nat):Int):=by rw [A6 (by omega)];omega
       rw [e4]
       refine c4 (λ hne=>?_) (λ he=>cW ?_)
       ·have hne:c≠x.B:=by simpa using hne
        have:m≠u.2:=λ e=>by
         rw [e,hox] at hom
         exact hne (bz hom).symm
        exact c6 ⟨⟨m+1,rfl,by omega⟩,by omega⟩
       ·have he:c=x.B:=by simpa using he
        rw [he] at hom
        rw [Axh (Abm h) hom hox]
      ·subst hz
       refine c4 (λ hc=>?_) (λ _=>c6 ⟨⟨by dsimp only;omega,λ v hv=>?_⟩,by dsimp only;omega⟩)
       ·simp only [dw] at hc;omega
       ·dsimp only at hv ⊢
        rw [e3] at hv
        obtain⟨n,hn,rfl⟩:=bP hv
        rw [aF] at hn
        rw [List.getElem_take]
        have hd:=sv.desc
        rw [bT] at hd
        have:=hd n (i-as1.length) (by omega) (by omega) (by omega)
        have e5:ks[i-as1.length]'(by omega)=u:=(aa.1 hki).2
        rw [e5] at this
        omega
     ·exfalso
      simp only [Ayo,ec,hk3] at hc
      cases hc
  ·refine Ok.andThen (A:=λ _=>True) (B:=λ (_:Bool)=>False) ?_ (λ _ _=>by rw [Ara];exact c5 rfl) (λ _ h=>h.elim)
   refine c9 (λ z=>0<=z/\z<=(w.1.Af.length:Int)) (λ z=>(100-z).toNat) _ _ ⟨by omega,by omega⟩ (by omega) ?_
   rintro z ⟨z0,z1⟩
   unfold Aqf A4y
   refine c4 (λ hq2=>?_) (λ _=>cW trivial)
   simp only [dw] at hq2
   obtain⟨c,rfl⟩:∃ k:Nat,z=(k:Int):=⟨z.toNat,by omega⟩
   have hc:c<w.1.Af.length:=by omega
   have e1:w64 ((c:Int)+1)=(c:Int)+1:=A6 (by omega)
   have nxt:(0<=(c:Int)+1/\(c:Int)+1<=(w.1.Af.length:Int))/\(100-((c:Int)+1)).toNat<(100-(c:Int)).toNat:=by omega
   rw [e1]
   have f1:F13 w.1 w.2.1 (c:Int)=some (Dd (By w.1 w.2.1 3 (c:Int))):=X8 h hp (by omega) (by omega)
   have f2:F13 w.1 q (c:Int)=some (Dd (By w.1 q 3 (c:Int))):=X8 h hq (by omega) (by omega)
   rw [f1]
   simp only [ab]
   refine Ok.bind (P:=λ v=>v=Dd (By w.1 q 3 (c:Int))) (c8 (x:=Dd (By w.1 q 3 (c:Int))) f2 rfl) λ v hv=>?_
   subst hv
   refine Ok.bind (P:=λ v=>(((Dd (By w.1 w.2.1 3 (c:Int))).2&&v) && !(Dd (By w.1 q 3 (c:Int))).2)=false) ?_ λ v hv=>?_
   ·cases hl:By w.1 w.2.1 3 (c:Int) with
    | none=>exact d5 (λ hh=>absurd hh.1 (by simp [Dd])) λ _=>by simp [Dd]
    | some a=>
     have hab:=Ja h hl
     obtain⟨k,x,g1,g2,g3,g4,g5⟩:=(Ds hp hc).1 hl
     have hlv:=T3 h hp (n:=a.toNat) (by omega)
     rw [aK hab.1] at hlv
     refine c8 (x:=A2 w.1 w.2.1 a.toNat) (by show F14 w.1 w.2.1 a=_;exact hlv) ?_
     cases hlv2:A2 w.1 w.2.1 a.toNat with
     | false=>simp
     | true=>
      have:=hpl.keep k x g1 g4 (by rw [g5];exact hlv2)
      have:=(Ds hq hc).2 ⟨k,x,g1,g2,g3,this,rfl⟩
      rw [this];simp [Dd]
   refine c4 (λ hc2=>by rw [hv] at hc2;cases hc2) (λ _=>?_)
   have hb4:F15 q 4 (c:Int)=some (brk w.2.1.Ah 4 (c:Int)):=by rw [Lc,um.bq]
   cases hl:By w.1 q 3 (c:Int) with
   | some a=>
    refine Ok.bind (P:=λ _=>True) (d5 (λ hh=>absurd hh.1 (by simp [Dd])) λ _=>trivial) λ v _=>?_
    exact c6 nxt
   | none=>
    refine Ok.bind (P:=λ v=>v=brk w.2.1.Ah 4 (c:Int)) (c8 (x:=brk w.2.1.Ah 4 (c:Int)) hb4 rfl) λ v hv=>?_
    subst hv
    cases h4:brk w.2.1.Ah 4 (c:Int) with
    | true=>exact c6 nxt
    | false=>
     have hsat:∀ k x,Aeb w.1 w.2.1 q (c:Int) k x->Cg w.1 q x.A.toNat<Bm w.1 q x.A.toNat+q.Al.getD c 0:=by
      obtain⟨m,hm⟩:=cR.1 ((vX h (m:=(c:Int))).2 ⟨by omega,by omega⟩)
      rcases sv.sat m _ hm (by omega) with e | e | e
      ·exact absurd hl e
      ·rw [h4] at e;cases e
      ·exact e
     refine (Atp h (c:Int)).bind λ L hL=>?_
     obtain⟨hL1,hL2,hL3⟩:=hL
     refine Ok.inner (A:=λ _=>True) (B:=λ (_:Bool)=>False) ?_ (λ _ _=>c6 nxt) (λ _ h=>h.elim)
     refine c7 (I:=λ j _=>∀ i (k:Nat) x,i<j->L[i]? = some (k:Int)->¬Kd w.1 w.2.1 q (c:Int) k x) (λ i k x hi=>by omega) (λ j a s ha hI=>?_) λ _ _=>trivial
     obtain⟨k,x,rfl,hx,hk3,hB⟩:=(hL3 a).1 (ae ha)
     have hA:=(Db h hx).1
     have eA:x.A=((x.A.toNat:Nat):Int):=by omega
     have hj:=(aa.1 ha).1
     have nx2:¬Kd w.1 w.2.1 q (c:Int) k x->∀ i (k:Nat) x,i<j+1->L[i]? = some (k:Int)->¬Kd w.1 w.2.1 q (c:Int) k x:=λ hn i k' x' hi hki=>by
      by_cases e:i=j
      ·subst e
       rw [ha] at hki
       have e:k=k':=by have:=bz hki;omega
       subst e
       intro hc'
       have:=hc'.1
       rw [hx] at this;cases this
       exact hn hc'
      ·exact hI i k' x' (by omega) hki
     unfold Aqe
     rw [A8 hx]
     simp only [ab]
     have b2:F15 q 2 (k:Int)=some (brk w.2.1.Ah 2 (k:Int)):=by rw [Lc,um.bq]
     have b3:F15 q 3 x.A=some (brk w.2.1.Ah 3 x.A):=by rw [Lc,um.bq]
     have lv1:=T3 h hq (n:=x.A.toNat) (by omega)
     rw [←eA] at lv1
     refine Ok.bind (P:=λ v=>v=brk w.2.1.Ah 2 (k:Int)) (c8 (x:=brk w.2.1.Ah 2 (k:Int)) b2 rfl) λ v hv=>?_
     subst hv
     rw [b3,lv1]
     rw [T_]
     simp only [ab]
     rw [T_]
     simp only [ab]
     have hso:B0 w.1 w.2.1.Ah (k:Int)=(!brk w.2.1.Ah 2 (k:Int) && !brk w.2.1.Ah 3 x.A):=by
      unfold B0
      rw [ai,Cs hx]
      dsimp only
      rw [hk3]
      simp
     refine c4 (λ hq3=>c6 (nx2 λ hcd=>?_)) (λ hq3=>?_)
     ·have c1:=hcd.2.2.1
      have c2:=hcd.2.2.2
      rw [hso] at c1
      simp only [ac,aC] at c1
      rw [c1.1,c1.2,c2] at hq3
      simp at hq3
     ·have hcd:Kd w.1 w.2.1 q (c:Int) k x:=by
       refine⟨hx,⟨hk3,hB⟩,?_,?_⟩
       ·rw [hso]
        revert hq3
        cases brk w.2.1.Ah 2 (k:Int) <;> cases brk w.2.1.Ah 3 x.A <;> simp
       ·revert hq3
        cases brk w.2.1.Ah 2 (k:Int) <;> cases brk w.2.1.Ah 3 x.A <;> cases A2 w.1 q x.A.toNat <;> simp
      have hfi:Aeb w.1 w.2.1 q (c:Int) k x:=⟨hcd,λ k' x' hk' hc'=>by
       obtain⟨i,hi⟩:=cR.1 ((hL3 (k':Int)).2 ⟨k',x',rfl,hc'.1,hc'.2.1.1,hc'.2.1.2⟩)
       have hil:=(aa.1 hi).1
       refine hI i k' x' ?_ hi hc'
       rw [bT] at hL2
       have e1:=(aa.1 hi).2
       have e2:=(aa.1 ha).2
       rcases bn i j with e | e | e
       ·exact e
       ·subst e
        rw [e1] at e2
        omega
       ·have:=hL2 j i hj hil e
        rw [e1,e2] at this
        omega⟩
      have hlt:=hsat k x hfi
      obtain⟨_,l2,l3⟩:=V_ h hq (n:=x.A.toNat) (by omega)
      have l1:=Abo h hq (n:=x.A.toNat) (by omega)
      have r1:=Xc h hq (n:=x.A.toNat) (by omega)
      rw [←eA] at l1 r1
      obtain⟨d1,d2,d3,d4⟩:=O5 h hq (c:=(c:Int)) (by omega) (by omega)
      rw [ai] at d1 d2 d4
      rw [l1,d1,r1]
      simp only [ab]
      rw [A6 (by omega)]
      refine c4 (λ hle=>?_) (λ _=>cW trivial)
      simp only [dw] at hle
      omega
end Go.Proofs.YtcigbocngfaopaaGreat
