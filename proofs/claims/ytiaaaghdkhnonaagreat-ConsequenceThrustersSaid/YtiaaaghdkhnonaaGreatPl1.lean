import Derived.Test.YtiaaaghdkhnonaaGreatPl0
namespace Go.Proofs.YtiaaaghdkhnonaaGreat
open Go.SL
theorem T9 {b:Aa} {p:Ad} (hp:Av b p) {j:Nat} (hj:j<b.Ah.length):p.Ai[j]? = some (p.Ai.getD j false):=by
 have:=hp.ncl
 rw [ai (by omega)];simp [List.getD,List.getElem?_eq_getElem (show j<p.Ai.length by omega)]
theorem A0q {b:Aa} {j:Nat} {x:Ak} (hx:b.Ah[j]? = some x):b.Ah.getD j default=x:=by simp [List.getD,hx]
def Ey (p:Ad) (x:Ak):Bool:=
 brk p.Al 3 x.A || (if x.Kind=1 then brk p.Al 3 x.B else if x.Kind=2 then brk p.Al 1 x.B || ((p.Ae.getD x.B.toNat default).State != 2) else brk p.Al 4 x.B)
theorem Av0 {b:Aa} {p:Ad} (hp:Av b p) (k n:Int) (acts:List Aw):N9 k n ⟨b,p,acts⟩=some (brk p.Al k n,⟨b,p,acts⟩):=by
 have:=hp.brk.len
 unfold N9
 rw [Gy (by dsimp only;omega)];rfl
theorem Amz {b:Aa} (h:Ax b) {p:Ad} (hp:Av b p) (acts:List Aw) {x:Ak} (hx:x∈b.Ah):Y9 ⟨b,p,acts⟩ x=some (Ey p x,⟨b,p,acts⟩):=by
 have hbr:=(h.br x hx).2
 have hns:=hp.nso
 unfold Y9 Ey
 simp only [Av0 hp,ac]
 cases brk p.Al 3 x.A with
 | true=>rfl
 | false=>
  simp only [cond_false,aV]
  rcases hbr with⟨hk,_⟩ | ⟨hk,h0,h1⟩ | ⟨hk,_⟩
  ·rw [hk];rfl
  ·rw [hk]
   have e:p.Ae[x.B.toNat]? = some (p.Ae.getD x.B.toNat default):=by
    rw [ai (by omega)];simp [List.getD,List.getElem?_eq_getElem (show x.B.toNat<p.Ae.length by omega)]
   have e2:getI p.Ae x.B=some (p.Ae.getD x.B.toNat default):=by
    unfold getI;rw [dJ h0];exact e
   rw [e2]
   cases brk p.Al 1 x.B <;> rfl
  ·rw [hk];rfl
def Ef (b:Aa) (C:List Bool) (q:Ak->Bool) (n:Nat):List Int:=((List.range n).filter λ i=>C.getD i false&&q (b.Ah.getD i default)).map λ (i:Nat)=>(i:Int)
theorem Mu {b:Aa} {C:List Bool} {q:Ak->Bool} {n:Nat} {i:Int}:i∈Ef b C q n↔∃ k:Nat,i=(k:Int)/\k<n/\C.getD k false=true/\q (b.Ah.getD k default)=true:=by
 unfold Ef
 simp only [ao,ax,aY,ab]
 constructor
 ·rintro⟨k,⟨h1,h2,h3⟩,rfl⟩;exact⟨k,rfl,h1,h2,h3⟩
 ·rintro⟨k,rfl,h1,h2,h3⟩;exact⟨k,⟨h1,h2,h3⟩,rfl⟩
theorem Hf (b:Aa) (C:List Bool) (q:Ak->Bool) (n:Nat):(Ef b C q n).length<=n:=E9 _ n
def Je (C:List Bool) (l:List Int):List Bool:=l.foldl (λ c i=>c.set i.toNat false) C
def Mr (l:List Int):List Aw:=l.map λ i=>⟨2,i,0⟩
theorem vU:∀ (l:List Int) (C:List Bool),(Je C l).length=C.length
 | [],_=>rfl
 | i::l,C=>by
  show (Je (C.set i.toNat false) l).length=_
  rw [vU l];simp
theorem Aih (C:List Bool) (l:List Int) (i:Int):Je C (l++[i])=(Je C l).set i.toNat false:=by
 unfold Je;rw [ba];rfl
theorem Aa5 {b:Aa}:∀ (l:List Int) {p:Ad},Av b p->Av b ⟨Je p.Ai l,p.Ae,p.An,p.Al⟩
 | [],_,hp=>hp
 | i::l,p,hp=>Aa5 l (p:=⟨p.Ai.set i.toNat false,p.Ae,p.An,p.Al⟩) (Aii hp i.toNat)
theorem Aqq {b:Aa} {p:Ad} {acts:List Aw} (ha:acts.length<=1000000) {i:Int} (h0:0<=i) (h1:i<p.Ai.length):Qe ⟨b,p,acts⟩ i=some ⟨b,⟨p.Ai.set i.toNat false,p.Ae,p.An,p.Al⟩,acts++[⟨2,i,0⟩]⟩:=by
 refine d5 ?_
 unfold Qe
 refine (cV h0 h1).bind λ _ _=>(cY h0 h1).bind λ y hy=>(cW (by simp;omega)).bind λ z hz=>Ok.pure ?_
 rw [hy,hz]
theorem Wv {b:Aa} {p:Ad} {acts:List Aw} {l:List Int} (ha:acts.length+l.length<=1000000) (hl:∀ i,i∈l->0<=i/\i<p.Ai.length) :
  Ok (foldI Uv l 0 (b.Am,b.Ah,b.Ae,b.Ag,b.Phase,b.Aq,p.Ai,p.Ae,p.An,p.Al,acts)) (Eo (λ s=>s=(b.Am,b.Ah,b.Ae,b.Ag,b.Phase,b.Aq,Je p.Ai l,p.Ae,p.An,p.Al,acts++Mr l)) λ (_:Unit)=>False):=by
 refine c8 (I:=λ j s=>s=(b.Am,b.Ah,b.Ae,b.Ag,b.Phase,b.Aq,Je p.Ai (l.take j),p.Ae,p.An,p.Al,acts++Mr (l.take j))) (by simp [Je,Mr]) (λ j i s hi hs=>?_) λ s hs=>?_
 ·have hj:=(aa.1 hi).1
  have hin:=hl i (ae hi)
  subst hs
  unfold Uv
  have e:=Aqq (b:=b) (p:=⟨Je p.Ai (l.take j),p.Ae,p.An,p.Al⟩) (acts:=acts++Mr (l.take j)) (by simp [Mr];omega) hin.1 (by rw [vU];exact hin.2)
  refine Ok.bind (P:=λ y=>y=_) (cU e rfl) λ y hy=>c7 ?_
  subst hy
  rw [Bp hi,Aih]
  simp [Mr]
 ·rw [aB] at hs;exact hs
def acA (b:Aa) (C:List Bool) (q:Ak->Bool):List Aw:=Mr (Ef b C q b.Ah.length)
def acC (b:Aa) (C:List Bool) (q:Ak->Bool):List Bool:=Je C (Ef b C q b.Ah.length)
theorem Vy (b:Aa) (C:List Bool) (q:Ak->Bool):(acA b C q).length<=b.Ah.length:=by
 unfold acA Mr
 rw [au];exact Hf b C q _
theorem Adb {b:Aa} {p:Ad} (hp:Av b p) (q:Ak->Bool):Av b ⟨acC b p.Ai q,p.Ae,p.An,p.Al⟩:=Aa5 _ hp
theorem Rb {b:Aa} {C:List Bool} {q:Ak->Bool} {j:Nat} {x:Ak} (hx:b.Ah[j]? = some x):Ef b C q (j+1)=Ef b C q j++if (C.getD j false&&q x)=true then [(j:Int)] else []:=by
 unfold Ef
 rw [Gv,A0q hx]
theorem Alc {b:Aa} (h:Ax b) {p:Ad} (hp:Av b p) {acts:List Aw} (ha:acts.length<=1000):Zb ⟨b,p,acts⟩=some ⟨b,⟨acC b p.Ai (Ey p),p.Ae,p.An,p.Al⟩,acts++acA b p.Ai (Ey p)⟩:=by
 have hbl:=h.brl
 have hnc:=hp.ncl
 refine d5 ?_
 unfold Zb
 refine Ok.andThen (A:=λ s=>s=(b.Am,b.Ah,b.Ae,b.Ag,b.Phase,b.Aq,Ef b p.Ai (Ey p) b.Ah.length,p.Ai,p.Ae,p.An,p.Al,acts)) (B:=λ (_:Unit)=>False) ?_ (λ s hs=>?_) (λ _ h=>h.elim)
 ·refine c8 (I:=λ j s=>s=(b.Am,b.Ah,b.Ae,b.Ag,b.Phase,b.Aq,Ef b p.Ai (Ey p) j,p.Ai,p.Ae,p.An,p.Al,acts)) rfl (λ j x s hx hs=>?_) λ s hs=>hs
  have hj:j<b.Ah.length:=(aa.1 hx).1
  have hfl:=Hf b p.Ai (Ey p) j
  have hfs:=Rb (C:=p.Ai) (q:=Ey p) hx
  subst hs
  unfold zA
  rw [Cw (by omega),By (T9 hp hj)]
  simp only [ac]
  have hd:=Amz h hp acts (ae hx)
  cases hC:p.Ai.getD j false with
  | false=>
   rw [hC] at hfs
   refine c7 ?_
   rw [hfs];simp
  | true=>
   rw [hC] at hfs
   refine Ok.bind (P:=λ y=>y=(Ey p x,(⟨b,p,acts⟩:A2))) (cU hd rfl) λ y hy=>?_
   subst hy
   cases hq:Ey p x with
   | false=>
    rw [hq] at hfs
    refine c7 ?_
    rw [hfs];simp
   | true=>
    rw [hq] at hfs
    refine Ok.bind (P:=λ y=>y=Ef b p.Ai (Ey p) j++[(j:Int)]) (cW (by simp;omega)) λ y hy=>c7 ?_
    rw [hy,hfs];simp
 ·subst hs
  have hfl:=Hf b p.Ai (Ey p) b.Ah.length
  refine Ok.andThen (Wv (b:=b) (p:=p) (acts:=acts) (l:=Ef b p.Ai (Ey p) b.Ah.length) (by omega) λ i hi=>?_) (λ s hs=>?_) (λ _ h=>h.elim)
  ·obtain⟨k,rfl,hk,_⟩:=Mu.1 hi
   omega
  ·subst hs
   exact Ok.pure rfl
def Gx (b:Aa) (p:Ad) (x:Ak):Bool:=x.Kind==3 && !Is b p x.A.toNat
theorem Avu {b:Aa} (h:Ax b) {p:Ad} (hp:Av b p) (acts:List Aw) {x:Ak} (hx:x∈b.Ah):Y8 x ⟨b,p,acts⟩=some (Gx b p x,⟨b,p,acts⟩):=by
 have hA:=(h.br x hx).1
 have hl:=Agd h hp (n:=x.A.toNat) (by omega)
 rw [bF hA.1] at hl
 unfold Y8 Gx
 rw [hl]
 cases x.Kind==3 <;> rfl
theorem Alb {b:Aa} (h:Ax b) {p:Ad} (hp:Av b p) {acts:List Aw} (ha:acts.length<=1000):Za ⟨b,p,acts⟩=some ⟨b,⟨acC b p.Ai (Gx b p),p.Ae,p.An,p.Al⟩,acts++acA b p.Ai (Gx b p)⟩:=by
 have hbl:=h.brl
 have hnc:=hp.ncl
 refine d5 ?_
 unfold Za
 refine Ok.andThen (A:=λ s=>s=(b.Am,b.Ah,b.Ae,b.Ag,b.Phase,b.Aq,Ef b p.Ai (Gx b p) b.Ah.length,p.Ai,p.Ae,p.An,p.Al,acts)) (B:=λ (_:Unit)=>False) ?_ (λ s hs=>?_) (λ _ h=>h.elim)
 ·refine c8 (I:=λ j s=>s=(b.Am,b.Ah,b.Ae,b.Ag,b.Phase,b.Aq,Ef b p.Ai (Gx b p) j,p.Ai,p.Ae,p.An,p.Al,acts)) rfl (λ j x s hx hs=>?_) λ s hs=>hs
  have hj:j<b.Ah.length:=(aa.1 hx).1
  have hfl:=Hf b p.Ai (Gx b p) j
  have hfs:=Rb (C:=p.Ai) (q:=Gx b p) hx
  subst hs
  unfold yZ
  rw [Cw (by omega),By (T9 hp hj)]
  simp only [ac]
  have hd:=Avu h hp acts (ae hx)
  cases hC:p.Ai.getD j false with
  | false=>
   rw [hC] at hfs
   refine c7 ?_
   rw [hfs];simp
  | true=>
   rw [hC] at hfs
   refine Ok.bind (P:=λ y=>y=(Gx b p x,(⟨b,p,acts⟩:A2))) (cU hd rfl) λ y hy=>?_
   subst hy
   cases hq:Gx b p x with
   | false=>
    rw [hq] at hfs
    refine c7 ?_
    rw [hfs];simp
   | true=>
    rw [hq] at hfs
    refine Ok.bind (P:=λ y=>y=Ef b p.Ai (Gx b p) j++[(j:Int)]) (cW (by simp;omega)) λ y hy=>c7 ?_
    rw [hy,hfs];simp
 ·subst hs
  have hfl:=Hf b p.Ai (Gx b p) b.Ah.length
  refine Ok.andThen (Wv (b:=b) (p:=p) (acts:=acts) (l:=Ef b p.Ai (Gx b p) b.Ah.length) (by omega) λ i hi=>?_) (λ s hs=>?_) (λ _ h=>h.elim)
  ·obtain⟨k,rfl,hk,_⟩:=Mu.1 hi
   omega
  ·subst hs
   exact Ok.pure rfl
def T8 (b:Aa) (p:Ad):Ad:=⟨acC b p.Ai (Ey p),p.Ae,p.An,p.Al⟩
def Arw (b:Aa) (p:Ad):Ad:=⟨acC b (T8 b p).Ai (Gx b (T8 b p)),p.Ae,p.An,p.Al⟩
def T7 (b:Aa) (p:Ad):Ad:=⟨(Arw b p).Ai,Fp b (Arw b p),p.An,p.Al⟩
def Xa (b:Aa) (p:Ad):List Aw:=acA b p.Ai (Ey p)++acA b (T8 b p).Ai (Gx b (T8 b p))
theorem Agn {b:Aa} {p:Ad} (hp:Av b p):Av b (T8 b p):=Adb hp _
theorem qQ {b:Aa} {p:Ad} (hp:Av b p):Av b (Arw b p):=Adb (Agn hp) _
theorem Agm {b:Aa} {p:Ad} (hp:Av b p):Av b (T7 b p):=Ka (qQ hp) (Iw b _) (Rc (qQ hp))
theorem Acj (b:Aa) (p:Ad):(Xa b p).length<=2*b.Ah.length:=by
 have h1:=Vy b p.Ai (Ey p)
 have h2:=Vy b (T8 b p).Ai (Gx b (T8 b p))
 unfold Xa
 rw [aF];omega
theorem Ary {b:Aa} (h:Ax b) {p:Ad} (hp:Av b p):Zj ⟨b,p,[]⟩=some ⟨b,T7 b p,Xa b p⟩:=by
 have hbl:=h.brl
 have hl:=Vy b p.Ai (Ey p)
 unfold Zj
 rw [Alc h hp (by simp)]
 simp only [ac,List.nil_append]
 have e2:=Alb h (Agn hp) (acts:=acA b p.Ai (Ey p)) (by omega)
 have e3:=Tm h (qQ hp)
 refine d5 ?_
 refine Ok.bind (P:=λ y=>y=_) (cU e2 rfl) λ y hy=>?_
 subst hy
 refine Ok.bind (P:=λ y=>y=_) (cU e3 rfl) λ y hy=>?_
 subst hy
 exact Ok.pure rfl
def key (b:Aa) (c:Int):Int:=(b.Ag.getD c.toNat default).Bz*100+c
theorem Tl {l:List Int} {m k:Nat} {v:Int}:(l.set m v).getD k 0=if m=k/\m<l.length then v else l.getD k 0:=by
 simp only [List.getD,ay]
 by_cases e:m=k
 ·subst e
  by_cases hl:m<l.length
  ·simp [hl]
  ·simp [hl]
 ·simp [e]
theorem Tk {l:List Int} {k:Nat} (h:k<l.length):getI l (k:Int)=some (l.getD k 0):=By (by
 rw [ai h];simp [List.getD,List.getElem?_eq_getElem h])
structure Srt (b:Aa) (n i:Nat) (d:List Int):Prop where
 len:d.length=n
 low:∀ k,k<i->k<n->0<=d.getD k 0/\d.getD k 0<(i:Int)
 asc:∀ k m,k<m->m<i->m<n->key b (d.getD k 0)<key b (d.getD m 0)
 rest:∀ k,i<=k->k<n->d.getD k 0=(k:Int)
 mem:∀ v,v<n->∃ k,k<n/\d.getD k 0=(v:Int)
structure Ins (b:Aa) (n i j:Nat) (d:List Int):Prop where
 len:d.length=n
 here:d.getD j 0=(i:Int)
 low:∀ k,k<=i->k≠j->0<=d.getD k 0/\d.getD k 0<(i:Int)
 asc:∀ k m,k<m->m<=i->k≠j->m≠j->key b (d.getD k 0)<key b (d.getD m 0)
 big:∀ k,j<k->k<=i->key b (i:Int)<key b (d.getD k 0)
 rest:∀ k,i<k->k<n->d.getD k 0=(k:Int)
 mem:∀ v,v<n->∃ k,k<n/\d.getD k 0=(v:Int)
theorem Srt.ins {b:Aa} {n i:Nat} {d:List Int} (h:Srt b n i d) (hi:i<n):Ins b n i i d where
 len:=h.len
 here:=h.rest i (af _) hi
 low k hk hne:=h.low k (by omega) (by omega)
 asc k m hkm hm hk hm2:=h.asc k m hkm (by omega) (by omega)
 big k h1 h2:=by omega
 rest k h1 h2:=h.rest k (by omega) h2
 mem:=h.mem
theorem Ins.done {b:Aa} {n i j:Nat} {d:List Int} (h:Ins b n i j d) (hj:j<=i) (hk:0<j->key b (d.getD (j-1) 0)<key b (i:Int)):Srt b n (i+1) d:=by
 refine⟨h.len,λ k h1 h2=>?_,λ k m hkm hm hn=>?_,λ k h1 h2=>h.rest k (by omega) h2,h.mem⟩
 ·by_cases e:k=j
  ·rw [e,h.here];omega
  ·have:=h.low k (by omega) e
   omega
 ·have lo:∀ k,k<j->key b (d.getD k 0)<key b (i:Int):=λ k hkj=>by
   have h3:=hk (by omega)
   by_cases e:k=j-1
   ·rw [e];exact h3
   ·have:=h.asc k (j-1) (by omega) (by omega) (by omega) (by omega)
    omega
  by_cases e:k=j
  ·subst e
   rw [h.here]
   exact h.big m hkm (by omega)
  ·by_cases e2:m=j
   ·subst e2
    rw [h.here]
    exact lo k hkm
   ·exact h.asc k m hkm (by omega) e e2
theorem Ins.step {b:Aa} {n i j:Nat} {d:List Int} (h:Ins b n i j d) (hj:j<=i) (h0:0<j) (hi:i<n) (hk:key b (i:Int)<key b (d.getD (j-1) 0)):Ins b n i (j-1) ((d.set j (d.getD (j-1) 0)).set (j-1) (i:Int)):=by
 have hl:=h.len
 have ev:∀ k,((d.set j (d.getD (j-1) 0)).set (j-1) (i:Int)).getD k 0=if k=j-1 then (i:Int) else if k=j then d.getD (j-1) 0 else d.getD k 0:=λ k=>by
  rw [Tl,Tl,bn]
  by_cases e1:k=j-1
  ·have c1:j-1=k/\j-1<d.length:=⟨e1.symm,by omega⟩
   rw [if_pos c1,if_pos e1]
  ·have c1:¬(j-1=k/\j-1<d.length):=λ hh=>e1 hh.1.symm
   rw [if_neg c1,if_neg e1]
   by_cases e2:k=j
   ·have c2:j=k/\j<d.length:=⟨e2.symm,by omega⟩
    rw [if_pos c2,if_pos e2]
   ·have c2:¬(j=k/\j<d.length):=λ hh=>e2 hh.1.symm
    rw [if_neg c2,if_neg e2]
 refine⟨by simp [hl],?_,λ k h1 h2=>?_,λ k m hkm hm hk1 hm1=>?_,λ k h1 h2=>?_,λ k h1 h2=>?_,λ v hv=>?_⟩
 ·rw [ev,if_pos rfl]
 ·rw [ev,if_neg h2]
  split
  ·exact h.low (j-1) (by omega) (by omega)
  ·exact h.low k h1 (by omega)
 ·rw [ev,ev,if_neg hk1,if_neg hm1]
  by_cases e1:k=j
  ·rw [if_pos e1,if_neg (by omega)]
   subst e1
   exact h.asc (k-1) m (by omega) hm (by omega) (by omega)
  ·rw [if_neg e1]
   by_cases e2:m=j
   ·rw [if_pos e2]
    exact h.asc k (j-1) (by omega) (by omega) e1 (by omega)
   ·rw [if_neg e2]
    exact h.asc k m hkm hm e1 e2
 ·rw [ev,if_neg (by omega)]
  split
  ·exact hk
  ·exact h.big k (by omega) h2
 ·rw [ev,if_neg (by omega),if_neg (by omega)]
  exact h.rest k h1 h2
 ·obtain⟨k,hk1,hk2⟩:=h.mem v hv
  by_cases e1:k=j
  ·refine⟨j-1,by omega,?_⟩
   rw [ev,if_pos rfl,←hk2,e1,h.here]
  ·by_cases e2:k=j-1
   ·refine⟨j,by omega,?_⟩
    rw [ev,if_neg (by omega),if_pos rfl,←hk2,e2]
   ·refine⟨k,hk1,?_⟩
    rw [ev,if_neg e2,if_neg e1];exact hk2
theorem Alq {b:Aa} {x y:Nat} (hx:x<b.Ag.length) (hy:y<b.Ag.length):Qd (x:Int) (y:Int) b=some (if (b.Ag.getD x default).Bz<(b.Ag.getD y default).Bz then -1 else if (b.Ag.getD x default).Bz>(b.Ag.getD y default).Bz then 1 else 0):=by
 unfold Qd
 rw [By (Gf hx),By (Gf hy)]
 simp only [ac,N2]
theorem Arb {b:Aa} (h:Ax b) {i:Nat} (hi:i<b.Ag.length) {d:List Int} (hd:Ins b b.Ag.length i i d) :
  Ok (whileN (Uj 0 b) 1152921504606846976 ((i:Int),d)) (Eo (λ s=>Srt b b.Ag.length (i+1) s.2) λ (_:Unit)=>False):=by
 have hcl:=h.col
 refine c9 (λ s=>∃ j:Nat,s.1=(j:Int)/\j<=i/\Ins b b.Ag.length i j s.2) (λ s=>s.1.toNat) _ _ ⟨i,rfl,af _,hd⟩ (by dsimp only;omega) ?_
 rintro⟨z,d⟩ ⟨j,hz,hj,hI⟩
 dsimp only at hz hI
 subst hz
 have hl:=hI.len
 unfold Uj
 dsimp only
 by_cases h0:0<j
 ·have e1:decide ((j:Int)>0)=true:=dJ (by omega)
  have e2:w64 ((j:Int)-1)=((j-1:Nat):Int):=by rw [A0 (by omega)];omega
  have hlow:=hI.low (j-1) (by omega) (by omega)
  obtain⟨v,hv⟩:∃ v:Nat,d.getD (j-1) 0=(v:Int):=⟨(d.getD (j-1) 0).toNat,by omega⟩
  have hvi:v<i:=by omega
  have ec:=Alq (b:=b) hi (show v<b.Ag.length by omega)
  have g1:Ar [(decide ((j:Int)>0),true)] (getI d (j:Int)) default=some (i:Int):=by
   rw [e1,Tk (by omega),hI.here];rfl
  have g2:Ar [(decide ((j:Int)>0),true)] (getI d (w64 ((j:Int)-1))) default=some (v:Int):=by
   rw [e1,e2,Tk (by omega),hv];rfl
  rw [g1,g2]
  simp only [ac]
  have g3:Ar [(decide ((j:Int)>0),true)] (Qd (i:Int) (v:Int) b) default=Qd (i:Int) (v:Int) b:=by rw [e1];rw [ec];rfl
  rw [g3,ec]
  simp only [ac]
  have hci:=h.co i _ (Gf hi)
  have hcv:=h.co v _ (Gf (show v<b.Ag.length by omega))
  have ki:key b (i:Int)=(b.Ag.getD i default).Bz*100+(i:Int):=by unfold key;rw [aE]
  have kv:key b (v:Int)=(b.Ag.getD v default).Bz*100+(v:Int):=by unfold key;rw [aE]
  refine c6 (λ hq=>?_) (λ hq=>?_)
  ·simp only [Xb,ab,dE] at hq
   have hlt:(b.Ag.getD i default).Bz<(b.Ag.getD v default).Bz:=by
    have:=hq.2
    split at this
    ·assumption
    ·split at this <;> omega
   have e3:getI d (w64 ((j:Int)-1))=some (d.getD (j-1) 0):=by rw [e2,Tk (by omega)]
   have e4:getI d (j:Int)=some (i:Int):=by rw [Tk (by omega),hI.here]
   rw [e3,e4]
   simp only [ac]
   rw [e2,Wq (by omega)]
   simp only [ac]
   rw [Tk (by rw [bn];omega)]
   simp only [ac]
   rw [Wq (by rw [bn];omega)]
   simp only [ac]
   refine c7 ⟨⟨j-1,rfl,by omega,hI.step hj h0 hi ?_⟩,by dsimp only;omega⟩
   rw [hv,ki,kv];omega
  ·refine cX (hI.done hj λ _=>?_)
   simp only [Xb,ch,dF] at hq
   have hge:¬(b.Ag.getD i default).Bz<(b.Ag.getD v default).Bz:=by
    intro hlt
    rw [if_pos hlt] at hq
    omega
   rw [hv,ki,kv];omega
 ·have h00:j=0:=by omega
  subst h00
  exact cX (hI.done hj λ hh=>by omega)
theorem Auu {b:Aa} (h:Ax b) {d:List Int} (hd:Srt b b.Ag.length 0 d):Ok (Y6 d b) λ y=>Srt b b.Ag.length b.Ag.length y.1:=by
 have hcl:=h.col
 have hl:=hd.len
 unfold Y6 Ady
 rw [hl]
 refine Ok.bind (P:=λ y=>Srt b b.Ag.length b.Ag.length y.1) ?_ λ y hy=>Ok.pure hy
 refine Ok.andThen (A:=λ s=>s=((0:Int),(20:Int),d,b.Am,b.Ah,b.Ae,b.Ag,b.Phase,b.Aq)) (B:=λ (_:Unit)=>False) ?_ (λ s hs=>?_) (λ _ h=>h.elim)
 ·refine c9 (λ s=>s=((0:Int),(20:Int),d,b.Am,b.Ah,b.Ae,b.Ag,b.Phase,b.Aq)) (λ _=>0) _ _ rfl (by omega) ?_
  intro s hs
  subst hs
  unfold yT
  dsimp only
  refine c6 (λ hq=>?_) (λ _=>cX rfl)
  simp only [dE] at hq
  omega
 ·subst hs
  dsimp only
  refine Ok.bind (P:=λ y=>Srt b b.Ag.length b.Ag.length y.1) ?_ λ y hy=>?_
  ·unfold Y3
   have e1:w64 (0+1)=1:=by rw [A0 (by omega)];rfl
   rw [e1]
   refine Ok.andThen (A:=λ s=>Srt b b.Ag.length b.Ag.length s.2) (B:=λ (_:Unit)=>False) ?_ (λ s hs=>Ok.pure hs) (λ _ h=>h.elim)
   refine c9 (λ s=>∃ i:Nat,s.1=(i:Int)/\1<=i/\(i<=b.Ag.length\/b.Ag.length=0)/\Srt b b.Ag.length i s.2) (λ s=>(100-s.1).toNat) _ _ ⟨1,rfl,by omega,by omega,?_⟩ (by dsimp only;omega) ?_
   ·refine⟨hl,λ k h1 h2=>?_,λ k m h1 h2 h3=>by omega,λ k h1 h2=>hd.rest k (by omega) h2,hd.mem⟩
    have:k=0:=by omega
    subst this
    have:=hd.rest 0 (af _) h2
    dsimp only
    rw [this];omega
   ·rintro⟨z,d'⟩ ⟨i,hz,h1,h2,hS⟩
    dsimp only at hz hS
    subst hz
    unfold yR
    dsimp only
    refine c6 (λ hq=>?_) (λ hq=>cX ?_)
    ·simp only [dE] at hq
     have hin:i<b.Ag.length:=by omega
     refine Ok.inner (Arb h hin (hS.ins hin)) (λ s hs=>?_) (λ _ h=>h.elim)
     have e2:w64 ((i:Int)+1)=((i+1:Nat):Int):=by rw [A0 (by omega)];omega
     rw [e2]
     exact c7 ⟨⟨i+1,rfl,by omega,by omega,hs⟩,by dsimp only;omega⟩
    ·simp only [dF] at hq
     dsimp only
     have hge:b.Ag.length<=i:=by omega
     refine⟨hS.len,λ k g1 g2=>?_,λ k m g1 g2 g3=>hS.asc k m g1 (by omega) g3,λ k g1 g2=>by omega,hS.mem⟩
     obtain⟨w1,w2⟩:=hS.low k (by omega) g2
     exact⟨w1,by omega⟩
  ·refine Ok.andThen (A:=λ _=>True) (B:=λ (_:Unit)=>False) ?_ (λ s hs=>Ok.pure hy) (λ _ h=>h.elim)
   refine c9 (λ _=>True) (λ _=>0) _ _ trivial (by omega) ?_
   intro s _
   unfold yS
   refine c6 (λ hq=>?_) (λ _=>cX trivial)
   simp only [dE] at hq
   omega
def Nm (b:Aa):List Int:=(qX b).getD []
theorem Wu {b:Aa} (h:Ax b):qX b=some (Nm b)/\Srt b b.Ag.length b.Ag.length (Nm b):=by
 have hcl:=h.col
 have key:Ok (qX b) λ y=>Srt b b.Ag.length b.Ag.length y:=by
  unfold qX
  rw [Ack h]
  simp only [ac]
  refine c6 (λ hc=>by simp at hc) (λ _=>?_)
  refine Ok.andThen (A:=λ s=>s.2=Di b.Ag.length) (B:=λ (_:Unit)=>False) ?_ (λ s hs=>?_) (λ _ h=>h.elim)
  ·refine c9 (λ s=>∃ i:Nat,s.1=(i:Int)/\i<=b.Ag.length/\s.2=Di i) (λ s=>(100-s.1).toNat) _ _ ⟨0,rfl,by omega,rfl⟩ (by dsimp only;omega) ?_
   rintro⟨z,d⟩ ⟨i,hz,h1,h2⟩
   dsimp only at hz h2
   subst hz
   subst h2
   unfold Ag2 Am8
   dsimp only
   refine c6 (λ hq=>?_) (λ hq=>cX ?_)
   ·simp only [dE] at hq
    refine (cW (by simp [Di];omega)).bind λ y hy=>?_
    have e2:w64 ((i:Int)+1)=((i+1:Nat):Int):=by rw [A0 (by omega)];omega
    rw [e2]
    refine c7 ⟨⟨i+1,rfl,by omega,?_⟩,by dsimp only;omega⟩
    dsimp only
    rw [hy]
    unfold Di
    rw [ck,bJ];rfl
   ·simp only [dF] at hq
    have:i=b.Ag.length:=by omega
    subst this;rfl
  ·rw [hs]
   refine (Auu h ?_).bind λ y hy=>Ok.pure hy
   refine⟨by simp [Di],λ k h1=>by omega,λ k m _ h1=>by omega,λ k _ h2=>Ls h2,λ v hv=>⟨v,hv,Ls hv⟩⟩
 obtain⟨r,e,hr⟩:=key
 have:Nm b=r:=by unfold Nm;rw [e];rfl
 rw [this]
 exact⟨e,hr⟩
theorem Axn {b:Aa} (h:Ax b) {c:Int} (hc:c∈Nm b):0<=c/\c<b.Ag.length:=by
 have hs:=(Wu h).2
 obtain⟨k,hk⟩:=List.mem_iff_getElem?.1 hc
 have hlt:=(aa.1 hk).1
 have:=hs.low k (by have:=hs.len;omega) (by have:=hs.len;omega)
 have e:(Nm b).getD k 0=c:=by simp [List.getD,hk]
 rwa [e] at this
theorem Af5 {b:Aa} (h:Ax b):(Nm b).length=b.Ag.length:=(Wu h).2.len
def Sn (L:List Int) (l:List Int):Int:=l.foldl (λ s c=>s+L.getD c.toNat 0) 0
theorem vH (L:List Int) (l:List Int) (c:Int):Sn L (l++[c])=Sn L l+L.getD c.toNat 0:=by
 unfold Sn;rw [ba];rfl
def Ii (b:Aa) (p:Ad) (n:Nat):Nat:=((groups b p).getD n 0).toNat
def H1 (b:Aa) (p:Ad) (n:Nat):Int:=if 0<(isl b p (Ii b p n)).Ae.length then Sn p.An (isl b p (Ii b p n)).Ag else 0
def zX (b:Aa):List Int:=b.Ae.map (·.Rating)
def Nj (b:Aa) (p:Ad) (n:Nat):Int:=Sn (zX b) (isl b p (Ii b p n)).Ae
theorem Ave {b:Aa} {p:Ad} {f:Nat} {i:Int} (hi:i∈(isl b p f).Ag):0<=i/\i<b.Ag.length:=by
 obtain⟨k,hk,rfl⟩:=ao.1 hi
 have:=aY.1 (ax.1 hk).1
 omega
theorem Avd {b:Aa} {p:Ad} {f:Nat} {i:Int} (hi:i∈(isl b p f).Ae):0<=i/\i<b.Ae.length:=by
 obtain⟨k,hk,rfl⟩:=ao.1 hi
 have:=aY.1 (ax.1 hk).1
 omega
theorem Abd {b:Aa} (h:Ax b) {p:Ad} (hp:Av b p) {c:Int} (h0:0<=c) (h1:c<b.Ag.length):getI p.An c=some (p.An.getD c.toNat 0)/\0<=p.An.getD c.toNat 0/\p.An.getD c.toNat 0<=(b.Ag.getD c.toNat default).Load/\p.An.getD c.toNat 0<=50000:=by
 have hn:=hp.nli
 obtain⟨k,rfl⟩:∃ k:Nat,c=(k:Int):=⟨c.toNat,by omega⟩
 rw [aE]
 have hg:=Gf (b:=b) (i:=k) (by omega)
 have hl:=hp.lim k _ _ (Ps (p:=p) (by omega)) hg
 have hc:=(h.co k _ hg).1
 exact⟨By (Ps (by omega)),hl.1,hl.2,by omega⟩
theorem A4d {b:Aa} {c:Int} (h0:0<=c) (h1:c<b.Ag.length):getI b.Ag c=some (b.Ag.getD c.toNat default):=by
 obtain⟨k,rfl⟩:∃ k:Nat,c=(k:Int):=⟨c.toNat,by omega⟩
 rw [aE]
 exact By (Gf (by omega))
theorem Agc {b:Aa} (h:Ax b) {p:Ad} (hp:Av b p) {n:Nat} (hn:n<b.Am.toNat):Adx b p (n:Int)=some (H1 b p n)/\0<=H1 b p n/\H1 b p n<=800000:=by
 have hcl:=h.col
 have hlen:(isl b p (Ii b p n)).Ag.length<=b.Ag.length:=E9 _ _
 have key:Ok (Adx b p (n:Int)) λ y=>y=H1 b p n/\0<=H1 b p n/\H1 b p n<=800000:=by
  unfold Adx
  have hof:Jv b p (n:Int)=some (isl b p (Ii b p n),true):=of_eq h hp hn
  rw [hof]
  simp only [ac]
  refine Ok.andThen (A:=λ s=>s=H1 b p n/\0<=H1 b p n/\H1 b p n<=800000) (B:=λ (_:Unit)=>False) ?_ (λ s hs=>Ok.pure hs) (λ _ h=>h.elim)
  by_cases hs:0<(isl b p (Ii b p n)).Ae.length
  ·refine c8 (I:=λ j s=>s=Sn p.An ((isl b p (Ii b p n)).Ag.take j)/\0<=s/\s<=50000*(j:Int)) ⟨rfl,by omega,by omega⟩ (λ j c s hc hI=>?_) λ s hI=>?_
   ·obtain⟨h1,h2,h3⟩:=hI
    have hj:j<(isl b p (Ii b p n)).Ag.length:=(aa.1 hc).1
    have hcm:=Ave (ae hc)
    obtain⟨g1,g2,g3,g4⟩:=Abd h hp hcm.1 hcm.2
    unfold qV
    have e:decide (((isl b p (Ii b p n)).Ae.length:Int)>0)=true:=dJ (by omega)
    show Ok (bif decide (((isl b p (Ii b p n)).Ae.length:Int)>0) then _ else _) _
    rw [e,g1]
    simp only [cond_true,ac]
    rw [A0 (by omega)]
    refine c7 ⟨?_,by omega,by omega⟩
    rw [Bp hc,vH,h1]
   ·rw [aB] at hI
    have e:H1 b p n=Sn p.An (isl b p (Ii b p n)).Ag:=by unfold H1;rw [if_pos hs]
    rw [e,←hI.1]
    exact⟨rfl,hI.2.1,by omega⟩
  ·have e:H1 b p n=0:=by unfold H1;rw [if_neg hs]
   rw [e]
   refine c8 (I:=λ _ s=>s=0) rfl (λ j c s hc hI=>?_) λ s hI=>⟨hI,by omega,by omega⟩
   unfold qV
   have e:decide (((isl b p (Ii b p n)).Ae.length:Int)>0)=false:=dK (by omega)
   show Ok (bif decide (((isl b p (Ii b p n)).Ae.length:Int)>0) then _ else _) _
   rw [e]
   exact c7 hI
 obtain⟨r,e,h1,h2⟩:=key
 rw [h1] at e
 exact⟨e,h2⟩
theorem vR {b:Aa} (h:Ax b) {p:Ad} (hp:Av b p) {n:Nat} (hn:n<b.Am.toNat):Adw b p (n:Int)=some (Nj b p n)/\0<=Nj b p n/\Nj b p n<=400000:=by
 have hcl:=h.sol
 have hlen:(isl b p (Ii b p n)).Ae.length<=b.Ae.length:=E9 _ _
 have key:Ok (Adw b p (n:Int)) λ y=>y=Nj b p n/\0<=Nj b p n/\Nj b p n<=400000:=by
  unfold Adw
  have hof:Jv b p (n:Int)=some (isl b p (Ii b p n),true):=of_eq h hp hn
  rw [hof]
  simp only [ac]
  refine Ok.andThen (A:=λ s=>s=Nj b p n/\0<=Nj b p n/\Nj b p n<=400000) (B:=λ (_:Unit)=>False) ?_ (λ s hs=>Ok.pure hs) (λ _ h=>h.elim)
  refine c8 (I:=λ j s=>s=Sn (zX b) ((isl b p (Ii b p n)).Ae.take j)/\0<=s/\s<=50000*(j:Int)) ⟨rfl,by omega,by omega⟩ (λ j c s hc hI=>?_) λ s hI=>?_
  ·obtain⟨h1,h2,h3⟩:=hI
   have hj:j<(isl b p (Ii b p n)).Ae.length:=(aa.1 hc).1
   have hcm:=Avd (ae hc)
   unfold Ag0
   refine (cV hcm.1 hcm.2).bind λ y hy=>?_
   have hr:=(h.so y (ae hy)).1
   have e:(zX b).getD c.toNat 0=y.Rating:=by simp [zX,List.getD,hy]
   rw [A0 (by omega)]
   refine c7 ⟨?_,by omega,by omega⟩
   rw [Bp hc,vH,h1,e]
  ·rw [aB] at hI
   unfold Nj
   rw [←hI.1]
   exact⟨rfl,hI.2.1,by omega⟩
 obtain⟨r,e,h1,h2⟩:=key
 rw [h1] at e
 exact⟨e,h2⟩
def Nz (b:Aa) (p:Ad) (n:Nat):Int:=max 0 (H1 b p n-Nj b p n)
theorem vZ {b:Aa} (h:Ax b) {p:Ad} (hp:Av b p) (acts:List Aw) {n:Nat} (hn:n<b.Am.toNat):Um ⟨b,p,acts⟩ (n:Int)=some (Nz b p n):=by
 obtain⟨h1,h2,h3⟩:=Agc h hp hn
 obtain⟨h4,h5,h6⟩:=vR h hp hn
 unfold Um
 simp only [h1,h4,ac]
 rw [A0 (by omega)];rfl
theorem Avr {b:Aa} (h:Ax b) {p:Ad} (hp:Av b p) {n:Nat} (hn:n<b.Am.toNat):0<=Nz b p n/\Nz b p n<=800000:=by
 obtain⟨h1,h2,h3⟩:=Agc h hp hn
 obtain⟨h4,h5,h6⟩:=vR h hp hn
 unfold Nz
 omega
def Cj (p:Ad) (L:List Int):Ad:=⟨p.Ai,p.Ae,L,p.Al⟩
def Fb (p:Ad) (C:List Bool):Ad:=⟨C,p.Ae,p.An,p.Al⟩
def H2 (b:Aa) (p:Ad) (n:Nat) (c:Int):Int:=min (Nz b p n) (p.An.getD c.toNat 0-(b.Ag.getD c.toNat default).Least)
def O3 (b:Aa) (p:Ad) (n:Nat) (z:List Int×List Aw) (c:Int):List Int×List Aw:=
 if 0<H2 b (Cj p z.1) n c then (z.1.set c.toNat (z.1.getD c.toNat 0-H2 b (Cj p z.1) n c),z.2++[⟨5,c,z.1.getD c.toNat 0-H2 b (Cj p z.1) n c⟩]) else z
def Jp (b:Aa) (p:Ad) (n:Nat) (l:List Int) (z:List Int×List Aw):List Int×List Aw:=l.foldl (O3 b p n) z
theorem vL {b:Aa} {p:Ad} (hp:Av b p) {c:Nat} {v:Int} (hv:0<=v/\v<=(b.Ag.getD c default).Load):Av b (Cj p (p.An.set c v)) where
 ncl:=hp.ncl
 nso:=hp.nso
 nli:=by simp [Cj,hp.nli]
 run:=hp.run
 lim i n x hn hx:=by
  simp only [Cj,ay] at hn
  by_cases e:c=i
  ·subst e
   have ex:b.Ag.getD c default=x:=by simp [List.getD,hx]
   rw [ex] at hv
   rw [if_pos rfl] at hn
   split at hn
   ·cases hn;exact hv
   ·cases hn
  ·rw [if_neg e] at hn
   exact hp.lim i n x hn hx
 one:=hp.one
 brk:=hp.brk
theorem Agb {b:Aa} (h:Ax b) {p:Ad} {n:Nat} {z:List Int×List Aw} (hz:Av b (Cj p z.1)) {c:Int} (h0:0<=c) (h1:c<b.Ag.length):Av b (Cj p (O3 b p n z c).1):=by
 unfold O3
 split
 ·rename_i hl
  obtain⟨_,g2,g3,_⟩:=Abd h hz h0 h1
  have hco:=(h.co c.toNat _ (Gf (b:=b) (i:=c.toNat) (by omega))).2.1
  have hm:H2 b (Cj p z.1) n c<=z.1.getD c.toNat 0-(b.Ag.getD c.toNat default).Least:=Int.min_le_right _ _
  exact vL (p:=Cj p z.1) hz (c:=c.toNat) ⟨by omega,by
   have:(Cj p z.1).An.getD c.toNat 0=z.1.getD c.toNat 0:=rfl
   omega⟩
 ·exact hz
theorem Abc {b:Aa} (h:Ax b) {p:Ad} (hp:Av b p) {acts:List Aw} {l:List Int} (hl:∀ c,c∈l->0<=c/\c<b.Ag.length) (ha:acts.length+l.length<=100000) {n:Nat} (hn:n<b.Am.toNat) :
  Ur ⟨b,p,acts⟩ l (n:Int)=some ⟨b,Cj p (Jp b p n l (p.An,acts)).1,(Jp b p n l (p.An,acts)).2⟩/\Av b (Cj p (Jp b p n l (p.An,acts)).1)/\(Jp b p n l (p.An,acts)).2.length<=acts.length+l.length:=by
 have key : Ok (Ur ⟨b, p, acts⟩ l (n : Int)) λ y => y = ⟨b, Cj p (Jp b p n l (p.An, acts)).1, (Jp b p n l (p.An, acts)).2⟩ /\ Av b (Cj p (Jp b p n l (p.An, acts)).1) /\ (Jp b p n l (p.An, acts)).2.length <= acts.length + l.length := by
  unfold Ur
  refine Ok.andThen (A:=λ s=>s=Jp b p n l (p.An,acts)/\Av b (Cj p s.1)/\s.2.length<=acts.length+l.length) (B:=λ (_:Unit)=>False) ?_ (λ s hs=>?_) (λ _ h=>h.elim)
  ·refine c8 (I:=λ j s=>s=Jp b p n (l.take j) (p.An,acts)/\Av b (Cj p s.1)/\s.2.length<=acts.length+j) ⟨rfl,hp,by simp⟩ (λ j c s hc hI=>?_) λ s hI=>?_
   ·obtain⟨h1,h2,h3⟩:=hI
    have hj:j<l.length:=(aa.1 hc).1
    have hin:=hl c (ae hc)
    obtain⟨g1,g2,g3,g4⟩:=Abd h h2 hin.1 hin.2
    have hco:=(h.co c.toNat _ (Gf (b:=b) (i:=c.toNat) (by omega))).2.1
    have hcl:=(h.co c.toNat _ (Gf (b:=b) (i:=c.toNat) (by omega))).1
    have hex:=Avr h h2 hn
    have hE:=vZ h h2 s.2 hn
    have hsucc:Jp b p n (l.take (j+1)) (p.An,acts)=O3 b p n s c:=by
     rw [Bp hc,h1];unfold Jp;rw [ba];rfl
    have hok:=Agb (n:=n) h h2 hin.1 hin.2
    have hless:w64 ((Cj p s.1).An.getD c.toNat 0-(b.Ag.getD c.toNat default).Least)=(Cj p s.1).An.getD c.toNat 0-(b.Ag.getD c.toNat default).Least:=A0 (by omega)
    have hlen:s.1.length=b.Ag.length:=h2.nli
    unfold yX
    refine Ok.bind (P:=λ y=>y=Nz b (Cj p s.1) n) (cU hE rfl) λ y hy=>?_
    subst hy
    refine Ok.bind (P:=λ y=>y=(Cj p s.1).An.getD c.toNat 0) (cU g1 rfl) λ y hy=>?_
    subst hy
    refine Ok.bind (P:=λ y=>y=b.Ag.getD c.toNat default) (cU (A4d hin.1 hin.2) rfl) λ y hy=>?_
    subst hy
    have em:min (Nz b (Cj p s.1) n) (w64 ((Cj p s.1).An.getD c.toNat 0-(b.Ag.getD c.toNat default).Least))=H2 b (Cj p s.1) n c:=by rw [hless];rfl
    have hlb:0<H2 b (Cj p s.1) n c->0<=(Cj p s.1).An.getD c.toNat 0-H2 b (Cj p s.1) n c/\(Cj p s.1).An.getD c.toNat 0-H2 b (Cj p s.1) n c<=50000:=λ hh=>by
     have hm:H2 b (Cj p s.1) n c<=(Cj p s.1).An.getD c.toNat 0-(b.Ag.getD c.toNat default).Least:=Int.min_le_right _ _
     omega
    refine c6 (λ hq=>?_) (λ hq=>?_)
    ·simp only [Xd,em,dE,gt_iff_lt] at hq
     have hb2:=hlb hq
     rw [em,A0 (by omega)]
     have eS:O3 b p n s c=(s.1.set c.toNat (s.1.getD c.toNat 0-H2 b (Cj p s.1) n c),s.2++[⟨5,c,s.1.getD c.toNat 0-H2 b (Cj p s.1) n c⟩]):=by unfold O3;rw [if_pos hq]
     refine (cY hin.1 (by omega)).bind λ y hy=>?_
     subst hy
     refine Ok.bind (P:=λ v=>v=s.1.getD c.toNat 0-H2 b (Cj p s.1) n c) ?_ λ v hv=>?_
     ·refine (cV hin.1 (by rw [bn];omega)).mono λ v hv=>?_
      rw [bD (by omega)] at hv
      cases hv;rfl
     ·subst hv
      refine (cW (by simp;omega)).bind λ w hw=>c7 ?_
      subst hw
      rw [hsucc,eS]
      rw [eS] at hok
      exact⟨rfl,hok,by simp;omega⟩
    ·simp only [Xd,em,dF,gt_iff_lt] at hq
     have eS:O3 b p n s c=s:=by unfold O3;rw [if_neg hq]
     refine c7 ?_
     rw [hsucc,eS]
     exact⟨rfl,h2,by show s.2.length<=_;omega⟩
   ·rw [aB] at hI
    exact hI
  ·obtain⟨h1,h2,h3⟩:=hs
   subst h1
   exact Ok.pure ⟨rfl,h2,h3⟩
 obtain⟨r,e,h1,h2⟩:=key
 rw [h1] at e
 exact⟨e,h2⟩
def isC (c:Int) (x:Ak):Bool:=x.Kind==3&&x.B==c
theorem Ala {b:Aa} (h:Ax b) {p:Ad} (hp:Av b p) {acts:List Aw} (ha:acts.length<=100000) (c:Int):Y_ ⟨b,p,acts⟩ c=some (⟨b,Fb p (acC b p.Ai (isC c)),acts++acA b p.Ai (isC c)⟩,c):=by
 have hbl:=h.brl
 have hnc:=hp.ncl
 refine d5 ?_
 unfold Y_
 refine Ok.andThen (A:=λ s=>s=Ef b p.Ai (isC c) b.Ah.length) (B:=λ (_:Unit)=>False) ?_ (λ s hs=>?_) (λ _ h=>h.elim)
 ·refine c8 (I:=λ j s=>s=Ef b p.Ai (isC c) j) rfl (λ j x s hx hs=>?_) λ s hs=>hs
  have hj:j<b.Ah.length:=(aa.1 hx).1
  have hfl:=Hf b p.Ai (isC c) j
  have hfs:=Rb (C:=p.Ai) (q:=isC c) hx
  subst hs
  unfold yY
  rw [Cw (by omega),By (T9 hp hj)]
  simp only [ac]
  have e:Adz x c=isC c x:=rfl
  rw [e,hfs]
  cases (p.Ai.getD j false&&isC c x) with
  | false=>refine c7 ?_;simp
  | true=>
   refine Ok.bind (P:=λ y=>y=Ef b p.Ai (isC c) j++[(j:Int)]) (cW (by simp;omega)) λ y hy=>c7 ?_
   rw [hy];simp
 ·subst hs
  have hfl:=Hf b p.Ai (isC c) b.Ah.length
  refine Ok.andThen (Wv (b:=b) (p:=p) (acts:=acts) (l:=Ef b p.Ai (isC c) b.Ah.length) (by omega) λ i hi=>?_) (λ s hs=>?_) (λ _ h=>h.elim)
  ·obtain⟨k,rfl,hk,_⟩:=Mu.1 hi
   omega
  ·subst hs
   exact Ok.pure rfl
def Oa (b:Aa) (p:Ad) (n:Nat) (z:List Bool×List Aw) (c:Int):List Bool×List Aw:=
 if 0<p.An.getD c.toNat 0/\0<Nz b (Fb p z.1) n then (acC b z.1 (isC c),z.2++acA b z.1 (isC c)) else z
def G0 (b:Aa) (p:Ad) (n:Nat) (l:List Int) (z:List Bool×List Aw):List Bool×List Aw:=l.foldl (Oa b p n) z
theorem Afx {b:Aa} (h:Ax b) {p:Ad} (hp:Av b p) {acts:List Aw} {l:List Int} (hl:∀ c,c∈l->0<=c/\c<b.Ag.length) (ha:acts.length+24*l.length<=100000) {n:Nat} (hn:n<b.Am.toNat) :
  Uq ⟨b,p,acts⟩ l (n:Int)=some ⟨b,Fb p (G0 b p n l (p.Ai,acts)).1,(G0 b p n l (p.Ai,acts)).2⟩/\Av b (Fb p (G0 b p n l (p.Ai,acts)).1)/\(G0 b p n l (p.Ai,acts)).2.length<=acts.length+24*l.length:=by
 have hbl:=h.brl
 have key : Ok (Uq ⟨b, p, acts⟩ l (n : Int)) λ y => y = ⟨b, Fb p (G0 b p n l (p.Ai, acts)).1, (G0 b p n l (p.Ai, acts)).2⟩ /\ Av b (Fb p (G0 b p n l (p.Ai, acts)).1) /\ (G0 b p n l (p.Ai, acts)).2.length <= acts.length + 24 * l.length := by
  unfold Uq
  refine Ok.andThen (A:=λ s=>∃ z:List Bool×List Aw,s=(b.Am,b.Ah,b.Ae,b.Ag,b.Phase,b.Aq,z.1,p.Ae,p.An,p.Al,z.2)/\z=G0 b p n l (p.Ai,acts)/\Av b (Fb p z.1)/\z.2.length<=acts.length+24*l.length) (B:=λ (_:Unit)=>False) ?_ (λ s hs=>?_) (λ _ h=>h.elim)
  ·refine c8 (I:=λ j s=>∃ z:List Bool×List Aw,s=(b.Am,b.Ah,b.Ae,b.Ag,b.Phase,b.Aq,z.1,p.Ae,p.An,p.Al,z.2)/\z=G0 b p n (l.take j) (p.Ai,acts)/\Av b (Fb p z.1)/\z.2.length<=acts.length+24*j) ⟨(p.Ai,acts),rfl,rfl,hp,by simp⟩ (λ j c s hc hI=>?_) λ s hI=>?_
   ·obtain⟨z,h0,h1,h2,h3⟩:=hI
    subst h0
    have hj:j<l.length:=(aa.1 hc).1
    have hin:=hl c (ae hc)
    obtain⟨g1,g2,g3,g4⟩:=Abd h hp hin.1 hin.2
    have hE:=vZ h h2 z.2 hn
    have hsucc:G0 b p n (l.take (j+1)) (p.Ai,acts)=Oa b p n z c:=by
     rw [Bp hc,h1];unfold G0;rw [ba];rfl
    unfold yW
    refine Ok.bind (P:=λ y=>y=p.An.getD c.toNat 0) (cU g1 rfl) λ y hy=>?_
    subst hy
    have stay:¬(0<p.An.getD c.toNat 0/\0<Nz b (Fb p z.1) n)->∃ w:List Bool×List Aw,(b.Am,b.Ah,b.Ae,b.Ag,b.Phase,b.Aq,z.1,p.Ae,p.An,p.Al,z.2)=(b.Am,b.Ah,b.Ae,b.Ag,b.Phase,b.Aq,w.1,p.Ae,p.An,p.Al,w.2)/\w=G0 b p n (l.take (j+1)) (p.Ai,acts)/\Av b (Fb p w.1)/\w.2.length<=acts.length+24*(j+1):=λ hh=>by
     have eS:Oa b p n z c=z:=by unfold Oa;rw [if_neg hh]
     exact⟨z,rfl,by rw [hsucc,eS],h2,by omega⟩
    cases hq:decide (p.An.getD c.toNat 0>0) with
    | false=>
     simp only [dF] at hq
     exact c7 (stay λ hh=>hq hh.1)
    | true=>
     simp only [dE] at hq
     refine Ok.bind (P:=λ y=>y=Nz b (Fb p z.1) n) (cU hE rfl) λ y hy=>?_
     subst hy
     cases hq2:decide (Nz b (Fb p z.1) n>0) with
     | false=>
      simp only [dF] at hq2
      exact c7 (stay λ hh=>hq2 hh.2)
     | true=>
      simp only [dE] at hq2
      have hS:=Ala h h2 (acts:=z.2) (by omega) c
      refine Ok.bind (P:=λ y=>y=_) (cU hS rfl) λ y hy=>c7 ?_
      subst hy
      have eS:Oa b p n z c=(acC b z.1 (isC c),z.2++acA b z.1 (isC c)):=by unfold Oa;rw [if_pos ⟨hq,hq2⟩]
      refine⟨(acC b z.1 (isC c),z.2++acA b z.1 (isC c)),rfl,by rw [hsucc,eS],Adb h2 (isC c),?_⟩
      have:=Vy b z.1 (isC c)
      show (z.2++acA b z.1 (isC c)).length<=_
      rw [aF];omega
   ·rw [aB] at hI
    exact hI
  ·obtain⟨z,h0,h1,h2,h3⟩:=hs
   subst h0;subst h1
   exact Ok.pure ⟨rfl,h2,h3⟩
 obtain⟨r,e,h1,h2⟩:=key
 rw [h1] at e
 exact⟨e,h2⟩
def Iu (x:Ap) (c:Int):Bool:=x.Ag.any (c == ·)
theorem Atx {x:Ap} (hx:x.Ag.length<=1000) (c:Int):Us c x=some (!Iu x c):=by
 unfold Us
 rw [Ge _ _ (by omega)];rfl
theorem yE {x:Ap} (hx:x.Ag.length<=1000):∀ (l:List Int) (k:Nat),foldI (Uz x) l k ()=match l.findIdx? λ c=>!Iu x c with
  | some j=>some (.ret (cnt 0 (k+j),x))
  | none=>some (.next ())
 | [],_=>rfl
 | c::l,k=>by
  simp only [foldI,Uz,Atx hx,ac,List.findIdx?_cons]
  cases hq:(!Iu x c) with
  | true=>rfl
  | false=>
   simp only [cond_false,bm,if_false]
   rw [yE hx l (k+1)]
   cases l.findIdx? λ c=>!Iu x c with
   | none=>rfl
   | some j=>
    have e:k+1+j=k+(j+1):=by omega
    simp only [aU,e]
theorem Avt {x:Ap} (hx:x.Ag.length<=1000) (l:List Int) (hl:l.length<=1000):Uu l x=some (l.filter (Iu x),x):=by
 refine d5 ?_
 unfold Uu Ad7
 rw [yE hx]
 cases hf:l.findIdx? λ c=>!Iu x c with
 | none=>
  rw [cS] at hf
  refine Ok.pure ?_
  have:l.filter (Iu x)=l:=by
   rw [cC]
   intro c hc
   have:=hf c hc
   simpa using this
  rw [this]
 | some i=>
  rw [cG] at hf
  obtain⟨hi,hp,hn⟩:=hf
  have e0:cnt 0 (0+i)=(i:Int):=by rw [aI];exact Cw (by omega)
  simp only [e0,andThen,ac]
  refine c6 (λ hc=>?_) (λ _=>?_)
  ·simp only [dG] at hc;omega
  have e1:w64 ((i:Int)+1)=(i:Int)+1:=A0 (by omega)
  rw [e1]
  refine Ok.andThen (A:=λ s=>0<=s.1/\s.1<=(l.length:Int)/\s.2.2.length=l.length/\s.2.2.take s.1.toNat=l.filter (Iu x)) (B:=λ (_:Unit)=>False) ?_ ?_ (λ _ h=>h.elim)
  ·refine c9 (λ s=>(0<=s.1/\s.1<s.2.1/\s.2.1<=(l.length:Int))/\s.2.2.length=l.length/\s.2.2.take s.1.toNat=(l.take s.2.1.toNat).filter (Iu x)/\s.2.2.drop s.2.1.toNat=l.drop s.2.1.toNat) (λ s=>((l.length:Int)-s.2.1).toNat) _ _ ?_ ?_ ?_
   ·refine⟨by dsimp only;omega,rfl,?_,rfl⟩
    dsimp only
    have e2:((i:Int)+1).toNat=i+1:=by omega
    rw [e2,aE,Bp (ai hi),bu]
    have h1:(l.take i).filter (Iu x)=l.take i:=by
     rw [cC]
     intro c hc
     obtain⟨j,hj,rfl⟩:=cr hc
     simp only [aS] at hj
     rw [List.getElem_take]
     have:=hn j (by omega)
     simpa using this
    have h2:Iu x l[i]=false:=by simpa using hp
    rw [h1]
    simp [h2]
   ·dsimp only;omega
   ·rintro⟨a,j,m⟩ ⟨⟨h1,h2,h3⟩,h4,h5,h6⟩
    dsimp only at h1 h2 h3 h4 h5 h6
    unfold Ut Acn
    dsimp only
    refine c6 (λ hq=>?_) (λ hq=>?_)
    ·simp only [dE] at hq
     have e1:w64 (j+1)=j+1:=A0 (by omega)
     have e2:w64 (a+1)=a+1:=A0 (by omega)
     have e3:(j+1).toNat=j.toNat+1:=by omega
     have e4:(a+1).toNat=a.toNat+1:=by omega
     refine (cV (by omega) (by omega)).bind λ y hy=>?_
     have hyl:l[j.toNat]? = some y:=by
      have:=congrArg (·[0]?) h6
      simp only [ar,bx] at this
      rw [←this];exact hy
     have hdrop:∀ (q:List Int),q.drop j.toNat=l.drop j.toNat->q.drop (j.toNat+1)=l.drop (j.toNat+1):=λ q hq=>by
      rw [←bM,hq,bM]
     rw [Atx hx]
     simp only [ac,Bool.not_not]
     refine c6 (λ hf=>?_) (λ hf=>?_)
     ·refine (cV (by omega) (by omega)).bind λ _ _=>(cY (by omega) (by omega)).bind λ z hz=>?_
      rw [e1,e2]
      subst hz
      refine c7 ⟨⟨by dsimp only;omega,by simpa using h4,?_,?_⟩,by dsimp only;omega⟩
      ·dsimp only
       rw [e3,e4,Bp hyl,bu,←h5]
       rw [Bp (x:=y) (by rw [bD (by omega)])]
       simp [hf,List.take_set_of_le]
      ·dsimp only
       rw [e3,List.drop_set_of_lt (by omega)]
       exact hdrop m h6
     ·rw [e1]
      refine c7 ⟨⟨by dsimp only;omega,h4,?_,?_⟩,by dsimp only;omega⟩
      ·dsimp only
       rw [e3,Bp hyl,bu,←h5]
       simp [hf]
      ·dsimp only
       rw [e3];exact hdrop m h6
    ·simp only [dF] at hq
     have e:j.toNat=l.length:=by omega
     refine cX ⟨h1,by dsimp only;omega,h4,?_⟩
     dsimp only
     rw [h5,e,aB]
  ·rintro⟨a,j,m⟩ ⟨h1,h2,h3,h4⟩
   dsimp only at h1 h2 h3 h4 ⊢
   have hc:(Hg m a.toNat ((Int.toNat (m.length:Int))-a.toNat) (0:Int)).length=l.length:=by
    simp [Hg];omega
   refine (Ok.bndI h1 (by omega) (by omega)).bind λ _ _=>(Ok.bndI (by omega) h1 (by rw [hc];omega)).bind λ _ _=>Ok.pure ?_
   rw [←h4]
   unfold Hg
   rw [Nat.sub_zero,cH (by simp;omega),List.take_take,Nat.min_self]
def Jn (b:Aa) (x:Ap):List Int:=(Nm b).filter (Iu x)
theorem Pr {b:Aa} (h:Ax b) {x:Ap} {c:Int} (hc:c∈Jn b x):0<=c/\c<b.Ag.length:=Axn h (ax.1 hc).1
theorem Aa2 {b:Aa} (h:Ax b) (x:Ap):(Jn b x).length<=16:=by
 have h1:=aW (Iu x) (Nm b)
 have h2:=Af5 h
 have h3:=h.col
 unfold Jn;omega
def Xe (x:Ap):Nat:=(x.Am.headD 0).toNat
def I6 (b:Aa) (x:Ap) (z:Ad×List Aw):List Int×List Aw:=Jp b z.1 (Xe x) (Jn b x) (z.1.An,z.2)
def Qx (b:Aa) (x:Ap) (z:Ad×List Aw):List Bool×List Aw:=G0 b (Cj z.1 (I6 b x z).1) (Xe x) (Jn b x) (z.1.Ai,(I6 b x z).2)
def Ni (b:Aa) (z:Ad×List Aw) (x:Ap):Ad×List Aw:=
 if 0<x.Ae.length then (Fb (Cj z.1 (I6 b x z).1) (Qx b x z).1,(Qx b x z).2) else z
def Kg (b:Aa) (l:List Ap) (z:Ad×List Aw):Ad×List Aw:=l.foldl (Ni b) z
structure Aag (b:Aa) (x:Ap):Prop where
 cons:x.Ag.length<=16
 ne:x.Am≠[]
 bus:∀ n,n∈x.Am->0<=n/\n<b.Am
theorem Al5 {b:Aa} (h:Ax b) {p:Ad} {x:Ap} (hx:x∈B_ b p):Aag b x:=by
 have hcl:=h.col
 unfold B_ at hx
 obtain⟨h1,h2⟩:=ax.1 hx
 obtain⟨f,hf,rfl⟩:=ao.1 h1
 have hc:(isl b p f).Ag.length<=b.Ag.length:=E9 _ _
 refine⟨by omega,λ e=>?_,λ n hn=>?_⟩
 ·unfold Jr at h2
  rw [e] at h2;simp at h2
 ·obtain⟨k,hk,rfl⟩:=ao.1 hn
  have:=aY.1 (ax.1 hk).1
  omega
theorem Ac4 {b:Aa} {x:Ap} (hx:Aag b x):getI x.Am 0=some ((Xe x:Nat):Int)/\Xe x<b.Am.toNat:=by
 unfold Xe
 cases hb:x.Am with
 | nil=>exact absurd hb hx.ne
 | cons n l=>
  have:=hx.bus n (by rw [hb];exact ak)
  simp only [List.headD_cons]
  refine⟨?_,by omega⟩
  have e:(n.toNat:Int)=n:=by omega
  rw [e];rfl
theorem Auw {b:Aa} (h:Ax b) {p:Ad} (hp:Av b p) {acts:List Aw} (ha:acts.length<=1000) :
  U0 ⟨b,p,acts⟩=some ⟨b,(Kg b (B_ b p) (p,acts)).1,(Kg b (B_ b p) (p,acts)).2⟩/\Av b (Kg b (B_ b p) (p,acts)).1/\(Kg b (B_ b p) (p,acts)).2.length<=10000:=by
 have hil:=Pt b p
 have hbu:=h.buses
 have hcl:=h.col
 have hol:=Af5 h
 have key:Ok (U0 ⟨b,p,acts⟩) λ y=>y=⟨b,(Kg b (B_ b p) (p,acts)).1,(Kg b (B_ b p) (p,acts)).2⟩/\Av b (Kg b (B_ b p) (p,acts)).1/\(Kg b (B_ b p) (p,acts)).2.length<=10000:=by
  unfold U0
  simp only [(Wu h).1,ac]
  have hi:uV b p=some (B_ b p):=Ko h hp
  refine Ok.bind (P:=λ y=>y=B_ b p) (cU hi rfl) λ y hy=>?_
  subst hy
  refine Ok.andThen (A:=λ s=>∃ z:Ad×List Aw,s=(b.Am,b.Ah,b.Ae,b.Ag,b.Phase,b.Aq,z.1.Ai,z.1.Ae,z.1.An,z.1.Al,z.2)/\z=Kg b (B_ b p) (p,acts)/\Av b z.1/\z.2.length<=10000) (B:=λ (_:Unit)=>False) ?_ (λ s hs=>?_) (λ _ h=>h.elim)
  ·refine c8 (I:=λ j s=>∃ z:Ad×List Aw,s=(b.Am,b.Ah,b.Ae,b.Ag,b.Phase,b.Aq,z.1.Ai,z.1.Ae,z.1.An,z.1.Al,z.2)/\z=Kg b ((B_ b p).take j) (p,acts)/\Av b z.1/\z.2.length<=1000+400*j) ⟨(p,acts),rfl,rfl,hp,by simpa using ha⟩ (λ j x s hx hI=>?_) λ s hI=>?_
   ·obtain⟨z,h0,h1,h2,h3⟩:=hI
    subst h0
    have hj:j<(B_ b p).length:=(aa.1 hx).1
    have hin:=Al5 h (ae hx)
    have hsucc:Kg b ((B_ b p).take (j+1)) (p,acts)=Ni b z x:=by
     rw [Bp hx,h1];unfold Kg;rw [ba];rfl
    have hc:=hin.cons
    have hol2:=Aa2 h x
    obtain⟨e0,hb0⟩:=Ac4 hin
    unfold zE
    have ecl:Pj (Nm b)=some (Nm b):=by
     unfold Pj
     rw [Hj (by omega)]
    rw [ecl]
    simp only [ac]
    rw [Avt (by omega) _ (by omega)]
    simp only [ac]
    refine c6 (λ hq=>?_) (λ hq=>?_)
    ·simp only [dE] at hq
     rw [e0]
     simp only [ac]
     obtain⟨l1,l2,l3⟩:=Abc h h2 (acts:=z.2) (l:=Jn b x) (λ c hc=>Pr h hc) (by omega) hb0
     refine Ok.bind (P:=λ y=>y=_) (cU l1 rfl) λ y hy=>?_
     subst hy
     obtain⟨t1,t2,t3⟩:=Afx h l2 (acts:=(I6 b x z).2) (l:=Jn b x) (λ c hc=>Pr h hc) (by unfold I6;omega) hb0
     refine Ok.bind (P:=λ y=>y=_) (cU t1 rfl) λ y hy=>c7 ?_
     subst hy
     have eS:Ni b z x=(Fb (Cj z.1 (I6 b x z).1) (Qx b x z).1,(Qx b x z).2):=by unfold Ni;rw [if_pos (by omega)]
     refine⟨(Fb (Cj z.1 (I6 b x z).1) (Qx b x z).1,(Qx b x z).2),rfl,by rw [hsucc,eS],t2,?_⟩
     have t4:(Qx b x z).2.length<=(I6 b x z).2.length+24*(Jn b x).length:=t3
     have l4:(I6 b x z).2.length<=z.2.length+(Jn b x).length:=l3
     show (Qx b x z).2.length<=_
     omega
    ·simp only [dF] at hq
     have eS:Ni b z x=z:=by unfold Ni;rw [if_neg (by omega)]
     exact c7 ⟨z,rfl,by rw [hsucc,eS],h2,by omega⟩
   ·rw [aB] at hI
    obtain⟨z,h0,h1,h2,h3⟩:=hI
    exact⟨z,h0,h1,h2,by omega⟩
  ·obtain⟨z,h0,h1,h2,h3⟩:=hs
   subst h0;subst h1
   exact Ok.pure ⟨rfl,h2,h3⟩
 obtain⟨r,e,h1,h2⟩:=key
 rw [h1] at e
 exact⟨e,h2⟩
def Axm (b:Aa) (p:Ad):Ad×List Aw:=Kg b (B_ b (T7 b p)) (T7 b p,Xa b p)
def Wt (b:Aa) (p:Ad):Ad:=(Axm b p).1
def F0 (b:Aa) (p:Ad):List Aw:=(Axm b p).2
theorem Q0 {b:Aa} (h:Ax b) {p:Ad} (hp:Av b p):Akn b p=some (Wt b p,F0 b p,0)/\Av b (Wt b p)/\(F0 b p).length<=10000:=by
 have hbl:=h.brl
 have hcl:=Acj b p
 obtain⟨s1,s2,s3⟩:=Auw h (Agm hp) (acts:=Xa b p) (by omega)
 refine⟨?_,s2,s3⟩
 unfold Akn Aea Ad9
 rw [E2 h hp,Hh h hp]
 simp only [ac,dM,cond_false]
 rw [Ary h hp]
 simp only [ac]
 rw [s1]
 rfl
theorem Asl {b:Aa} (h:Ax b) {p:As} (hp:Av b p.Power) (h1:p.Ba.length<=1000) (h2:p.Bh.length<=10000000):Akv b p=some ⟨p,b,[],[]⟩:=by
 unfold Akv vB vA
 rw [Hh h hp,Hj (by omega),Hj (by omega)]
 rfl
theorem On {α:Type} {f:Nat->α->Unit->Option (Ctl Unit Bool)} {l m:List α} {e:α->α->Bool} (he:∀ x y,e x y=true->x=y)
  (hf:∀ (j:Nat) x y,l[j]? = some x->m[j]? = some y->f j x ()=bif !e x y then some (.ret false) else some (.next ())) (hl:l.length=m.length) :
  Ok (andThen (foldI f l 0 ()) some λ _=>some true) λ v=>v=true->l=m:=by
 refine Ok.andThen (A:=λ _=>l=m) (B:=λ v=>v=false) ?_ (λ _ hs=>Ok.pure λ _=>hs) (λ v hv=>Ok.pure λ hh=>by rw [hv] at hh;cases hh)
 refine c8 (I:=λ j _=>l.take j=m.take j) rfl (λ j x _ hx hI=>?_) λ _ hI=>?_
 ·have hj:=(aa.1 hx).1
  have hy:m[j]? = some (m[j]'(by omega)):=ai (by omega)
  rw [hf j x _ hx hy]
  refine c6 (λ _=>Ok.ret rfl) (λ hq=>c7 ?_)
  have:=he _ _ (by simpa using hq)
  rw [Bp hx,Bp hy,hI,←this]
 ·rw [aB] at hI
  rw [hI,hl,aB]
theorem Ayp {l m:List Bool} (h:l.length<=1000):Ok (uU l m) λ v=>v=true->l=m:=by
 unfold uU
 refine c6 (λ _=>Ok.pure λ hh=>by cases hh) (λ hq=>?_)
 have hl:l.length=m.length:=by simp only [dL] at hq;omega
 refine On (e:=λ x y=>x==y) (λ x y hh=>by simpa using hh) (λ j x y hx hy=>?_) hl
 have hj:=(aa.1 hx).1
 unfold uT
 rw [Cw (by omega),By hy];rfl
theorem Ayo {l m:List Int} (h:l.length<=1000):Ok (uQ l m) λ v=>v=true->l=m:=by
 unfold uQ
 refine c6 (λ _=>Ok.pure λ hh=>by cases hh) (λ hq=>?_)
 have hl:l.length=m.length:=by simp only [dL] at hq;omega
 refine On (e:=λ x y=>x==y) (λ x y hh=>by simpa using hh) (λ j x y hx hy=>?_) hl
 have hj:=(aa.1 hx).1
 unfold uP
 rw [Cw (by omega),By hy];rfl
theorem Aym {l m:List Aj} (h:l.length<=1000):Ok (uS l m) λ v=>v=true->l=m:=by
 unfold uS
 refine c6 (λ _=>Ok.pure λ hh=>by cases hh) (λ hq=>?_)
 have hl:l.length=m.length:=by simp only [dL] at hq;omega
 refine On (e:=λ x y=>(x.State==y.State)&&((x.Since==y.Since)&&((x.Aq==y.Aq)&&((x.Phase==y.Phase)&&true)))) (λ x y hh=>?_) (λ j x y hx hy=>?_) hl
 ·simp only [ab,dG] at hh
  obtain⟨h1,h2,h3,h4,_⟩:=hh
  cases x;cases y;simp_all
 ·have hj:=(aa.1 hx).1
  unfold uR
  rw [Cw (by omega),By hy];rfl
theorem Ayn {l m:List Ab} (h:l.length<=1000):Ok (uO l m) λ v=>v=true->l=m:=by
 unfold uO
 refine c6 (λ _=>Ok.pure λ hh=>by cases hh) (λ hq=>?_)
 have hl:l.length=m.length:=by simp only [dL] at hq;omega
 refine On (e:=λ x y=>(x.Kind==y.Kind)&&((x.Number==y.Number)&&true)) (λ x y hh=>?_) (λ j x y hx hy=>?_) hl
 ·simp only [ab,dG] at hh
  obtain⟨h1,h2,_⟩:=hh
  cases x;cases y;simp_all
 ·have hj:=(aa.1 hx).1
  unfold uN
  rw [Cw (by omega),By hy];rfl
def Le (p q:Ad):Bool:=(F99 p q).getD false
theorem Auy {p:Ad} (hp:Asy p) (q:Ad):F99 p q=some (Le p q)/\(Le p q=true->p=q):=by
 have h1:=hp.c
 have h2:=hp.s
 have h3:=hp.l
 have h4:=hp.k
 have key:Ok (F99 p q) λ v=>v=true->p=q:=by
  unfold F99
  refine (Ayp (l:=p.Ai) (m:=q.Ai) (by omega)).bind λ v1 e1=>?_
  cases v1 with
  | false=>exact Ok.pure λ hh=>by simp at hh
  | true=>
   refine Ok.bind (P:=λ v=>v=true->p.Ae=q.Ae) (Aym (by omega)) λ v2 e2=>?_
   cases v2 with
   | false=>exact Ok.pure λ hh=>by simp at hh
   | true=>
    refine Ok.bind (P:=λ v=>v=true->p.An=q.An) (Ayo (by omega)) λ v3 e3=>?_
    cases v3 with
    | false=>exact Ok.pure λ hh=>by simp at hh
    | true=>
     refine Ok.bind (P:=λ v=>v=true->p.Al=q.Al) (Ayn (by omega)) λ v4 e4=>Ok.pure λ hh=>?_
     have w1:=e1 rfl
     have w2:=e2 rfl
     have w3:=e3 rfl
     have w4:=e4 (by simpa using hh)
     cases p;cases q;simp_all
 obtain⟨r,e,hr⟩:=key
 have:Le p q=r:=by unfold Le;rw [e];rfl
 rw [this]
 exact⟨e,hr⟩
def ap (p:Ad) (x:Aw):Ad:=if x.Kind=2 then Fb p (p.Ai.set x.Unit.toNat false) else Cj p (p.An.set x.Unit.toNat x.Value)
def Ak1 (b:Aa) (x:Aw):Prop:=(x.Kind=2/\0<=x.Unit/\x.Unit<b.Ah.length)\/(x.Kind=5/\(0<=x.Unit/\x.Unit<b.Ag.length)/\0<=x.Value/\x.Value<=(b.Ag.getD x.Unit.toNat default).Load)
theorem Auj {b:Aa} {p:Ad} (hp:Av b p) {x:Aw} (hx:Ak1 b x):Av b (ap p x):=by
 unfold ap
 rcases hx with⟨hk,_⟩ | ⟨hk,h1,h2⟩
 ·rw [if_pos hk];exact Aii hp _
 ·rw [if_neg (by omega)];exact vL hp h2
def Fy (b:Aa) (p:Ad) (z:Ad×List Aw):Prop:=z.2.foldl ap p=⟨z.1.Ai,p.Ae,z.1.An,p.Al⟩/\∀ x,x∈z.2->Ak1 b x
theorem Ac9 {p q:Ad}:∀ (l:List Int) (C:List Bool),q=Fb p C->(Mr l).foldl ap q=Fb p (Je C l)
 | [],C,hq=>hq
 | i::l,C,hq=>by
  subst hq
  exact Ac9 l (C.set i.toNat false) rfl
theorem Zy {b:Aa} {p:Ad} {z:Ad×List Aw} (hz:Fy b p z) (q:Ak->Bool) (S:List Aj):Fy b p (⟨acC b z.1.Ai q,S,z.1.An,z.1.Al⟩,z.2++acA b z.1.Ai q):=by
 refine⟨?_,λ x hx=>?_⟩
 ·dsimp only
  rw [ba,hz.1]
  exact Ac9 (p:=⟨z.1.Ai,p.Ae,z.1.An,p.Al⟩) (Ef b z.1.Ai q b.Ah.length) z.1.Ai rfl
 ·rcases am.1 hx with hx | hx
  ·exact hz.2 x hx
  ·obtain⟨i,hi,rfl⟩:=ao.1 hx
   obtain⟨k,rfl,hk,_⟩:=Mu.1 hi
   exact .inl ⟨rfl,by dsimp only;omega,by dsimp only;omega⟩
theorem A27 {b:Aa} {p q r:Ad} {l:List Aw} (hz:Fy b p (q,l)) (h1:r.Ai=q.Ai) (h2:r.An=q.An):Fy b p (r,l):=by
 refine⟨?_,hz.2⟩
 have:=hz.1
 dsimp only at this ⊢
 rw [this,h1,h2]
theorem Ak8 {b:Aa} (h:Ax b) {p q:Ad} (n:Nat):∀ (l:List Int) (z:List Int×List Aw),(∀ c,c∈l->0<=c/\c<b.Ag.length)->Av b (Cj q z.1)->Fy b p (Cj q z.1,z.2)->Fy b p (Cj q (Jp b q n l z).1,(Jp b q n l z).2)
 | [],_,_,_,hz=>hz
 | c :: l, z, hl, hs, hz => by
  have hin:=hl c ak
  have hok:=Agb (n:=n) h hs hin.1 hin.2
  refine Ak8 h n l (O3 b q n z c) (λ d hd=>hl d (al _ hd)) hok ?_
  unfold O3 at hok ⊢
  split
  ·rename_i hq
   rw [if_pos hq] at hok
   obtain⟨_,w2,w3,_⟩:=Abd h hok hin.1 hin.2
   have hlen:z.1.length=b.Ag.length:=hs.nli
   have ev:∀ v:Int,(z.1.set c.toNat v).getD c.toNat 0=v:=λ v=>by rw [Tl,if_pos ⟨rfl,by omega⟩]
   have w2':0<=(z.1.set c.toNat (z.1.getD c.toNat 0-H2 b (Cj q z.1) n c)).getD c.toNat 0:=w2
   have w3':(z.1.set c.toNat (z.1.getD c.toNat 0-H2 b (Cj q z.1) n c)).getD c.toNat 0<=(b.Ag.getD c.toNat default).Load:=w3
   rw [ev] at w2' w3'
   refine⟨?_,λ x hx=>?_⟩
   ·dsimp only
    rw [ba,hz.1];rfl
   ·rcases am.1 hx with hx | hx
    ·exact hz.2 x hx
    ·simp only [aC] at hx
     subst hx
     exact .inr ⟨rfl,hin,w2',w3'⟩
  ·exact hz
theorem Afy {b:Aa} {p q:Ad} (n:Nat):∀ (l:List Int) (z:List Bool×List Aw),Fy b p (Fb q z.1,z.2)->Fy b p (Fb q (G0 b q n l z).1,(G0 b q n l z).2)
 | [],_,hz=>hz
 | c::l,z,hz=>by
  refine Afy n l (Oa b q n z c) ?_
  unfold Oa
  split
  ·exact Zy (z:=(Fb q z.1,z.2)) hz (isC c) q.Ae
  ·exact hz
theorem Au0 {b:Aa} (h:Ax b) {x:Ap} (hx:Aag b x) {p:Ad} {z:Ad×List Aw} (hs:Av b z.1) (ha:z.2.length<=10000) (hz:Fy b p z):Av b (Ni b z x).1/\Fy b p (Ni b z x)/\(Ni b z x).2.length<=z.2.length+400:=by
 have hol2:=Aa2 h x
 obtain⟨e0,hb0⟩:=Ac4 hx
 unfold Ni
 split
 ·obtain⟨_,l2,l3⟩:=Abc h hs (acts:=z.2) (l:=Jn b x) (λ c hc=>Pr h hc) (by omega) hb0
  obtain⟨_,t2,t3⟩:=Afx h l2 (acts:=(I6 b x z).2) (l:=Jn b x) (λ c hc=>Pr h hc) (by unfold I6;omega) hb0
  have t4:(Qx b x z).2.length<=(I6 b x z).2.length+24*(Jn b x).length:=t3
  have l4:(I6 b x z).2.length<=z.2.length+(Jn b x).length:=l3
  refine⟨t2,?_,by dsimp only;omega⟩
  have hl:Fy b p (Cj z.1 (I6 b x z).1,(I6 b x z).2):=Ak8 h (Xe x) (Jn b x) (z.1.An,z.2) (λ c hc=>Pr h hc) hs hz
  exact Afy (Xe x) (Jn b x) (z.1.Ai,(I6 b x z).2) hl
 ·exact⟨hs,hz,by omega⟩
theorem Af1 {b:Aa} (h:Ax b) {p:Ad}:∀ (l:List Ap) (z:Ad×List Aw),(∀ x,x∈l->Aag b x)->Av b z.1->z.2.length+400*l.length<=10000->Fy b p z->Fy b p (Kg b l z)
 | [],_,_,_,_,hz=>hz
 | x::l,z,hl,hs,ha,hz=>by
  rw [aL] at ha
  obtain⟨h1,h2,h3⟩:=Au0 h (hl x ak) hs (by omega) hz
  exact Af1 h l (Ni b z x) (λ y hy=>hl y (al _ hy)) h1 (by omega) h2
theorem Azl {b:Aa} (p:Ad):Fy b p (T7 b p,Xa b p):=by
 have h0:Fy b p (p,[]):=⟨rfl,λ x hx=>by cases hx⟩
 have h1:=Zy h0 (Ey p) p.Ae
 have h2:=Zy h1 (Gx b (T8 b p)) p.Ae
 exact A27 h2 rfl rfl
theorem Axl {b:Aa} (h:Ax b) {p:Ad} (hp:Av b p):Fy b p (Wt b p,F0 b p):=by
 have hil:=Pt b (T7 b p)
 have hbu:=h.buses
 have hbl:=h.brl
 have hcl:=Acj b p
 exact Af1 h (B_ b (T7 b p)) (T7 b p,Xa b p) (λ x hx=>Al5 h hx) (Agm hp) (by dsimp only;omega) (Azl p)
def Gu:List Aw->Ad->List Ad
 | [],_=>[]
 | x::l,p=>ap p x::Gu l (ap p x)
theorem Oj:∀ (l:List Aw) (p:Ad),(Gu l p).length=l.length
 | [],_=>rfl
 | x::l,p=>by simp [Gu,Oj l]
theorem X8:∀ (l:List Aw) (x:Aw) (p:Ad),Gu (l++[x]) p=Gu l p++[ap (l.foldl ap p) x]
 | [],_,_=>rfl
 | y::l,x,p=>by
  show ap p y::Gu (l++[x]) (ap p y)=_
  rw [X8 l x];rfl
def Ch (b:Aa) (p:Ad) (t:Int) (a:Aw):Ad×Int:=(uK b p t a).getD default
theorem Agw {b:Aa} (h:Ax b) {p:Ad} (hp:Av b p) (t:Int) (a:Aw):uK b p t a=some (Ch b p t a)/\((Ch b p t a).2≠0\/Av b (Ch b p t a).1):=by
 obtain⟨r,e,hr⟩:=A0v h hp t a
 have:Ch b p t a=r:=by unfold Ch;rw [e];rfl
 rw [this]
 exact⟨e,hr.imp (·.1) (·.2)⟩
def O8 (b:Aa) (p:Ad) (t:Int) (a:Aw):Int:=if a.Kind=7 then 1 else (Ch b p t a).2
def Nn (b:Aa) (p:Ad) (t:Int) (a:Aw):Ad:=(Ch b p t a).1
def doP (b:Aa) (p:Ad) (t:Int) (a:Aw):Ad:=if O8 b p t a=0 then Wt b (Nn b p t a) else p
def doE (b:Aa) (p:Ad) (t:Int) (a:Aw):List Bu:=⟨t,a,O8 b p t a⟩::if O8 b p t a=0 then (F0 b (Nn b p t a)).map (λ x=>⟨t,x,0⟩) else []
def Q3 (b:Aa) (p:Ad) (t:Int) (a:Aw):Ad:=(F0 b (Nn b p t a)).foldl ap (Nn b p t a)
def doS (b:Aa) (p:Ad) (t:Int) (a:Aw):List Ad:=
 if O8 b p t a=0 then [Nn b p t a]++Gu (F0 b (Nn b p t a)) (Nn b p t a)++(if Le (Q3 b p t a) (doP b p t a)=true then [] else [doP b p t a]) else []
theorem Ab9 {b:Aa} (h:Ax b) {p:Ad} (hp:Av b p) {t:Int} {a:Aw} (he:O8 b p t a=0):Av b (Nn b p t a)/\(Ch b p t a).2=0/\a.Kind≠7:=by
 unfold O8 at he
 by_cases hk:a.Kind=7
 ·rw [if_pos hk] at he;omega
 ·rw [if_neg hk] at he
  rcases (Agw h hp t a).2 with h1 | h1
  ·exact absurd he h1
  ·exact⟨h1,he,hk⟩
theorem Azh {b:Aa} (h:Ax b) {p:Ad} (hp:Av b p) (t:Int) (a:Aw):Av b (doP b p t a):=by
 unfold doP
 split
 ·rename_i he
  exact (Q0 h (Ab9 h hp he).1).2.1
 ·exact hp
theorem Q5 {b:Aa} (h:Ax b) {r:Cm} {p:Ad} (hp:Av b p) (h1:r.states.length<=10000000):N_ r p=some ⟨r.Bg,r.Ao,r.events,r.states++[p]⟩:=by
 refine d5 ?_
 unfold N_
 rw [Hh h hp]
 simp only [ac]
 exact (cW (by simp;omega)).bind λ s hs=>Ok.pure (by rw [hs])
theorem Af8 {r:Cm} (h1:r.events.length<=10000000) (a:Aw) (e:Int):U2 r a e=some ⟨r.Bg,r.Ao,r.events++[⟨r.Bg.Time,a,e⟩],r.states⟩:=by
 refine d5 ?_
 unfold U2
 exact (cW (by simp;omega)).bind λ s hs=>Ok.pure (by rw [hs])
theorem Z2 {b:Aa}:∀ (l:List Aw) {p:Ad},Av b p->(∀ x,x∈l->Ak1 b x)->Av b (l.foldl ap p)
 | [],_,hp,_=>hp
 | x::l,p,hp,hl=>Z2 l (Auj hp (hl x ak)) λ y hy=>hl y (al _ hy)
theorem A2r {b:Aa} (h:Ax b) {T:Int} {P:Ad} {ros:List A9} {evs ev:List Bu} {sts:List Ad} (hp:Av b P) (h1:ev.length<=1000000) (h2:sts.length<=1000000) (a:Aw) :
  Zu ⟨⟨T,P,ros,evs⟩,b,ev,sts⟩ a=some ⟨⟨T,doP b P T a,ros,evs⟩,b,ev++doE b P T a,sts++doS b P T a⟩:=by
 obtain⟨ha,_⟩:=Agw h hp T a
 refine d5 ?_
 unfold Zu
 simp only [ha,ac]
 refine Ok.andThen (A:=λ s=>s=O8 b P T a) (B:=λ (_:Unit)=>False) ?_ (λ s hs=>?_) (λ _ h=>h.elim)
 ·unfold zL O8
  refine c6 (λ hq=>d7 ?_) (λ hq=>d7 ?_)
  ·rw [if_pos (by simpa using hq)]
  ·rw [if_neg (by simpa using hq)]
 subst hs
 rw [Af8 (by dsimp only;omega)]
 simp only [ac]
 refine c6 (λ hq=>Ok.pure ?_) (λ hq=>?_)
 ·have he:¬O8 b P T a=0:=by simpa using hq
  unfold doP doE doS
  rw [if_neg he,if_neg he,if_neg he];simp
 have he:O8 b P T a=0:=by simpa using hq
 obtain⟨hn,_,_⟩:=Ab9 h hp he
 have hn':Av b (Ch b P T a).1:=hn
 rw [Q5 h hn' (by dsimp only;omega)]
 simp only [ac]
 obtain⟨p1,p2,p3⟩:=Q0 h hn'
 rw [p1]
 simp only [ac]
 have htr:=Axl h hn'
 have eP:doP b P T a=Wt b (Ch b P T a).1:=by unfold doP Nn;rw [if_pos he]
 have eE:doE b P T a=⟨T,a,0⟩::(F0 b (Ch b P T a).1).map (λ x=>⟨T,x,0⟩):=by unfold doE Nn;rw [if_pos he,he]
 have eL:Q3 b P T a=(F0 b (Ch b P T a).1).foldl ap (Ch b P T a).1:=rfl
 refine Ok.andThen (A:=λ s=>∃ q:Ad,q=Q3 b P T a/\s=(T,b.Am,b.Ah,b.Ae,b.Ag,b.Phase,b.Aq,P.Ai,P.Ae,P.An,P.Al,ros,evs,q.Ai,ev++doE b P T a,sts++([(Ch b P T a).1]++Gu (F0 b (Ch b P T a).1) (Ch b P T a).1),q.An)) (B:=λ (_:Unit)=>False) ?_ (λ s hs=>?_) (λ _ h=>h.elim)
 ·refine c8 (I:=λ j s=>∃ q:Ad,q=((F0 b (Ch b P T a).1).take j).foldl ap (Ch b P T a).1/\(q.Ae=(Ch b P T a).1.Ae/\q.Al=(Ch b P T a).1.Al)/\s=(T,b.Am,b.Ah,b.Ae,b.Ag,b.Phase,b.Aq,P.Ai,P.Ae,P.An,P.Al,ros,evs,q.Ai,ev++(⟨T,a,0⟩::((F0 b (Ch b P T a).1).take j).map (λ x=>(⟨T,x,0⟩:Bu))),sts++([(Ch b P T a).1]++Gu ((F0 b (Ch b P T a).1).take j) (Ch b P T a).1),q.An)) ⟨(Ch b P T a).1,rfl,⟨rfl,rfl⟩,?_⟩ (λ j x s hx hI=>?_) λ s hI=>?_
  ·simp [Gu,he]
  ·obtain⟨q,hq1,⟨hq2,hq3⟩,rfl⟩:=hI
   have hj:j<(F0 b (Ch b P T a).1).length:=(aa.1 hx).1
   have hin:=htr.2 x (ae hx)
   have hqok:Av b q:=by
    rw [hq1]
    exact Z2 _ hn' λ y hy=>htr.2 y (bk hy)
   have hapok:=Auj hqok hin
   have hcl:=hqok.ncl
   have hli:=hqok.nli
   unfold zM
   refine Ok.bind (P:=λ y=>y=_) (cU (Af8 (r:=⟨⟨T,P,ros,evs⟩,b,ev++(⟨T,a,0⟩::((F0 b (Ch b P T a).1).take j).map (λ x=>(⟨T,x,0⟩:Bu))),sts++([(Ch b P T a).1]++Gu ((F0 b (Ch b P T a).1).take j) (Ch b P T a).1)⟩) (by simp;omega) x 0) rfl) λ y hy=>?_
   subst hy
   have hfold:((F0 b (Ch b P T a).1).take (j+1)).foldl ap (Ch b P T a).1=ap q x:=by rw [Bp hx,ba,←hq1];rfl
   have hint:Gu ((F0 b (Ch b P T a).1).take (j+1)) (Ch b P T a).1=Gu ((F0 b (Ch b P T a).1).take j) (Ch b P T a).1++[ap q x]:=by rw [Bp hx,X8,←hq1]
   refine c6 (λ hk=>?_) (λ hk=>?_)
   ·have hk2:x.Kind=2:=by simpa using hk
    have hx1:0<=x.Unit/\x.Unit<b.Ah.length:=by
     rcases hin with⟨_,h3⟩ | ⟨h3,_⟩
     ·exact h3
     ·omega
    have eA:ap q x=⟨q.Ai.set x.Unit.toNat false,(Ch b P T a).1.Ae,q.An,(Ch b P T a).1.Al⟩:=by
     unfold ap;rw [if_pos hk2,←hq2,←hq3];rfl
    refine (cV (l:=q.Ai) hx1.1 (by omega)).bind λ _ _=>(cY (l:=q.Ai) hx1.1 (by omega)).bind λ C hC=>?_
    subst hC
    refine Ok.bind (P:=λ y=>y=_) (cU (Q5 h (r:=⟨⟨T,P,ros,evs⟩,b,(ev++(⟨T,a,0⟩::((F0 b (Ch b P T a).1).take j).map (λ x=>(⟨T,x,0⟩:Bu))))++[⟨T,x,0⟩],sts++([(Ch b P T a).1]++Gu ((F0 b (Ch b P T a).1).take j) (Ch b P T a).1)⟩) (p:=⟨q.Ai.set x.Unit.toNat false,(Ch b P T a).1.Ae,q.An,(Ch b P T a).1.Al⟩) (by rw [←eA];exact hapok) (by simp [Oj];omega)) rfl) λ y hy=>c7 ?_
    subst hy
    refine⟨ap q x,hfold.symm,by rw [eA];exact⟨rfl,rfl⟩,?_⟩
    rw [hint,eA,Bp hx]
    simp
   ·have hk2:¬x.Kind=2:=by simpa using hk
    have hx1:0<=x.Unit/\x.Unit<b.Ag.length:=by
     rcases hin with⟨h3,_⟩ | ⟨_,h3,_⟩
     ·omega
     ·exact h3
    have eA:ap q x=⟨q.Ai,(Ch b P T a).1.Ae,q.An.set x.Unit.toNat x.Value,(Ch b P T a).1.Al⟩:=by
     unfold ap;rw [if_neg hk2,←hq2,←hq3];rfl
    refine (cV (l:=q.An) hx1.1 (by omega)).bind λ _ _=>(cY (l:=q.An) hx1.1 (by omega)).bind λ C hC=>?_
    subst hC
    refine Ok.bind (P:=λ y=>y=_) (cU (Q5 h (r:=⟨⟨T,P,ros,evs⟩,b,(ev++(⟨T,a,0⟩::((F0 b (Ch b P T a).1).take j).map (λ x=>(⟨T,x,0⟩:Bu))))++[⟨T,x,0⟩],sts++([(Ch b P T a).1]++Gu ((F0 b (Ch b P T a).1).take j) (Ch b P T a).1)⟩) (p:=⟨q.Ai,(Ch b P T a).1.Ae,q.An.set x.Unit.toNat x.Value,(Ch b P T a).1.Al⟩) (by rw [←eA];exact hapok) (by simp [Oj];omega)) rfl) λ y hy=>c7 ?_
    subst hy
    refine⟨ap q x,hfold.symm,by rw [eA];exact⟨rfl,rfl⟩,?_⟩
    rw [hint,eA,Bp hx]
    simp
  ·obtain⟨q,hq1,_,rfl⟩:=hI
   rw [aB] at hq1 ⊢
   exact⟨q,hq1,by rw [eE]⟩
 ·obtain⟨q,hq,rfl⟩:=hs
  have hqok:Av b q:=by rw [hq,eL];exact Z2 _ hn' htr.2
  have hqS:q=⟨q.Ai,(Ch b P T a).1.Ae,q.An,(Ch b P T a).1.Al⟩:=by
   have h3:=htr.1
   rw [←eL,←hq] at h3
   rw [h3]
  have hsm:=Auy (hqok.lens h) (Wt b (Ch b P T a).1)
  have hsm1:=hsm.1
  rw [hqS] at hsm1
  have e6:Le ⟨q.Ai,(Ch b P T a).1.Ae,q.An,(Ch b P T a).1.Al⟩ (Wt b (Ch b P T a).1)=Le (Q3 b P T a) (doP b P T a):=by rw [←hqS,hq,eP]
  refine Ok.bind (P:=λ y=>y=Le (Q3 b P T a) (doP b P T a)) (cU hsm1 e6) λ y hy=>?_
  subst hy
  have eD:doS b P T a=[(Ch b P T a).1]++Gu (F0 b (Ch b P T a).1) (Ch b P T a).1++(if Le (Q3 b P T a) (doP b P T a)=true then [] else [doP b P T a]):=by unfold doS Nn;rw [if_pos he]
  cases hsb:Le (Q3 b P T a) (doP b P T a) with
  | false=>
   rw [hsb] at eD
   refine Ok.bind (P:=λ y=>y=_) (cU (Q5 h (r:=⟨⟨T,P,ros,evs⟩,b,ev++doE b P T a,sts++([(Ch b P T a).1]++Gu (F0 b (Ch b P T a).1) (Ch b P T a).1)⟩) p2 (by simp [Oj];omega)) rfl) λ y hy=>Ok.pure ?_
   subst hy
   rw [eD,eP]
   simp
  | true=>
   rw [hsb] at eD
   refine Ok.pure ?_
   rw [eD,eP]
   simp
set_option linter.unusedVariables false
theorem jO {s:Af} (hs:A1 s):Ok (uE s) λ y=>A1 y.2:=by
 unfold uE
 refine (Ok.mkI (by omega) (by omega)).bind λ l hl=>?_
 subst hl
 refine Ok.andThen (A:=λ z=>A1 ⟨z.1,z.2.1⟩) (B:=λ (_:Unit)=>False) ?_ (λ z hz=>Ok.pure hz) (λ _ h=>h.elim)
 refine c8 (I:=λ _ z=>A1 ⟨z.1,z.2.1⟩/\z.2.2.length=12) ⟨hs,by simp⟩ (λ j x z hx hz=>?_) λ z hz=>hz.1
 have hj:=(aa.1 hx).1
 simp only [List.length_replicate] at hj
 have hj2:j<12:=hj
 unfold Ag8
 rw [Cw (by omega)]
 refine (Cv hz.1 _ (by simp) (by simp)).bind λ y hy=>(cV (by omega) (by omega)).bind λ _ _=>(cY (by omega) (by omega)).bind λ w hw=>c7 ⟨hy.1,?_⟩
 rw [hw,bn];exact hz.2
theorem W8 {s:Af} (hs:A1 s):Ok (uW s) λ y=>A1 y.2:=by
 unfold uW
 exact (jO hs).bind λ a ha=>(jO ha).bind λ b hb=>(jO hb).bind λ c hc=>Ok.pure hc
theorem pick {s:Af} (hs:A1 s) (l:List Int) (h:1<=l.length) (h1:l.length<=1000):Ok (F20 s l) λ y=>A1 y.2:=(Cv hs l h h1).mono λ _ h=>h.1
theorem Avl {s:Af} (hs:A1 s):Ok (F82 s) λ y=>A1 y.2:=by
 unfold F82
 exact (W8 hs).bind λ a ha=>(W8 ha).bind λ b hb=>(W8 hb).bind λ c hc=>(pick hc _ (by simp) (by simp)).bind λ d hd=>(pick hd _ (by simp) (by simp)).bind λ e he=>(pick he _ (by simp) (by simp)).bind λ f hf=>(pick hf _ (by simp) (by simp)).bind λ g hg=>Ok.pure hg
theorem Au2 {s:Af} (hs:A1 s) {n:Int} (hn:0<=n/\n<=8):Ok (F86 s n) λ y=>A1 y.2:=by
 unfold F86
 rw [A0 (by omega)]
 refine (C4 hs (n+1) (by omega) (by omega)).bind λ k hk=>?_
 refine Ok.andThen (A:=λ z=>A1 ⟨z.2.1,z.2.2.1⟩) (B:=λ (_:Unit)=>False) ?_ (λ z hz=>Ok.pure hz) (λ _ h=>h.elim)
 have hk2:=hk.2
 refine c9 (λ z=>(0<=z.1/\z.1+(z.2.2.2.length:Int)<=n)/\A1 ⟨z.2.1,z.2.2.1⟩) (λ z=>z.1.toNat) _ _ ⟨by simp;omega,hk.1⟩ (by dsimp only;omega) ?_
 rintro⟨k,L,a,l⟩ ⟨⟨h1,h2⟩,h3⟩
 dsimp only at h1 h2 h3
 unfold Aoe Atl
 refine c6 (λ hc=>?_) (λ _=>cX h3)
 simp only [dE] at hc
 refine Ok.bind (P:=λ y=>A1 y.2) ((C4 h3 4 (by omega) (by omega)).bind λ u hu=>(pick hu.1 _ (by simp) (by simp)).bind λ v hv=>(pick hv _ (by simp) (by simp)).bind λ w hw=>(pick hw _ (by simp) (by simp)).bind λ x hx=>Ok.pure hx) λ y hy=>(cW (by simp;omega)).bind λ m hm=>c7 ?_
 subst hm
 dsimp only
 rw [A0 (n:=k-1) (by omega)]
 exact⟨⟨by simp;omega,hy⟩,by omega⟩
theorem Arf {s:Af} (hs:A1 s):Ok (F87 s) λ y=>A1 y.2:=by
 unfold F87
 exact (pick hs _ (by simp) (by simp)).bind λ a ha=>(pick ha _ (by simp) (by simp)).bind λ b hb=>(pick hb _ (by simp) (by simp)).bind λ c hc=>(pick hc _ (by simp) (by simp)).bind λ d hd=>(pick hd _ (by simp) (by simp)).bind λ e he=>(pick he _ (by simp) (by simp)).bind λ f hf=>(pick hf _ (by simp) (by simp)).bind λ g hg=>(pick hg _ (by simp) (by simp)).bind λ i hi=>(pick hi _ (by simp) (by simp)).bind λ j hj=>Ok.pure hj
theorem Am6 {s:Af} (hs:A1 s):Ok (Aks s) λ y=>A1 y.2:=by
 unfold Aks
 exact (pick hs _ (by simp) (by simp)).bind λ a ha=>(pick ha _ (by simp) (by simp)).bind λ b hb=>(pick hb _ (by simp) (by simp)).bind λ c hc=>(pick hc _ (by simp) (by simp)).bind λ d hd=>Ok.pure hd
theorem Axp {s:Af} (hs:A1 s):Ok (F88 s) λ y=>A1 y.2:=by
 unfold F88 F79
 refine Ok.bind (P:=λ y=>A1 y.2) ((C4 hs 3 (by omega) (by omega)).bind λ a ha=>(cV ha.2.1 (by have:=ha.2.2;simp;omega)).bind λ t _=>Ok.pure ha.1) λ b hb=>?_
 exact (Fu hb 1 3 (by omega) (by omega) (by omega)).bind λ c hc=>(Am6 hc.1).bind λ d hd=>(pick hd _ (by simp) (by simp)).bind λ e he=>Ok.pure he
theorem Asq {s:Af} (hs:A1 s):Ok (F90 s) λ y=>A1 y.2:=by
 unfold F90
 exact (pick hs _ (by simp) (by simp)).bind λ a ha=>Ok.pure ha
theorem Alz {k:Int} (h0:0<=k) (h1:k<=4):Ok (Ah2 [IntKind.wrap .u8 (w64 (97+k))]) λ s=>s.size=1:=by
 have h:k=0\/k=1\/k=2\/k=3\/k=4:=by omega
 rcases h with rfl | rfl | rfl | rfl | rfl
 ·exact⟨⟨#[97]⟩,by kernel_rfl,rfl⟩
 ·exact⟨⟨#[98]⟩,by kernel_rfl,rfl⟩
 ·exact⟨⟨#[99]⟩,by kernel_rfl,rfl⟩
 ·exact⟨⟨#[100]⟩,by kernel_rfl,rfl⟩
 ·exact⟨⟨#[101]⟩,by kernel_rfl,rfl⟩
theorem Aux {s:Af} (hs:A1 s):Ok (F89 s) λ y=>A1 y.2:=by
 unfold F89
 refine Ok.andThen (A:=λ z=>A1 ⟨z.2.1,z.2.2.1⟩) (B:=λ (_:Unit)=>False) ?_ (λ z hz=>Ok.pure hz) (λ _ h=>h.elim)
 refine c9 (λ z=>(0<=z.1/\z.1<=5/\(z.2.2.2.length:Int)<=z.1)/\A1 ⟨z.2.1,z.2.2.1⟩) (λ z=>(5-z.1).toNat) _ _ ⟨by simp,hs⟩ (by simp) ?_
 rintro⟨k,L,a,l⟩ ⟨⟨h1,h2,h3⟩,h4⟩
 dsimp only at h1 h2 h3 h4
 unfold Aod
 refine (C4 h4 5 (by omega) (by omega)).bind λ u hu=>c6 (λ hc=>?_) (λ _=>cX hu.1)
 have hu2:=hu.2
 simp only [At6,aA,dE,dG] at hc
 refine c6 (λ _=>cX hu.1) (λ _=>?_)
 have hk:k<=4:=by omega
 refine (Alz h1 hk).bind λ t ht=>?_
 have hcat:nzI (Acl (⟨#[115]⟩:ByteArray) t)=some ():=by
  unfold Acl
  rw [ht];rfl
 refine Ok.bind (P:=λ _=>True) (cU hcat trivial) λ _ _=>(pick hu.1 _ (by simp) (by simp)).bind λ v hv=>(Fu hv 1 3 (by omega) (by omega) (by omega)).bind λ w hw=>(Agy hw.1 (by omega) (by omega)).bind λ x hx=>(cW (by simp;omega)).bind λ m hm=>c7 ?_
 subst hm
 dsimp only
 rw [A0 (n:=k+1) (by omega)]
 exact⟨⟨by simp;omega,hx.1⟩,by omega⟩
structure Aad (v:Bb):Prop where
 ship:Yz v.Ship
 Ao:Ax v.Board
 table:V0 v.Table
 des:Ox v.Design
theorem Ax.thr {b:Aa} (h:Ax b) {l:List A7} (hl:l.length=b.Ag.length) (hc:∀ (i:Nat) x y,b.Ag[i]? = some x->l[i]? = some y->y=⟨x.Load,x.Least,x.Bz,y.Thruster,x.Needs⟩ /\ -1<=y.Thruster/\y.Thruster<=7):Ax ⟨b.Am,b.Ah,b.Ae,l,b.Phase,b.Aq⟩ where
 buses:=h.buses
 brl:=h.brl
 sol:=h.sol
 col:=by dsimp only;rw [hl];exact h.col
 phase:=h.phase
 freq:=h.freq
 br:=by dsimp only;rw [hl];exact h.br
 one:=h.one
 any:=by dsimp only;rw [hl];exact h.any
 nodup:=h.nodup
 so:=h.so
 co i y hy:=by
  dsimp only at hy
  have hi:=(aa.1 hy).1
  have hx:b.Ag[i]? = some (b.Ag[i]'(by omega)):=ai (by omega)
  obtain⟨e,h1⟩:=hc i _ y hx hy
  obtain⟨c1,c2,c3,c4,c5⟩:=h.co i _ hx
  rw [e]
  exact⟨c1,c2,c3,h1,c5⟩
theorem Ak6 {b:Aa} (h:Ax b) {x:Ca} (hx:x.A3.length<=7) {s:Af} (hs:A1 s) (t1 t2:Af) :
  Ok (whileN (Adr (x,t1) (b,t2)) 1152921504606846976 (0,s.L,s.At,b.Ag)) (Eo (λ z=>Ax ⟨b.Am,b.Ah,b.Ae,z.2.2.2,b.Phase,b.Aq⟩/\z.2.2.2.length=b.Ag.length/\A1 ⟨z.2.1,z.2.2.1⟩) λ (_:Unit)=>False):=by
 have hcl:=h.col
 refine c9 (λ z=>(0<=z.1/\z.1<=(b.Ag.length:Int))/\A1 ⟨z.2.1,z.2.2.1⟩/\z.2.2.2.length=b.Ag.length/\∀ (i:Nat) x y,b.Ag[i]? = some x->z.2.2.2[i]? = some y->y=⟨x.Load,x.Least,x.Bz,y.Thruster,x.Needs⟩ /\ -1<=y.Thruster/\y.Thruster<=7) (λ z=>((b.Ag.length:Int)-z.1).toNat) _ _ ⟨by dsimp only;omega,hs,rfl,λ i x y hx hy=>?_⟩ (by dsimp only;omega) ?_
 ·dsimp only at hy
  rw [hx] at hy;cases hy
  exact⟨rfl,(h.co i x hx).2.2.2.1⟩
 rintro⟨k,L,a,l⟩ ⟨⟨h1,h2⟩,h3,h4,h5⟩
 dsimp only at h1 h2 h3 h4 h5
 unfold Adr
 refine c6 (λ hc=>?_) (λ _=>cX ⟨h.thr h4 h5,h4,h3⟩)
 simp only [Aug,dE] at hc
 dsimp only
 rw [A0 (n:=(x.A3.length:Int)-1) (by omega),A0 (n:=k+1) (by omega)]
 refine (Fu h3 (-1) _ (by omega) (by omega) (by omega)).bind λ u hu=>(cV (by omega) (by omega)).bind λ c hc2=>(cY (by omega) (by omega)).bind λ m hm=>c7 ?_
 subst hm
 refine⟨⟨by dsimp only;omega,hu.1,by simpa using h4,λ i x y hx hy=>?_⟩,by dsimp only;omega⟩
 rw [ay] at hy
 have hi:=(aa.1 hx).1
 split at hy
 ·rename_i e
  rw [if_pos (by omega)] at hy
  cases hy
  obtain⟨g1,g2⟩:=h5 i x c hx (by rw [←e];exact hc2)
  have hu2:=hu.2
  dsimp only
  exact⟨by rw [g1],by omega,by omega⟩
 ·exact h5 i x y hx hy
theorem yO {s:Af} (hs:A1 s):Ok (F43 s) λ y=>Aad y.1/\A1 y.2:=by
 unfold F43
 refine (Avl hs).bind λ y1 h1=>(Asu h1 (n:=2) (by omega)).bind λ y3 h3=>(Atp h3.2).bind λ y5 h5=>(Ast h5.2).bind λ y7 h7=>(Au2 h7.2 (n:=3) (by omega)).bind λ y9 h9=>(Arf h9).bind λ y11 h11=>(pick h11 _ (by simp) (by simp)).bind λ y13 h13=>(Axp h13).bind λ y15 h15=>(Aux h15).bind λ y17 h17=>?_
 refine (Fu h17 (-50) 50 (by omega) (by omega) (by omega)).bind λ y19 h19=>(Fu h19.1 (-50) 50 (by omega) (by omega) (by omega)).bind λ y21 h21=>(Asq h21.1).bind λ y23 h23=>?_
 have hth:=h3.1.2
 refine (Ak6 h5.1.ok (x:=y3.1) (by omega) h23 y3.2 y5.2).andThen (λ z hz=>?_) (λ _ h=>h.elim)
 refine (Ak5 (C:=[0,(y5.1.Ae.length:Int),(y5.1.Ah.length:Int),y5.1.Am,(z.2.2.2.length:Int),(y3.1.A3.length:Int),(y9.1.length:Int),0,0,2]) (by simp) rfl hz.2.2).andThen (λ w hw=>?_) (λ _ h=>h.elim)
 have hwl:=hw.1.2.1
 refine (vV hw.1.1 (by omega) hw.2).bind λ y36 h36=>(X_ hw.1.1 (by omega) h36.2).bind λ y38 h38=>Ok.pure ⟨⟨h3.1.1,hz.1,h7.1,⟨hw.1.1,hw.1.ptOk,by dsimp only;omega,h36.1,h38.1⟩⟩,h38.2⟩
def Po:List Ab:=[(⟨1,0⟩:Ab),(⟨1,1⟩:Ab),(⟨5,0⟩:Ab),(⟨5,1⟩:Ab),(⟨6,0⟩:Ab),(⟨9,0⟩:Ab)]
theorem Qz:Dr Po:=by
 have h:Po.Pairwise λ a b=>Dh a b=true:=by decide +kernel
 exact h
theorem Air {l:List Ab} (hl:Dr l) (hn:l.length<=40) {s:Af} (hs:A1 s):Ok (F92 s l) λ y=>qU l y.1/\A1 y.2:=vV hl hn hs
theorem Afb {l:List Ab} (hl:Dr l) (hn:l.length<=30) {s:Af} (hs:A1 s):Ok (F93 s l) λ y=>Xj l y.1/\A1 y.2:=X_ hl hn hs
theorem Asv {s:Af} (hs:A1 s):Ok (F45 s) λ y=>Aad y.1/\A1 y.2:=by
 unfold F45
 refine (yO hs).bind λ y1 h1=>(cW (by simp)).bind λ b1 e1=>(C4 h1.2 3 (by omega) (by omega)).bind λ y5 h5=>(cW (by simp)).bind λ s1 e2=>(cW (by subst e1;simp)).bind λ b2 e3=>(C4 h5.1 3 (by omega) (by omega)).bind λ y11 h11=>(cW (by subst e2;simp)).bind λ s2 e4=>?_
 subst e1;subst e2;subst e3;subst e4
 have g0:Pf 2 [(⟨1,0,1⟩:Ak)] []:=Mi.gens (λ x hx=>by rw [aC.1 hx];exact⟨rfl,by decide,by decide,by decide⟩) (by simp)
 have hy5:=h5.2;have hy11:=h11.2
 have g1:=g0.add (x:=(⟨2,0,0⟩:Ak)) (y:=(⟨100,0,y5.1⟩:B1)) ⟨rfl,rfl,by decide,by decide⟩ ⟨by dsimp only;omega,by dsimp only;omega,by dsimp only;omega⟩
 have g2:=g1.add (x:=(⟨2,1,1⟩:Ak)) (y:=(⟨100,0,y11.1⟩:B1)) ⟨rfl,rfl,by decide,by decide⟩ ⟨by dsimp only;omega,by dsimp only;omega,by dsimp only;omega⟩
 have g3:=g2.cons
 have hg2:=g2.len
 refine Ok.andThen (A:=λ z=>A1 ⟨z.2.1,z.2.2.1⟩/\(∀ t,t∈z.2.2.2.2.1->Ji t)/\z.2.2.2.2.1.length=4/\R8 2 z.2.2.2.1 2 z.2.2.2.2.2/\z.2.2.2.2.2.length=4) (B:=λ (_:Unit)=>False) ?_ (λ z hz=>?_) (λ _ h=>h.elim)
 ·refine c9 (λ z=>(0<=z.1/\z.1<=4)/\A1 ⟨z.2.1,z.2.2.1⟩/\(∀ t,t∈z.2.2.2.2.1->Ji t)/\(z.2.2.2.2.1.length:Int)=z.1/\R8 2 z.2.2.2.1 2 z.2.2.2.2.2/\(z.2.2.2.2.2.length:Int)=z.1) (λ z=>(4-z.1).toNat) _ _ ⟨by simp,h11.1,by simp,by simp,g3,by simp⟩ (by simp) ?_
  rintro⟨k,L,a,br,th,co⟩ ⟨⟨q1,q2⟩,q3,q4,q5,q6,q7⟩
  dsimp only at q1 q2 q3 q4 q5 q6 q7
  have hbl:=q6.len
  unfold Aot
  refine c6 (λ hc=>?_) (λ hc=>?_)
  ·simp only [dE] at hc
   refine (cW (by simp;omega)).bind λ br2 e1=>(Cv q3 _ (by simp) (by simp)).bind λ u hu=>(C4 hu.1 3 (by omega) (by omega)).bind λ v hv=>(cW (by simp;omega)).bind λ co2 e2=>(Cv hv.1 _ (by simp) (by simp)).bind λ w hw=>(Cv hw.1 _ (by simp) (by simp)).bind λ x hx=>(cW (by simp;omega)).bind λ th2 e3=>c7 ?_
   subst e1;subst e2;subst e3
   rw [A0 (n:=k+1) (by omega)]
   have hu2:u.1=0\/u.1=5\/u.1=20:=by simpa using hu.2
   have hw2:w.1=50\/w.1=5:=by simpa using hw.2
   have hx2:x.1=1\/x.1=2:=by simpa using hx.2
   have hv2:=hv.2
   have hm:=Z0 (x:=k) (n:=2) (by omega) q1
   have hd:0<=Int.tdiv k 2/\Int.tdiv k 2<=1:=by
    have:Int.tdiv k 2=k / 2:=cF q1
    omega
   refine⟨⟨by dsimp only;omega,hx.1,λ t ht=>?_,by simp;omega,q6.add (m:=[⟨3,Int.tmod k 2,k⟩]) (λ z hz=>?_) (by simp) (by simp) (by simp) ⟨⟨by dsimp only;omega,by dsimp only;omega,by dsimp only;omega,by dsimp only;omega,by simp,by simp,by simp⟩,by dsimp only;omega⟩,by simp;omega⟩,by dsimp only;omega⟩
   ·rcases am.1 ht with ht | ht
    ·exact q4 t ht
    ·rw [aC.1 ht]
     rw [A0 (n:=Int.tdiv k 2) (by omega)]
     exact⟨by dsimp only;omega,by dsimp only;omega,by dsimp only;omega,by dsimp only;omega,by dsimp only;omega,by simp,by simp⟩
   ·rw [aC.1 hz]
    exact⟨rfl,by dsimp only;omega,hm⟩
  ·simp only [dF] at hc
   exact cX ⟨q3,q4,by dsimp only;omega,q6,by dsimp only;omega⟩
 ·obtain⟨z1,z2,z3,z4,z5⟩:=hz
  refine (Air Qz (by simp [Po]) z1).bind λ y30 h30=>(Afb Qz (by simp [Po]) h30.2).bind λ y32 h32=>Ok.pure ⟨⟨⟨by simp,by simp,by dsimp only;omega,z2⟩,?_,h1.1.table,⟨Qz,?_,by simp,h30.1,h32.1⟩⟩,h32.2⟩
  ·have hbl:=z4.len
   exact⟨by simp,by dsimp only;omega,by simp,by dsimp only;omega,by simp,by simp,by dsimp only;rw [z5];have:=z4.br;rw [z5] at this;exact this,z4.one,z4.any,z4.nodup,g2.so,λ i x hx=>(z4.co i x hx).1⟩
  ·intro p hp
   have h:∀ p,p∈Po->Fw p:=by
    unfold Fw Po
    simp
   exact h p hp
theorem Ahz {s:Af} (hs:A1 s):Ok (F11 s) λ y=>Aad y.1/\((∀ t,V1 y.1.Board t y.2.1)/\(5<=y.2.1.Time/\y.2.1.Time<=20)/\y.2.1.Bh=[]/\y.2.1.Power.Al.length<=4)/\A1 y.2.2:=by
 unfold F11
 refine (yO hs).bind λ v hv=>(C4 hv.2 2 (by omega) (by omega)).bind λ u hu=>c6 (λ _=>?_) (λ _=>?_)
 ·refine (Asv hu.1).bind λ w hw=>(Add hw.1.Ao hw.2).bind λ p hp=>Ok.pure ⟨hw.1,hp.1,hp.2⟩
 ·refine (Add hv.1.Ao hu.1).bind λ p hp=>Ok.pure ⟨hv.1,hp.1,hp.2⟩
set_option linter.unusedVariables false
theorem Acb {b:Aa} (h:Ax b) {p:Ad} (hp:Av b p) (T:Int) (a:Aw):(doE b p T a).length<=10001:=by
 unfold doE
 split
 ·rename_i he
  have:=(Q0 h (Ab9 h hp he).1).2.2
  simp;omega
 ·simp
theorem A2c {b:Aa} (h:Ax b) {p:As} (hp:Av b p.Power) (h1:p.Ba.length<=1000) (h2:p.Bh.length<=9000000) (a:Aw) :
  F54 b p a=some (⟨p.Time,doP b p.Power p.Time a,p.Ba,p.Bh++doE b p.Power p.Time a⟩,doS b p.Power p.Time a,0):=by
 have hl:=Acb h hp p.Time a
 refine d5 ?_
 unfold F54
 rw [E2 h hp]
 simp only [ac]
 refine c6 (λ hc=>by simp at hc) (λ _=>?_)
 refine Ok.bind (P:=λ v=>v=⟨p,b,[],[]⟩) (cU (Asl h hp h1 (by omega)) rfl) λ v hv=>?_
 subst hv
 have hd:=A2r h (T:=p.Time) (P:=p.Power) (ros:=p.Ba) (evs:=p.Bh) (ev:=[]) (sts:=[]) hp (by simp) (by simp) a
 refine Ok.bind (P:=λ v=>v=_) (cU hd rfl) λ v hv=>?_
 subst hv
 refine (cW (l:=p.Bh) (m:=[]++doE b p.Power p.Time a) (by simp;omega)).bind λ u hu=>Ok.pure ?_
 rw [hu];rfl
theorem Alp {p:Ab} (h:Fw p):ptB p=true:=by
 unfold Fw at h
 have e:∀ n:Int,0<=n->n<=63->(Lit.int .i64 n).wf=true:=λ n h1 h2=>by
  have m1:IntKind.i64.min = -9223372036854775808:=by decide +kernel
  have m2:IntKind.i64.max=9223372036854775807:=by decide +kernel
  simp only [Lit.wf,m1,m2,ab,dE]
  omega
 unfold ptB
 rw [e _ (by omega) (by omega),e _ (by omega) (by omega)];rfl
theorem Afe {L:List A6} {b:List Ab} {p:Ab} (h:p∈Hn L b):p∈b\/∃ x,x∈L/\x.To=p:=by
 have h2:=(Mw L b p).1 h
 clear h
 induction h2 with
 | «at» h=>exact .inl h
 | «by» _ x hx _ e2 _=>exact .inr ⟨x,hx,e2⟩
theorem Ai2 (L:List A6) (b:List Ab):(Hn L b).length<=b.length+L.length:=by
 have h:=Lo (Ye L b) (m:=b++L.map (·.To)) λ p hp=>by
  rcases Afe hp with h | ⟨x,hx,e⟩
  ·exact bf _ h
  ·exact bi _ (ao.2 ⟨x,hx,e⟩)
 simpa using h
theorem Aro {d:A4} (h:Ox d) {b:List Ab} (hb:∀ p,p∈b->Fw p) (hn:b.length<=1000):F51 d b=some (Hn d.Links b):=by
 have h2:=h.links.len
 unfold F51 Yf
 rw [Wg h]
 have e:R7 b=some b:=Hj (by omega)
 rw [e]
 have e2:okF d.Links b=true:=by
  simp only [okF,ab,dE,aH]
  exact⟨⟨λ p hp=>Alp (hb p hp),λ x hx=>Alp (h.ok _ (h.links.mem x hx).2.1)⟩,by omega⟩
 simp only [ac,e2]
 rfl
theorem Ae6 {b:Aa} (h:Ax b) {p:Ab} (hp:Ct b p):Fw p:=by
 have h1:=h.buses;have h2:=h.brl;have h3:=h.sol;have h4:=h.col
 unfold Ct at hp
 unfold Fw
 omega
theorem Ah0 {l m:List Int} (hl:l.length<=1000):Ok (F57 l m) λ y=>y.length=l.length/\∀ (i:Nat) v,y[i]? = some v->(l[i]? = some v/\¬(i:Int)∈m)\/v=0:=by
 unfold F57
 refine Ok.bind (P:=λ y=>y=l) (cU (Hj (by omega)) rfl) λ y hy=>?_
 subst hy
 refine Ok.andThen (A:=λ z=>z.length=y.length/\∀ (i:Nat) v,z[i]? = some v->(y[i]? = some v/\¬(i:Int)∈m)\/v=0) (B:=λ (_:Unit)=>False) ?_ (λ z hz=>Ok.pure hz) (λ _ h=>h.elim)
 refine c8 (I:=λ j z=>z.length=y.length/\∀ (i:Nat) v,z[i]? = some v->(y[i]? = some v/\¬(i:Int)∈m.take j)\/v=0) ⟨rfl,λ i v hv=>.inl ⟨hv,by simp⟩⟩ (λ j x z hx hz=>?_) λ z hz=>by rw [aB] at hz;exact hz
 unfold Aor
 rw [Bp hx]
 refine c6 (λ hc=>?_) (λ hc=>c7 ⟨hz.1,λ i v hv=>(hz.2 i v hv).imp (λ h=>⟨h.1,λ hm=>?_⟩) id⟩)
 ·simp only [Ajk,ab,dE] at hc
  refine (cV hc.1 hc.2).bind λ _ _=>(cY hc.1 hc.2).bind λ w hw=>c7 ?_
  subst hw
  refine⟨by rw [bn];exact hz.1,λ i v hv=>?_⟩
  rw [ay] at hv
  split at hv
  ·split at hv
   ·cases hv;exact .inr rfl
   ·cases hv
  ·refine (hz.2 i v hv).imp (λ h=>⟨h.1,λ hm=>?_⟩) id
   rcases am.1 hm with hm | hm
   ·exact h.2 hm
   ·rw [aC] at hm;omega
 ·rcases am.1 hm with hm | hm
  ·exact h.2 hm
  ·rw [aC] at hm
   have hi:=(aa.1 hv).1
   simp only [Ajk,ch,dF] at hc
   omega
theorem Acg {b:Aa} (h:Ax b) {p:As} (hp:Av b p.Power) (h1:p.Ba.length<=1000) (h2:p.Bh.length<=10000000):F56 p=some p:=by
 have g1:=hp.ncl;have g2:=hp.nso;have g3:=hp.nli;have g4:=hp.brk.len
 have k1:=h.brl;have k2:=h.sol;have k3:=h.col
 unfold F56 vB vA uZ uY Pj R7
 rw [Hj (by omega),Hj (by omega),Hj (by omega),Hj (by omega),Hj (by omega),Hj (by omega)]
 rfl
structure Aft (v:Bb) (all:List Ab) (y:As×List Int×Int):Prop where
 err:y.2.2=0
 st:Av v.Board y.1.Power
 len:y.2.1.length=v.Ship.A3.length
 able:∀ (i:Nat) t n,v.Ship.A3[i]? = some t->y.2.1[i]? = some n->(0<=n/\n<=t.Max)/\(n≠0->(∃ j:Nat,own v.Board i=(j:Int)/\svB v.Board y.1.Power 1000 j=true)/\¬(⟨5,(i:Int)⟩:Ab)∈all)
theorem Atq {v:Bb} (h:Aad v) {p:As} (hp:V1 v.Board v.Table p) (he:p.Bh.length<=200) {broken fails:List Ab} (hb:∀ x,x∈broken->Fw x) (hf:∀ x,x∈fails->Fw x) (hbn:broken.length<=20) (hfn:fails.length<=40) :
  Ok (F14 v p broken fails) (Aft v (Hn v.Design.Links (broken++(p.Power.Al++fails)))):=by
 have hB:=h.Ao
 have hS:=hp.st
 have hbl:=hS.brk.len
 have hlk:=h.des.links.len
 have hro:=hp.nro
 have hbu:=hB.buses
 unfold F14
 rw [zO hB h.table hp,Wg h.des]
 simp only [ac]
 refine c6 (λ hc=>by simp at hc) (λ _=>c6 (λ hc=>by simp at hc) (λ _=>?_))
 have ec:F52 [broken,p.Power.Al,fails]=some (broken++(p.Power.Al++fails)):=by
  have e:[broken,p.Power.Al,fails].flatten=broken++(p.Power.Al++fails):=by simp
  unfold F52 Vv
  rw [e,dJ (by simp;omega)];rfl
 rw [ec]
 have hall:∀ x,x∈broken++(p.Power.Al++fails)->Fw x:=λ x hx=>by
  rcases am.1 hx with hx | hx
  ·exact hb x hx
  ·rcases am.1 hx with hx | hx
   ·exact Ae6 hB (hS.brk.mem x hx)
   ·exact hf x hx
 have hbase:(broken++(p.Power.Al++fails)).length<=92:=by simp;omega
 generalize broken++(p.Power.Al++fails)=base at hall hbase
 simp only [ac]
 rw [Aro h.des hall (by omega)]
 simp only [ac]
 have hfl:=Ai2 v.Design.Links base
 generalize Hn v.Design.Links base=all at hfl
 refine Ok.andThen (A:=λ z=>Av v.Board ⟨z.2.2.1,z.2.2.2.1,z.2.2.2.2.1,z.2.2.2.2.2.1⟩/\z.2.2.2.2.2.2.1=p.Ba/\z.2.2.2.2.2.2.2.length<=2000000/\∀ x,x∈all->x.Kind=5->x.Number∈z.1) (B:=λ _=>False) ?_ (λ z hz=>?_) (λ _ h=>h.elim)
 ·refine c8 (I:=λ j z=>(Av v.Board ⟨z.2.2.1,z.2.2.2.1,z.2.2.2.2.1,z.2.2.2.2.2.1⟩/\z.2.2.2.2.2.2.1=p.Ba/\z.2.2.2.2.2.2.2.length<=200+10001*j/\∀ x,x∈all.take j->x.Kind=5->x.Number∈z.1)/\z.1.length<=j) ⟨⟨hS,rfl,by dsimp only;omega,by simp⟩,by simp⟩ (λ j x z hx hz=>?_) λ z hz=>?_
  ·obtain⟨⟨z1,z2,z3,z4⟩,z5⟩:=hz
   have hj:=(aa.1 hx).1
   unfold Apw
   refine Ok.inner (A:=λ w=>w.length<=j+1/\∀ y,y∈all.take (j+1)->y.Kind=5->y.Number∈w) (B:=λ (_:Unit)=>False) ?_ (λ w hw=>?_) (λ _ h=>h.elim)
   ·unfold Apv
    refine c6 (λ hc=>(cW (by simp;omega)).bind λ m hm=>d7 ?_) (λ hc=>d7 ?_)
    ·subst hm
     refine⟨by simp;omega,λ y hy hk=>?_⟩
     rw [Bp hx] at hy
     rcases am.1 hy with hy | hy
     ·exact bf _ (z4 y hy hk)
     ·rw [aC.1 hy];exact bi _ (aC.2 rfl)
    ·refine⟨by omega,λ y hy hk=>?_⟩
     rw [Bp hx] at hy
     rcases am.1 hy with hy | hy
     ·exact z4 y hy hk
     ·rw [aC.1 hy] at hk
      rw [hk] at hc;cases hc
   ·refine Ok.bind (P:=λ _=>True) (cT (λ _=>cU (Vr _ _ (by omega)) trivial) λ _=>trivial) λ u _=>c6 (λ _=>c7 ⟨⟨z1,z2,by dsimp only;omega,hw.2⟩,hw.1⟩) (λ _=>?_)
    have hd:=A2c hB (p:=⟨z.2.1,⟨z.2.2.1,z.2.2.2.1,z.2.2.2.2.1,z.2.2.2.2.2.1⟩,z.2.2.2.2.2.2.1,z.2.2.2.2.2.2.2⟩) z1 (by dsimp only;rw [z2];omega) (by dsimp only;omega) ⟨8,x.Number,x.Kind⟩
    refine Ok.bind (P:=λ y=>y=_) (cU hd rfl) λ y hy=>?_
    subst hy
    refine c6 (λ hc=>by simp at hc) (λ _=>c7 ⟨⟨Azh hB z1 _ _,z2,?_,hw.2⟩,hw.1⟩)
    have:=Acb hB z1 z.2.1 ⟨8,x.Number,x.Kind⟩
    dsimp only
    rw [aF]
    omega
  ·rw [aB] at hz
   exact⟨hz.1.1,hz.1.2.1,by omega,hz.1.2.2.2⟩
 ·obtain⟨z1,z2,z3,z4⟩:=hz
  refine (Av7 hB z1 h.ship).bind λ y hy=>?_
  obtain⟨y1,y2,y3⟩:=hy
  refine c6 (λ hc=>by simp [y1] at hc) (λ _=>?_)
  rw [Acg hB (p:=⟨z.2.1,⟨z.2.2.1,z.2.2.2.1,z.2.2.2.2.1,z.2.2.2.2.2.1⟩,z.2.2.2.2.2.2.1,z.2.2.2.2.2.2.2⟩) z1 (by dsimp only;rw [z2];omega) (by dsimp only;omega)]
  have hsl:=h.ship.len
  refine (Ah0 (m:=z.1) (by omega)).bind λ w hw=>Ok.pure ⟨rfl,z1,by rw [←y2];exact hw.1,λ i t n ht hn=>?_⟩
  have htm:=(h.ship.thr t (ae ht)).max
  rcases hw.2 i n hn with⟨g1,g2⟩ | rfl
  ·obtain⟨a1,a2,a3⟩:=y3 i t n ht g1
   exact⟨a1,λ h0=>⟨a3 h0,λ hm=>g2 (z4 _ hm rfl)⟩⟩
  ·exact⟨⟨by omega,htm.1⟩,λ h0=>absurd rfl h0⟩
set_option linter.unusedVariables false
theorem Ap5 {b:Aa} {p:Ad} {i:Nat} (h:svB b p 1000 i=true):∃ a:Int,E6 b p 3 (i:Int)=some a/\Is b p a.toNat=true:=by
 have e:svB b p 1000 i=(M0 b p i&&(b.Ag.getD i default).Needs.all λ n=>svB b p 999 n.toNat):=rfl
 rw [e,ab] at h
 have h1:=h.1
 unfold M0 at h1
 split at h1
 ·cases h1
 ·rename_i a ha
  simp only [ab] at h1
  exact⟨a,ha,h1.1.1⟩
theorem Led.sub {L:List A6} {b c:List Ab} (h:∀ x,x∈b->x∈c) {p:Ab} (hp:Led L b p):Led L c p:=by
 induction hp with
 | «at» h1=>exact .at (h _ h1)
 | «by» _ x hx e1 e2 ih=>exact .by ih x hx e1 e2
theorem Asf {b:Aa} (h:Ax b) {p:Ad} (hp:Av b p):Ok (F30 b p) λ y=>y=true->∀ n:Nat,n<b.Am.toNat->Is b p n=false:=by
 have hbu:=h.buses
 unfold F30
 refine Ok.andThen (A:=λ _=>∀ n:Nat,n<b.Am.toNat->Is b p n=false) (B:=λ r=>r=false) ?_ (λ z hz=>?_) (λ r hr=>Ok.pure λ e=>by rw [hr] at e;cases e)
 ·refine c9 (λ z=>∃ k:Nat,z=(k:Int)/\(k:Int)<=b.Am/\∀ n:Nat,n<k->Is b p n=false) (λ z=>(b.Am-z).toNat) _ _ ⟨0,rfl,by omega,by omega⟩ (by omega) λ z hz=>?_
  obtain⟨k,rfl,h1,h2⟩:=hz
  unfold Aph
  refine c6 (λ hc=>?_) (λ hc=>cX λ n hn=>h2 n ?_)
  ·simp only [Ajm,ab,dE] at hc
   rw [Alw h hp (by omega),A0 (by omega)]
   simp only [ac]
   refine c6 (λ _=>Ok.ret rfl) (λ hl=>c7 ⟨⟨k+1,rfl,by omega,λ n hn=>?_⟩,by omega⟩)
   by_cases e:n=k
   ·rw [e];exact hl
   ·exact h2 n (by omega)
  ·simp only [Ajm,ch,dF] at hc
   omega
 ·rw [K4 h hp]
  exact Ok.pure λ _=>hz
theorem Alj:F9=some true:=by kernel_rfl
theorem consequenceThrusters_law (t:List Int):F6 t=some true:=by
 refine d5 ?_
 unfold F6
 refine c6 (λ _=>by rw [Alj];exact Ok.pure rfl) (λ _=>(A00 t).bind λ s hs=>(Ahz hs).bind λ w hw=>(Asx hw.2.2 (n:=3) (by omega)).bind λ f hf=>?_)
 obtain⟨hv,⟨hp,hT,hE,_⟩,_⟩:=hw
 have hB:=hv.Ao
 refine (Atq hv (hp w.1.Table) (by rw [hE];simp) (broken:=[]) (fails:=f.1) (by simp) (λ x hx=>(hf.1 x hx).1) (by simp) (by have:=hf.2.1;omega)).bind λ y hy=>?_
 obtain⟨a1,a2,a3,a4⟩:=hy
 refine c6 (λ hc=>by simp [Azo,a1,a3] at hc) (λ _=>(Asf hB a2).bind λ bl hbl=>?_)
 refine Ok.andThen (A:=λ _=>True) (B:=λ _=>False) ?_ (λ _ _=>by rw [Alj];exact Ok.pure rfl) (λ _ h=>h.elim)
 refine c8 (I:=λ _ _=>True) trivial (λ j n z hn _=>?_) λ _ _=>trivial
 have hj:=(aa.1 hn).1
 have hsl:=hv.ship.len
 have hbl2:=((hp w.1.Table).st).brk.len
 have hf2:=hf.2.1
 have hul:=Xv w.2.1.Power.Al f.1
 unfold Aun
 rw [Cw (by omega),Xw (by omega),ac,Ai3 hv.des (by omega),ac]
 refine Ok.bind (P:=λ u=>u=Df _ _) (cU (K_ _ _) rfl) λ u hu=>?_
 subst hu
 have ht:w.1.Ship.A3[j]? = some (w.1.Ship.A3[j]'(by omega)):=ai (by omega)
 obtain⟨b1,b2⟩:=a4 j _ n ht hn
 refine Ok.bind (P:=λ t=>t=w.1.Ship.A3[j]'(by omega)) (cT (λ _=>(cV (by omega) (by omega)).mono λ x hx=>?_) λ hnn=>absurd ⟨by simp;omega,trivial⟩ hnn) λ th hth=>?_
 ·rw [aE,ht] at hx
  exact (bc hx).symm
 subst hth
 refine c6 (λ hc=>?_) (λ _=>c7 trivial)
 exfalso
 simp only [Azn,aA,dE,ab,bne_iff_ne,ne_eq] at hc
 rcases hc with (hc | hc) | ⟨hc,h0⟩
 ·omega
 ·omega
 ·obtain⟨⟨k,_,hk⟩,hm⟩:=b2 h0
  rcases hc with hc | hc
  ·refine hm ((Mw _ _ _).2 ?_)
   have hl:=(Mw _ _ _).1 (Gc.1 hc)
   refine hl.sub λ x hx=>?_
   show x∈w.2.1.Power.Al++f.1
   rcases Qo.1 hx with hx | hx
   ·exact bf _ hx
   ·exact bi _ hx
  ·obtain⟨a,ha,hlv⟩:=Ap5 hk
   have:=Ns hB ha
   rw [hbl hc a.toNat (by omega)] at hlv;cases hlv
end Go.Proofs.YtiaaaghdkhnonaaGreat
