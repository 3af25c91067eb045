import Derived.Test.YtedojeimigneaaaGreatDoorSlV
set_option linter.defProp false
namespace Go.SL
def Ok{α:Type}(o:Option α)(P:α->Prop):Prop:=∃r,o=some r/\P r
section
variable{α β σ τ:Type}{P Q:α->Prop}
theorem Ok.mono{o:Option α}(h:Ok o P)(k:∀x,P x->Q x):Ok o Q:=by obtain⟨r,e,p⟩:=h;exact⟨r,e,k r p⟩
theorem Ok.pure{x:α}(h:P x):Ok (some x) P:=⟨x,rfl,h⟩
def ed:=@Ok.pure
theorem Ok.bind{o:Option α}{f:α->Option β}{R:β->Prop}(h:Ok o P)(k:∀x,P x->Ok (f x) R):Ok (o.bind f) R:=by obtain⟨r,e,p⟩:=h;subst e;exact k r p
def ec:=@Ok.bind
theorem dh{o:Option α}{x:α}(h:o=some x)(p:P x):Ok o P:=⟨x,h,p⟩
theorem di{o:Option α}{x:α}(h:Ok o (· = x)):o=some x:=by obtain⟨r,e,p⟩:=h;subst p;exact e
theorem c7{c:Bool}{x y:Option α}(ht:c=true->Ok x P)(hf:c=false->Ok y P):Ok (bif c then x else y) P:=by
 cases c with
 |true=>exact ht rfl
 |false=>exact hf rfl
theorem d7{l:List (Bool×Bool)}{x:Option α}{d:α}(ht:Dd l->Ok x P)(hf:¬Dd l->P d):Ok (Aw l x d) P:=by
 unfold Aw;cases h:D5 l with
 |true=>exact ht (Vs h)
 |false=>exact⟨d,rfl,hf λq=>by rw[Vt q]at h;cases h⟩
def Hg(A:σ->Prop)(B:τ->Prop):Ctl σ τ->Prop
 |.next s=>A s
 |.brk s=>A s
 |.ret r=>B r
def Mb(N:σ->Prop)(A:σ->Prop)(B:τ->Prop):Ctl σ τ->Prop
 |.next s=>N s
 |.brk s=>A s
 |.ret r=>B r
theorem c8{N A:σ->Prop}{B:τ->Prop}{s:σ}(h:N s):Ok (some (Ctl.next s)) (Mb N A B):=⟨_,rfl,h⟩
theorem d9{N A:σ->Prop}{B:τ->Prop}{s:σ}(h:A s):Ok (some (Ctl.brk s)) (Mb N A B):=⟨_,rfl,h⟩
theorem Ok.ret{N A:σ->Prop}{B:τ->Prop}{r:τ}(h:B r):Ok (some (Ctl.ret r)) (Mb N A B):=⟨_,rfl,h⟩
theorem dj{A:σ->Prop}{B:τ->Prop}{s:σ}(h:A s):Ok (some (Ctl.next s)) (Hg A B):=⟨_,rfl,h⟩
theorem Ok.inner{c:Option (Ctl σ τ)}{ρ υ:Type}{g:τ->Option (Ctl ρ υ)}{f:σ->Option (Ctl ρ υ)}{A:σ->Prop}{B:τ->Prop}{K:Ctl ρ υ->Prop}(h:Ok c (Hg A B))(ka:∀s,A s->Ok (f s) K)(kb:∀v,B v->Ok (g v) K):Ok (Go.SL.andThen c g f) K:=by
 obtain⟨r,e,p⟩:=h;subst e;cases r with
 |next s=>exact ka s p
 |brk s=>exact ka s p
 |ret v=>exact kb v p
theorem Ok.andThen{c:Option (Ctl σ τ)}{g:τ->Option α}{f:σ->Option α}{A:σ->Prop}{B:τ->Prop}(h:Ok c (Hg A B))(ka:∀s,A s->Ok (f s) P)(kb:∀v,B v->Ok (g v) P):Ok (Go.SL.andThen c g f) P:=by
 obtain⟨r,e,p⟩:=h;subst e;cases r with
 |next s=>exact ka s p
 |brk s=>exact ka s p
 |ret v=>exact kb v p
def d_:=@Ok.andThen
theorem Ok.foldI{f:Nat->α->σ->Option (Ctl σ τ)}{A:σ->Prop}{B:τ->Prop}(I:Nat->σ->Prop):∀(xs:List α)(i:Nat)(s:σ),I i s ->
  (∀j x s,xs[j]?=some x->I (i+j) s->Ok (f (i+j) x s) (Mb (I (i+j+1)) A B))->(∀s,I (i+xs.length) s->A s)->Ok (foldI f xs i s) (Hg A B)
 | [],i,s,h0,_,hf=>⟨_,rfl,hf s h0⟩
 | x::xs,i,s,h0,hs,hf=>by
  obtain⟨r,e,p⟩:=hs 0 x s rfl h0;unfold Go.SL.foldI;rw[bo]at e;rw[e];cases r with
  | next s'=>
   refine Ok.foldI I xs (i+1) s' p (λj y s hj hi=>?_) λs h=>hf s ?_
   .rw[show i+1+j=i+(j+1) from by omega]at hi ⊢;exact hs (j+1) y s hj hi
   .rw[aT,show i+(xs.length+1)=i+1+xs.length from by omega];exact h
  |brk s'=>exact⟨_,rfl,p⟩
  |ret v=>exact⟨_,rfl,p⟩
theorem c9{f:Nat->α->σ->Option (Ctl σ τ)}{A:σ->Prop}{B:τ->Prop}(I:Nat->σ->Prop){xs:List α}{s:σ}(h0:I 0 s)
  (hs:∀j x s,xs[j]?=some x->I j s->Ok (f j x s) (Mb (I (j+1)) A B))(hf:∀s,I xs.length s->A s):Ok (Go.SL.foldI f xs 0 s) (Hg A B):=by
 refine Ok.foldI I xs 0 s h0 (λj x s hj hi=>?_) λs h=>hf s ?_
 .rw[aJ]at hi ⊢;exact hs j x s hj hi
 .rw[aJ]at h;exact h
theorem Ok.foldE{f:α->σ->Option (Ctl σ τ)}{A:σ->Prop}{B:τ->Prop}(I:Nat->σ->Prop):∀(xs:List α)(i:Nat)(s:σ),I i s ->
  (∀j x s,xs[j]?=some x->I (i+j) s->Ok (f x s) (Mb (I (i+j+1)) A B))->(∀s,I (i+xs.length) s->A s)->Ok (foldE f xs s) (Hg A B)
 | [],i,s,h0,_,hf=>⟨_,rfl,hf s h0⟩
 | x::xs,i,s,h0,hs,hf=>by
  obtain⟨r,e,p⟩:=hs 0 x s rfl h0;unfold Go.SL.foldE;rw[e];cases r with
  | next s'=>
   refine Ok.foldE I xs (i+1) s' p (λj y s hj hi=>?_) λs h=>hf s ?_
   .rw[show i+1+j=i+(j+1) from by omega]at hi ⊢;exact hs (j+1) y s hj hi
   .rw[aT,show i+(xs.length+1)=i+1+xs.length from by omega];exact h
  |brk s'=>exact⟨_,rfl,p⟩
  |ret v=>exact⟨_,rfl,p⟩
theorem d4{f:σ->Option (Ctl σ τ)}{A:σ->Prop}{B:τ->Prop}(I:σ->Prop)(m:σ->Nat):∀(n:Nat)(s:σ),I s->m s<n ->
  (∀s,I s->Ok (f s) (Mb (λs'=>I s'/\m s'<m s) A B))->Ok (whileN f n s) (Hg A B)
 |0,s,_,hm,_=>absurd hm (Nat.not_lt_zero _)
 |n+1,s,h0,hm,hs=>by
  obtain⟨r,e,p⟩:=hs s h0;unfold Go.SL.whileN;rw[e];cases r with
  |next s'=>exact d4 I m n s' p.1 (by have:=p.2;omega) hs
  |brk s'=>exact⟨_,rfl,p⟩
  |ret v=>exact⟨_,rfl,p⟩
theorem d5{l:List α}{n:Int}(h0:0<=n)(h1:n<l.length):Ok (Go.SL.getI l n) λx=>l[n.toNat]?=some x:=by
 have:n.toNat<l.length:=by omega
 refine⟨l[n.toNat],?_,ak this⟩;unfold Go.SL.getI;rw[dU h0];exact ak this
theorem db{l:List α}{n:Int}{x:α}(h0:0<=n)(h1:n<l.length:=by omega):Ok (Go.SL.setI l n x) λy=>y=l.set n.toNat x:=by refine⟨_,?_,rfl⟩;unfold Go.SL.setI;rw[dU h0,dU h1];rfl
theorem Ok.mkI{B:Nat}{n:Int}{d:α}(h0:0<=n)(h1:n*B<=140737488355328):Ok (Go.SL.mkI B n d) λy=>y=List.replicate n.toNat d:=by refine⟨_,?_,rfl⟩;unfold Go.SL.mkI;rw[dU h0,dU h1];rfl
theorem Ok.cutI{l:List α}{lo hi:Int}(h0:0<=lo)(h1:lo<=hi)(h2:hi<=l.length):Ok (Go.SL.cutI l lo hi) λy=>y=(l.take hi.toNat).drop lo.toNat:=by refine⟨_,?_,rfl⟩;unfold Go.SL.cutI;rw[dU h0,dU h1,dU h2];rfl
theorem Ok.nzI{n:Int}(h:n≠0):Ok (Go.SL.nzI n) λ_=>True:=by refine⟨(),?_,trivial⟩;unfold Go.SL.nzI;rw[dR.2 h];rfl
theorem d6{B:Nat}{l m:List α}(h:(l.length+m.length)*B<=140737488355328):Ok (Go.SL.appI B l m) λy=>y=l++m:=by refine⟨_,?_,rfl⟩;unfold Go.SL.appI;rw[dU h];rfl
theorem Ok.insI{B:Nat}{l m:List α}{i:Int}(h:(l.length+m.length)*B<=140737488355328):Ok (Go.SL.insI B l i m) λy=>y=l.take i.toNat++(m++l.drop i.toNat):=by refine⟨_,?_,rfl⟩;unfold Go.SL.insI;rw[dU h];rfl
theorem Ok.bndI{k:Nat}{lo hi:Int}(h0:0<=lo)(h1:lo<=hi)(h2:hi<=k):Ok (Go.SL.bndI k lo hi) λ_=>True:=by refine⟨(),?_,trivial⟩;unfold Go.SL.bndI;rw[dU h0,dU h1,dU h2];rfl
theorem Ok.bnd3I{k:Nat}{lo hi mx:Int}(h0:0<=lo)(h1:lo<=hi)(h2:hi<=mx)(h3:mx<=k):Ok (Go.SL.bnd3I k lo hi mx) λ_=>True:=by refine⟨(),?_,trivial⟩;unfold Go.SL.bnd3I;rw[dU h0,dU h1,dU h2,dU h3];rfl
theorem Ok.appPI{l m:List α}{n:Nat}(h:n+m.length<=l.length):Ok (Go.SL.appPI l n m) λy=>y=l.take n++(m++l.drop (n+m.length)):=by refine⟨_,?_,rfl⟩;unfold Go.SL.appPI;rw[dU h];rfl
end
theorem A4{n:Int}(h:-9223372036854775808<=n/\n<=9223372036854775807:=by omega):w64 n=n:=IntWalk.i64_in n h
theorem E_{i:Nat}(h:i<=9223372036854775807:=by omega):cnt 0 i=(i:Int):=by rw[Q9 (by omega)];omega
def Sp{α:Type}(p:α->Bool)(xs:List α):Int:=match xs.findIdx? p with
 |some i=>(i:Int)
 |none=>-1
theorem P5{α:Type}{f:Nat->α->Unit->Option (Ctl Unit Int)}{p:α->Bool}(hf:∀i x,f i x ()=bif p x then some (.ret (cnt 0 i)) else some (.next ())) :
  ∀(xs:List α)(k:Nat),k+xs.length<=9223372036854775807->foldI f xs k ()=match xs.findIdx? p with
   |some i=>some (.ret ((i+k:Nat):Int))
   |none=>some (.next ())
 | [],k,_=>rfl
 | x::xs,k,h=>by
  simp only[aT]at h;simp only[foldI,hf,List.findIdx?_cons];cases hp:p x with
  |true=>simp only[eh];rw[E_];simp
  |false=>
   simp only[eg];rw[P5 hf xs (k+1) (by omega)];cases xs.findIdx? p with
   |none=>simp
   |some i=>simp;omega
theorem Ja{α:Type}{f:Nat->α->Unit->Option (Ctl Unit Int)}(p:α->Bool)(hf:∀i x,f i x ()=bif p x then some (.ret (cnt 0 i)) else some (.next ()))(xs:List α)(h:xs.length<=9223372036854775807) :
  andThen (foldI f xs 0 ()) some (λ_=>some (-1))=some (Sp p xs):=by
 rw[P5 hf xs 0 (by omega)];unfold Sp;cases xs.findIdx? p with
 |none=>rfl
 |some i=>rfl
theorem Lx{α:Type}(p:α->Bool)(xs:List α):decide (Sp p xs>=0)=xs.any p:=by
 unfold Sp;cases h:xs.findIdx? p with
 |none=>
  rw[List.findIdx?_eq_none_iff]at h;have:xs.any p=false:=by rw[bN];intro x hx;simp[h x hx]
  rw[this];rfl
 |some i=>rw[List.findIdx?_eq_some_iff_getElem]at h;obtain⟨h1,h2,_⟩:=h;have:xs.any p=true:=List.any_eq_true.2 ⟨_,ck h1,h2⟩;rw[this];simp
theorem Fq{α ρ:Type}{f:Nat->α->Unit->Option (Ctl Unit ρ)}:∀(xs:List α)(k:Nat),(∀j x,xs[j]?=some x->f (k+j) x ()=some (.next ()))->foldI f xs k ()=some (.next ())
 | [],_,_=>rfl
 |x::xs,k,h=>by have h0:=h 0 x rfl;rw[bo]at h0;simp only[foldI,h0];refine Fq xs (k+1) λj y hj=>?_;have:=h (j+1) y hj;rw[show k+1+j=k+(j+1) from by omega];exact this
theorem dr{α:Type}{n:Nat}{f:Nat->α}{k:Int}(h0:0<=k)(h1:k<n:=by omega):Ok (Go.SL.getI ((List.range n).map f) k) λy=>y=f k.toNat:=
 (d5 h0 (by simpa using h1)).mono λx hx=>by rw[au,bA (by omega)]at hx;simpa using hx.symm
theorem dz{α:Type}{n:Nat}{f:Nat->α}{k:Int}{v:α}(h0:0<=k)(h1:k<n:=by omega):Ok (Go.SL.setI ((List.range n).map f) k v) λy=>y=(List.range n).map λi=>if i=k.toNat then v else f i:=
 (db h0 (by simpa using h1)).mono λy hy=>by
  subst hy;apply bj;intro i;rw[aB];simp only[au,aq,List.length_range];by_cases hi:i<n
  .rw[bA hi];by_cases e:k.toNat=i
   .subst e;simp[hi]
   .simp[e,Ne.symm e]
  .rw[cD (by simpa using hi)];by_cases e:k.toNat=i
   .omega
   .simp[e]
theorem Pp{α:Type}(n:Nat)(x:α):List.replicate n x=(List.range n).map λ_=>x:=by
 apply bj;intro i;by_cases hi:i<n
 .simp[hi]
 .simp[hi]
theorem Dj{α:Type}{l:List α}{j:Nat}{x:α}(h:l[j]?=some x):l.take (j+1)=l.take j++[x]:=by rw[cO,h];rfl
theorem Wj{c:Bool}(h:c=true)(hn:¬Dd [(c,true)]):False:=hn ⟨h,trivial⟩
theorem ff{c:Bool}(h:c=false):¬(c=true):=by rw[h];simp
end Go.SL
