import Derived.Test.YtaplakgdkkmpfaaGreatDoorSlV
namespace Go.SL
def Ok {α:Type} (o:Option α) (P:α->Prop):Prop:=∃ r,o=some r/\P r
section
variable {α β σ τ:Type} {P Q:α->Prop}
theorem Ok.mono {o:Option α} (h:Ok o P) (k:∀ x,P x->Q x):Ok o Q:=by
 obtain⟨r,e,p⟩:=h
 exact⟨r,e,k r p⟩
theorem cb {x:α} (h:P x):Ok (some x) P:=⟨x,rfl,h⟩
theorem Ok.bind {o:Option α} {f:α->Option β} {R:β->Prop} (h:Ok o P) (k:∀ x,P x->Ok (f x) R):Ok (o.bind f) R:=by
 obtain⟨r,e,p⟩:=h
 subst e
 exact k r p
theorem cQ {o:Option α} {x:α} (h:o=some x) (p:P x):Ok o P:=⟨x,h,p⟩
theorem Ok.eq {o:Option α} {x:α} (h:Ok o (· = x)):o=some x:=by
 obtain⟨r,e,p⟩:=h
 subst p;exact e
theorem cm {c:Bool} {x y:Option α} (ht:c=true->Ok x P) (hf:c=false->Ok y P):Ok (bif c then x else y) P:=by
 cases c with
 | true=>exact ht rfl
 | false=>exact hf rfl
def G6 (A:σ->Prop) (B:τ->Prop):Ctl σ τ->Prop
 | .next s=>A s
 | .brk s=>A s
 | .ret r=>B r
def Gg (N:σ->Prop) (A:σ->Prop) (B:τ->Prop):Ctl σ τ->Prop
 | .next s=>N s
 | .brk s=>A s
 | .ret r=>B r
theorem cC {N A:σ->Prop} {B:τ->Prop} {s:σ} (h:N s):Ok (some (Ctl.next s)) (Gg N A B):=⟨_,rfl,h⟩
theorem cK {N A:σ->Prop} {B:τ->Prop} {s:σ} (h:A s):Ok (some (Ctl.brk s)) (Gg N A B):=⟨_,rfl,h⟩
theorem Ok.ret {N A:σ->Prop} {B:τ->Prop} {r:τ} (h:B r):Ok (some (Ctl.ret r)) (Gg N A B):=⟨_,rfl,h⟩
theorem Ok.andThen {c:Option (Ctl σ τ)} {g:τ->Option α} {f:σ->Option α} {A:σ->Prop} {B:τ->Prop} (h:Ok c (G6 A B)) (ka:∀ s,A s->Ok (f s) P) (kb:∀ v,B v->Ok (g v) P):Ok (Go.SL.andThen c g f) P:=by
 obtain⟨r,e,p⟩:=h
 subst e
 cases r with
 | next s=>exact ka s p
 | brk s=>exact ka s p
 | ret v=>exact kb v p
theorem Ok.foldI {f:Nat->α->σ->Option (Ctl σ τ)} {A:σ->Prop} {B:τ->Prop} (I:Nat->σ->Prop):∀ (xs:List α) (i:Nat) (s:σ),I i s ->
  (∀ j x s,xs[j]? = some x->I (i+j) s->Ok (f (i+j) x s) (Gg (I (i+j+1)) A B))->(∀ s,I (i+xs.length) s->A s)->Ok (foldI f xs i s) (G6 A B)
 | [],i,s,h0,_,hf=>⟨_,rfl,hf s h0⟩
 | x::xs,i,s,h0,hs,hf=>by
  obtain⟨r,e,p⟩:=hs 0 x s rfl h0
  unfold Go.SL.foldI
  rw [bf] at e
  rw [e]
  cases r with
  | next s'=>
   refine Ok.foldI I xs (i+1) s' p (λ j y s hj hi=>?_) λ s h=>hf s ?_
   ·rw [show i+1+j=i+(j+1) from by omega] at hi ⊢
    exact hs (j+1) y s hj hi
   ·rw [ap,show i+(xs.length+1)=i+1+xs.length from by omega];exact h
  | brk s'=>exact⟨_,rfl,p⟩
  | ret v=>exact⟨_,rfl,p⟩
theorem cP {f:Nat->α->σ->Option (Ctl σ τ)} {A:σ->Prop} {B:τ->Prop} (I:Nat->σ->Prop) {xs:List α} {s:σ} (h0:I 0 s)
  (hs:∀ j x s,xs[j]? = some x->I j s->Ok (f j x s) (Gg (I (j+1)) A B)) (hf:∀ s,I xs.length s->A s):Ok (Go.SL.foldI f xs 0 s) (G6 A B):=by
 refine Ok.foldI I xs 0 s h0 (λ j x s hj hi=>?_) λ s h=>hf s ?_
 ·rw [aQ] at hi ⊢;exact hs j x s hj hi
 ·rw [aQ] at h;exact h
theorem cr {f:σ->Option (Ctl σ τ)} {A:σ->Prop} {B:τ->Prop} (I:σ->Prop) (m:σ->Nat):∀ (n:Nat) (s:σ),I s->m s<n ->
  (∀ s,I s->Ok (f s) (Gg (λ s'=>I s'/\m s'<m s) A B))->Ok (whileN f n s) (G6 A B)
 | 0,s,_,hm,_=>absurd hm (bI _)
 | n+1,s,h0,hm,hs=>by
  obtain⟨r,e,p⟩:=hs s h0
  unfold Go.SL.whileN
  rw [e]
  cases r with
  | next s'=>exact cr I m n s' p.1 (by have:=p.2;omega) hs
  | brk s'=>exact⟨_,rfl,p⟩
  | ret v=>exact⟨_,rfl,p⟩
theorem ct {l:List α} {n:Int} (h0:0<=n) (h1:n<l.length):Ok (Go.SL.getI l n) λ x=>l[n.toNat]? = some x:=by
 have:n.toNat<l.length:=by omega
 refine⟨l[n.toNat],?_,am this⟩
 unfold Go.SL.getI
 rw [cT h0]
 exact am this
theorem cI {l:List α} {n:Int} {x:α} (h0:0<=n) (h1:n<l.length):Ok (Go.SL.setI l n x) λ y=>y=l.set n.toNat x:=by
 refine⟨_,?_,rfl⟩
 unfold Go.SL.setI
 rw [cT h0,cT h1];rfl
theorem Ok.cutI {l:List α} {lo hi:Int} (h0:0<=lo) (h1:lo<=hi) (h2:hi<=l.length):Ok (Go.SL.cutI l lo hi) λ y=>y=(l.take hi.toNat).drop lo.toNat:=by
 refine⟨_,?_,rfl⟩
 unfold Go.SL.cutI
 rw [cT h0,cT h1,cT h2];rfl
theorem Ok.nzI {n:Int} (h:n≠0):Ok (Go.SL.nzI n) λ _=>True:=by
 refine⟨(),?_,trivial⟩
 unfold Go.SL.nzI
 rw [beq_eq_false_iff_ne.2 h];rfl
theorem cf {B:Nat} {l m:List α} (h:(l.length+m.length)*B<=140737488355328):Ok (Go.SL.appI B l m) λ y=>y=l++m:=by
 refine⟨_,?_,rfl⟩
 unfold Go.SL.appI
 rw [cT h];rfl
theorem Ok.bndI {k:Nat} {lo hi:Int} (h0:0<=lo) (h1:lo<=hi) (h2:hi<=k):Ok (Go.SL.bndI k lo hi) λ _=>True:=by
 refine⟨(),?_,trivial⟩
 unfold Go.SL.bndI
 rw [cT h0,cT h1,cT h2];rfl
end
theorem A_ {n:Int} (h:-9223372036854775808<=n/\n<=9223372036854775807):w64 n=n:=IntWalk.i64_in n h
theorem Y2 {i:Nat} (h:i<=9223372036854775807):cnt 0 i=(i:Int):=by rw [Kg (by omega) (by omega)];omega
def Ui {α:Type} (p:α->Bool) (xs:List α):Int:=match xs.findIdx? p with
 | some i=>(i:Int)
 | none=>-1
theorem Lg {α:Type} {f:Nat->α->Unit->Option (Ctl Unit Int)} {p:α->Bool} (hf:∀ i x,f i x ()=bif p x then some (.ret (cnt 0 i)) else some (.next ())) :
  ∀ (xs:List α) (k:Nat),k+xs.length<=9223372036854775807->foldI f xs k ()=match xs.findIdx? p with
   | some i=>some (.ret ((i+k:Nat):Int))
   | none=>some (.next ())
 | [],k,_=>rfl
 | x::xs,k,h=>by
  simp only [ap] at h
  simp only [foldI,hf,List.findIdx?_cons]
  cases hp:p x with
  | true=>simp only [cond_true];rw [Y2 (by omega)];simp
  | false=>
   simp only [cond_false]
   rw [Lg hf xs (k+1) (by omega)]
   cases xs.findIdx? p with
   | none=>simp
   | some i=>simp;omega
theorem V2 {α:Type} {f:Nat->α->Unit->Option (Ctl Unit Int)} (p:α->Bool) (hf:∀ i x,f i x ()=bif p x then some (.ret (cnt 0 i)) else some (.next ())) (xs:List α) (h:xs.length<=9223372036854775807) :
  andThen (foldI f xs 0 ()) some (λ _=>some (-1))=some (Ui p xs):=by
 rw [Lg hf xs 0 (by omega)]
 unfold Ui
 cases xs.findIdx? p with
 | none=>rfl
 | some i=>rfl
theorem Yw {α:Type} (p:α->Bool) (xs:List α):decide (Ui p xs>=0)=xs.any p:=by
 unfold Ui
 cases h:xs.findIdx? p with
 | none=>
  rw [List.findIdx?_eq_none_iff] at h
  have:xs.any p=false:=by rw [List.any_eq_false];intro x hx;simp [h x hx]
  rw [this];rfl
 | some i=>
  rw [List.findIdx?_eq_some_iff_getElem] at h
  obtain⟨h1,h2,_⟩:=h
  have:xs.any p=true:=List.any_eq_true.2 ⟨_,List.getElem_mem h1,h2⟩
  rw [this];simp
theorem R9 {α ρ:Type} {f:Nat->α->Unit->Option (Ctl Unit ρ)}:∀ (xs:List α) (k:Nat),(∀ j x,xs[j]? = some x->f (k+j) x ()=some (.next ()))->foldI f xs k ()=some (.next ())
 | [],_,_=>rfl
 | x::xs,k,h=>by
  have h0:=h 0 x rfl
  rw [bf] at h0
  simp only [foldI,h0]
  refine R9 xs (k+1) λ j y hj=>?_
  have:=h (j+1) y hj
  rw [show k+1+j=k+(j+1) from by omega];exact this
end Go.SL
