import Derived.Test.YtpdbkiafikdgpaaGreatDoorSlV
namespace Go.SL
def Ok {α:Type} (o:Option α) (P:α->Prop):Prop:=∃ r,o=some r/\P r
section
variable {α β σ τ:Type} {P Q:α->Prop}
theorem Ok.mono {o:Option α} (h:Ok o P) (k:∀ x,P x->Q x):Ok o Q:=by
 obtain⟨r,e,p⟩:=h
 exact⟨r,e,k r p⟩
theorem cq {x:α} (h:P x):Ok (some x) P:=⟨x,rfl,h⟩
theorem Ok.bind {o:Option α} {f:α->Option β} {R:β->Prop} (h:Ok o P) (k:∀ x,P x->Ok (f x) R):Ok (o.bind f) R:=by
 obtain⟨r,e,p⟩:=h
 subst e
 exact k r p
theorem cI {o:Option α} {x:α} (h:Ok o (· = x)):o=some x:=by
 obtain⟨r,e,p⟩:=h
 subst p;exact e
theorem c9 {c:Bool} {x y:Option α} (ht:c=true->Ok x P) (hf:c=false->Ok y P):Ok (bif c then x else y) P:=by
 cases c with
 | true=>exact ht rfl
 | false=>exact hf rfl
theorem cw {l:List (Bool×Bool)} {x:Option α} {d:α} (ht:Cs l->Ok x P) (hf:¬Cs l->P d):Ok (A5 l x d) P:=by
 unfold A5
 cases h:Eb l with
 | true=>exact ht (Mi h)
 | false=>exact⟨d,rfl,hf λ q=>by rw [Mj q] at h;cases h⟩
def Du (A:σ->Prop) (B:τ->Prop):Ctl σ τ->Prop
 | .next s=>A s
 | .brk s=>A s
 | .ret r=>B r
def E_ (N:σ->Prop) (A:σ->Prop) (B:τ->Prop):Ctl σ τ->Prop
 | .next s=>N s
 | .brk s=>A s
 | .ret r=>B r
theorem cr {N A:σ->Prop} {B:τ->Prop} {s:σ} (h:N s):Ok (some (Ctl.next s)) (E_ N A B):=⟨_,rfl,h⟩
theorem cA {N A:σ->Prop} {B:τ->Prop} {s:σ} (h:A s):Ok (some (Ctl.brk s)) (E_ N A B):=⟨_,rfl,h⟩
theorem Ok.ret {N A:σ->Prop} {B:τ->Prop} {r:τ} (h:B r):Ok (some (Ctl.ret r)) (E_ N A B):=⟨_,rfl,h⟩
theorem cM {A:σ->Prop} {B:τ->Prop} {s:σ} (h:A s):Ok (some (Ctl.next s)) (Du A B):=⟨_,rfl,h⟩
theorem Ok.inner {c:Option (Ctl σ τ)} {ρ υ:Type} {g:τ->Option (Ctl ρ υ)} {f:σ->Option (Ctl ρ υ)} {A:σ->Prop} {B:τ->Prop} {K:Ctl ρ υ->Prop} (h:Ok c (Du A B)) (ka:∀ s,A s->Ok (f s) K) (kb:∀ v,B v->Ok (g v) K):Ok (Go.SL.andThen c g f) K:=by
 obtain⟨r,e,p⟩:=h
 subst e
 cases r with
 | next s=>exact ka s p
 | brk s=>exact ka s p
 | ret v=>exact kb v p
theorem Ok.andThen {c:Option (Ctl σ τ)} {g:τ->Option α} {f:σ->Option α} {A:σ->Prop} {B:τ->Prop} (h:Ok c (Du A B)) (ka:∀ s,A s->Ok (f s) P) (kb:∀ v,B v->Ok (g v) P):Ok (Go.SL.andThen c g f) P:=by
 obtain⟨r,e,p⟩:=h
 subst e
 cases r with
 | next s=>exact ka s p
 | brk s=>exact ka s p
 | ret v=>exact kb v p
theorem Ok.foldI {f:Nat->α->σ->Option (Ctl σ τ)} {A:σ->Prop} {B:τ->Prop} (I:Nat->σ->Prop):∀ (xs:List α) (i:Nat) (s:σ),I i s ->
  (∀ j x s,xs[j]? = some x->I (i+j) s->Ok (f (i+j) x s) (E_ (I (i+j+1)) A B))->(∀ s,I (i+xs.length) s->A s)->Ok (foldI f xs i s) (Du A B)
 | [],i,s,h0,_,hf=>⟨_,rfl,hf s h0⟩
 | x::xs,i,s,h0,hs,hf=>by
  obtain⟨r,e,p⟩:=hs 0 x s rfl h0
  unfold Go.SL.foldI
  rw [Nat.add_zero] at e
  rw [e]
  cases r with
  | next s'=>
   refine Ok.foldI I xs (i+1) s' p (λ j y s hj hi=>?_) λ s h=>hf s ?_
   ·rw [show i+1+j=i+(j+1) from by omega] at hi ⊢
    exact hs (j+1) y s hj hi
   ·rw [aJ,show i+(xs.length+1)=i+1+xs.length from by omega];exact h
  | brk s'=>exact⟨_,rfl,p⟩
  | ret v=>exact⟨_,rfl,p⟩
theorem cz {f:Nat->α->σ->Option (Ctl σ τ)} {A:σ->Prop} {B:τ->Prop} (I:Nat->σ->Prop) {xs:List α} {s:σ} (h0:I 0 s)
  (hs:∀ j x s,xs[j]? = some x->I j s->Ok (f j x s) (E_ (I (j+1)) A B)) (hf:∀ s,I xs.length s->A s):Ok (Go.SL.foldI f xs 0 s) (Du A B):=by
 refine Ok.foldI I xs 0 s h0 (λ j x s hj hi=>?_) λ s h=>hf s ?_
 ·rw [aO] at hi ⊢;exact hs j x s hj hi
 ·rw [aO] at h;exact h
theorem cv {f:σ->Option (Ctl σ τ)} {A:σ->Prop} {B:τ->Prop} (I:σ->Prop) (m:σ->Nat):∀ (n:Nat) (s:σ),I s->m s<n ->
  (∀ s,I s->Ok (f s) (E_ (λ s'=>I s'/\m s'<m s) A B))->Ok (whileN f n s) (Du A B)
 | 0,s,_,hm,_=>absurd hm (Nat.not_lt_zero _)
 | n+1,s,h0,hm,hs=>by
  obtain⟨r,e,p⟩:=hs s h0
  unfold Go.SL.whileN
  rw [e]
  cases r with
  | next s'=>exact cv I m n s' p.1 (by have:=p.2;omega) hs
  | brk s'=>exact⟨_,rfl,p⟩
  | ret v=>exact⟨_,rfl,p⟩
theorem cF {l:List α} {n:Int} (h0:0<=n) (h1:n<l.length):Ok (Go.SL.getI l n) λ x=>l[n.toNat]? = some x:=by
 have:n.toNat<l.length:=by omega
 refine⟨l[n.toNat],?_,ai this⟩
 unfold Go.SL.getI
 rw [dc h0]
 exact ai this
theorem cE {l:List α} {n:Int} {x:α} (h0:0<=n) (h1:n<l.length):Ok (Go.SL.setI l n x) λ y=>y=l.set n.toNat x:=by
 refine⟨_,?_,rfl⟩
 unfold Go.SL.setI
 rw [dc h0,dc h1];rfl
theorem Ok.mkI {B:Nat} {n:Int} {d:α} (h0:0<=n) (h1:n*B<=140737488355328):Ok (Go.SL.mkI B n d) λ y=>y=List.replicate n.toNat d:=by
 refine⟨_,?_,rfl⟩
 unfold Go.SL.mkI
 rw [dc h0,dc h1];rfl
theorem Ok.cutI {l:List α} {lo hi:Int} (h0:0<=lo) (h1:lo<=hi) (h2:hi<=l.length):Ok (Go.SL.cutI l lo hi) λ y=>y=(l.take hi.toNat).drop lo.toNat:=by
 refine⟨_,?_,rfl⟩
 unfold Go.SL.cutI
 rw [dc h0,dc h1,dc h2];rfl
theorem Ok.nzI {n:Int} (h:n≠0):Ok (Go.SL.nzI n) λ _=>True:=by
 refine⟨(),?_,trivial⟩
 unfold Go.SL.nzI
 rw [db.2 h];rfl
theorem cx {B:Nat} {l m:List α} (h:(l.length+m.length)*B<=140737488355328):Ok (Go.SL.appI B l m) λ y=>y=l++m:=by
 refine⟨_,?_,rfl⟩
 unfold Go.SL.appI
 rw [dc h];rfl
end
theorem Bp {n:Int} (h:-9223372036854775808<=n/\n<=9223372036854775807):w64 n=n:=IntWalk.i64_in n h
theorem H_ {i:Nat} (h:i<=9223372036854775807):cnt 0 i=(i:Int):=by rw [Mc (by omega) (by omega)];omega
def Asv {α:Type} (p:α->Bool) (xs:List α):Int:=match xs.findIdx? p with
 | some i=>(i:Int)
 | none=>-1
theorem Eg {α ρ:Type} {f:Nat->α->Unit->Option (Ctl Unit ρ)}:∀ (xs:List α) (k:Nat),(∀ j x,xs[j]? = some x->f (k+j) x ()=some (.next ()))->foldI f xs k ()=some (.next ())
 | [],_,_=>rfl
 | x::xs,k,h=>by
  have h0:=h 0 x rfl
  rw [Nat.add_zero] at h0
  simp only [foldI,h0]
  refine Eg xs (k+1) λ j y hj=>?_
  have:=h (j+1) y hj
  rw [show k+1+j=k+(j+1) from by omega];exact this
theorem Ec {α:Type} {l:List α} {j:Nat} {x:α} (h:l[j]? = some x):l.take (j+1)=l.take j++[x]:=by
 rw [bN,h];rfl
theorem ff {c:Bool} (h:c=false):¬(c=true):=by rw [h];simp
end Go.SL
