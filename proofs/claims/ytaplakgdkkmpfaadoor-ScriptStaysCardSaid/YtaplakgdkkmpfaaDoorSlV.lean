import Derived.Test.YtaplakgdkkmpfaaDoorSlU
namespace Go.SL
abbrev I (n:Int):D:=.p (.v (.int .i64 n))
abbrev Bo (b:Bool):D:=.p (.v (.bool b))
abbrev w64 (n:Int):Int:=IntKind.i64.wrap n
abbrev DS {α:Type} (f:α->List Pd) (x:List α):D:=.p (.s (x.map f))
def pF (n:Nat):List Pd:=[.v (.func (.func n) #[] #[])]
theorem Dq {P:Program} {e k:Nat} (h:Nat.beq e k=true):Cl.ok P (.fnv (.func (.func e) #[] #[]) k):=by
 have:=ae h
 subst this;rfl
def pI (n:Int):List Pd:=[.v (.int .i64 n)]
def pK (k:IntKind) (n:Int):List Pd:=[.v (.int k n)]
def pB (b:Bool):List Pd:=[.v (.bool b)]
def pS (s:ByteArray):List Pd:=[.v (.string s)]
def pL {α:Type} (f:α->List Pd) (l:List α):List Pd:=[.s (l.map f)]
theorem Wm {α:Type} {c:Bool} {x y r:α} (hc:c=true) (h:(bif c then x else y)=r):x=r:=by subst hc;exact h
theorem Wn {α:Type} {c:Bool} {x y r:α} (hc:c=false) (h:(bif c then x else y)=r):y=r:=by subst hc;exact h
theorem Wp (b:Bool):b=true\/b=false:=by cases b <;> simp
def Kn:List (Bool×Bool)->Bool
 | []=>true
 | (a,b)::r=>(a==b)&&Kn r
theorem Lv:∀ {l:List (Bool×Bool)},Cb l->Kn l=true
 | [],_=>rfl
 | (a,b)::r,h=>by
  obtain⟨h1,h2⟩:=h
  subst h1
  simp [Kn,Lv h2]
def Bw {α:Type} (l:List (Bool×Bool)) (x:Option α) (d:α):Option α:=bif Kn l then x else some d
theorem Ce {α:Type} {l:List (Bool×Bool)} {x:Option α} {d v:α} (h:Bw l x d=some v) (hg:Cb l):x=some v:=by
 unfold Bw at h
 rw [Lv hg] at h
 exact h
def Ao {α:Type} (l:List α) (n:Int):Option α:=bif decide (0<=n) then l[n.toNat]? else none
def On {α:Type} (l:List α) (n:Int) (x:α):Option (List α):=bif decide (0<=n)&&decide (n<l.length) then some (l.set n.toNat x) else none
def mkI {α:Type} (B:Nat) (n:Int) (d:α):Option (List α):=bif decide (0<=n)&&decide (n*B<=140737488355328) then some (List.replicate n.toNat d) else none
def Nb {α:Type} (l:List α) (lo hi:Int):Option (List α):=bif decide (0<=lo)&&(decide (lo<=hi)&&decide (hi<=l.length)) then some ((l.take hi.toNat).drop lo.toNat) else none
def nzI (n:Int):Option Unit:=bif n==0 then none else some ()
def Wh (s:ByteArray):Option (List Int):=bif decide ((s.size:Int)<=140737488355328) then some (Kk s) else none
def Wo (s:ByteArray) (n:Int):Option UInt8:=bif decide (0<=n) then s.data[n.toNat]? else none
def F8 {α:Type} (B:Nat) (l m:List α):Option (List α):=bif decide ((l.length+m.length)*B<=140737488355328) then some (l++m) else none
section
variable {P:Program} {α:Type}
theorem Tv (enc:α->List Pd) (size:Nat) (hs:∀ x,(enc x).length=size) {B:Nat} {l m y:List α} (h:F8 (B+1) l m=some y):Cl.ok P (.app (l.map enc) (m.map enc) size (((l.map enc).length+(m.map enc).length)*(B+1)) (y.map enc)):=by
 unfold F8 at h
 cases hd:decide ((l.length+m.length)*(B+1)<=140737488355328) with
 | false=>rw [hd] at h;cases h
 | true=>
  rw [hd] at h
  simp only [cond_true,ag] at h
  subst h
  refine⟨by rw [aJ,aJ];exact of_decide_eq_true hd,λ r hr=>?_,by rw [List.map_append]⟩
  obtain⟨x,_,rfl⟩:=aN.1 hr
  exact hs x
theorem Ig {l:List α} {enc:α->List Pd} {n:Int} {x:α} (h:Ao l n=some x):Cl.ok P (.row (l.map enc) n (enc x)):=by
 unfold Ao at h
 cases hd:decide (0<=n) with
 | false=>rw [hd] at h;cases h
 | true=>
  rw [hd] at h
  simp only [cond_true] at h
  exact⟨of_decide_eq_true hd,by rw [ak,h];rfl⟩
theorem J2 {n:Int} {u:Unit} (h:nzI n=some u):Cl.ok P (.nz n):=by
 unfold nzI at h
 show n≠0
 intro e;subst e;cases h
theorem Uj {n:Int} (h:(n==0)=false):Cl.ok P (.nz n):=by
 show n≠0
 intro e;subst e;cases h
theorem Mi {l:List α} {enc:α->List Pd} {n:Int} {x:α} (h:Ao l n=some x):Cl.ok P (.row (l.map enc) ((n.toNat:Nat):Int) (enc x)):=by
 obtain⟨h0,h1⟩:=(Ig (P:=P) (enc:=enc) h:0<=n/\(l.map enc)[n.toNat]? = some (enc x))
 exact⟨Int.natCast_nonneg _,by rw [Int.toNat_natCast];exact h1⟩
theorem S5 {l y:List α} {enc:α->List Pd} {n:Int} {x x':α} (hx:Ao l n=some x) (h:On l n x'=some y):Cl.ok P (.upd (l.map enc) n.toNat (enc x) (enc x') (y.map enc)):=by
 obtain⟨h0,h1⟩:=(Ig (P:=P) (enc:=enc) hx:0<=n/\(l.map enc)[n.toNat]? = some (enc x))
 refine⟨h1,?_⟩
 unfold On at h
 cases hd:(decide (0<=n)&&decide (n<l.length)) with
 | false=>rw [hd] at h;cases h
 | true=>
  rw [hd] at h
  simp at h;subst h
  rw [List.map_set]
theorem Oe (l:List α) (enc:α->List Pd):Cl.ok P (.len ((l.map enc).length:Int) (l.length:Int)):=by
 show ((l.map enc).length:Int)=l.length
 rw [aJ]
theorem Tl (enc:α->List Pd) (size:Nat) (hs:∀ x,(enc x).length=size) {l y:List α} {lo hi:Int} (h:Nb l lo hi=some y):Cl.ok P (.cut (l.map enc) size lo hi (y.map enc)):=by
 unfold Nb at h
 cases hd:(decide (0<=lo)&&(decide (lo<=hi)&&decide (hi<=l.length))) with
 | false=>rw [hd] at h;cases h
 | true=>
  rw [hd] at h
  simp only [cond_true,ag] at h
  simp only [aa,ch] at hd
  subst h
  refine⟨hd.1,hd.2.1,by rw [aJ];exact hd.2.2,λ r hr=>?_,by rw [←List.map_take,←List.map_drop]⟩
  obtain⟨x,_,rfl⟩:=aN.1 hr
  exact hs x
def W5 (k:Nat) (lo hi:Int):Option Unit:=bif decide (0<=lo)&&(decide (lo<=hi)&&decide (hi<=k)) then some () else none
def Wq (k:Nat) (lo hi mx:Int):Option Unit:=bif decide (0<=lo)&&(decide (lo<=hi)&&(decide (hi<=mx)&&decide (mx<=k))) then some () else none
def Ws {α:Type} (l:List α) (n:Nat) (m:List α):Option (List α):=bif decide (n+m.length<=l.length) then some (l.take n++(m++l.drop (n+m.length))) else none
def Wz {α:Type} (B:Nat) (l:List α) (i:Int) (m:List α):Option (List α):=bif decide ((l.length+m.length)*B<=140737488355328) then some (l.take i.toNat++(m++l.drop i.toNat)) else none
def W4 {α:Type} (l:List α) (lo n:Nat) (d:α):List α:=l.take lo++(List.replicate n d++l.drop (lo+n))
def W0 {α:Type} (l:List α) (lo n:Nat) (m:List α):List α:=l.take lo++(m.take (Nat.min m.length n)++l.drop (lo+Nat.min m.length n))
theorem Lk {f:FuncId} {args:List AV} {res:AV} (h:Cp P f/\CallOk P f args [] res []):Cl.ok P (.callB f args res [[]] 0 []):=⟨h,rfl⟩
theorem S8 {l:List α} {enc:α->List Pd} {i:Nat} {x:α} (hx:l[i]? = some x) (hl:(l.map enc).length<=maxLen):Cl.ok P (.row (l.map enc) (cnt 0 i) (enc x)):=by
 have hi:i<l.length:=(ac.1 hx).1
 rw [aJ] at hl
 have hm:maxLen=9223372036854775807:=rfl
 rw [Ke (by omega) (by omega)]
 refine⟨by omega,?_⟩
 have:((0:Int)+(i:Int)).toNat=i:=by omega
 rw [this,ak,hx];rfl
theorem Of {l:List α} {enc:α->List Pd} {i:Nat} {x:α} (hx:l[i]? = some x) (hl:(l.map enc).length<=maxLen):Ao l (cnt 0 i)=some x:=by
 have hi:i<l.length:=(ac.1 hx).1
 rw [aJ] at hl
 have hm:maxLen=9223372036854775807:=rfl
 rw [Ke (by omega) (by omega)]
 unfold Ao
 have h1:decide ((0:Int)<=0+(i:Int))=true:=decide_eq_true (by omega)
 have h2:((0:Int)+(i:Int)).toNat=i:=by omega
 rw [h1,h2];exact hx
theorem Br {l:List α} {enc:α->List Pd} {i:Nat} (hi:i<l.length) (hl:(l.map enc).length<=maxLen):decide (cnt 0 i<(l.length:Int))=true:=by
 rw [aJ] at hl
 have hm:maxLen=9223372036854775807:=rfl
 rw [Ke (by omega) (by omega)]
 exact decide_eq_true (by omega)
theorem Ef {l:List α} {enc:α->List Pd} (hl:(l.map enc).length<=maxLen):decide (cnt 0 l.length<(l.length:Int))=false:=by
 rw [aJ] at hl
 have hm:maxLen=9223372036854775807:=rfl
 rw [Ke (by omega) (by omega)]
 exact decide_eq_false (by omega)
end
def Uu (zs:List Int) (k:Nat):List (Int×Int):=(List.range k).map λ j=>(((zs.length-1-j:Nat):Int),(zs[zs.length-1-j]?.getD 0))
def bw (zs:List Int):List (Int×Int):=Uu zs zs.length
def andThen {σ τ ρ:Type} (c:Option (Ctl σ τ)) (g:τ->Option ρ) (f:σ->Option ρ):Option ρ:=
 match c with
 | some (.ret v)=>g v
 | some (.next s)=>f s
 | some (.brk s)=>f s
 | none=>none
theorem Bm {σ τ ρ:Type} {c:Option (Ctl σ τ)} {g:τ->Option ρ} {f:σ->Option ρ} {r:ρ} (h:andThen c g f=some r):∃ k,c=some k/\(∀ v,k = .ret v->g v=some r)/\(∀ s,k = .next s->f s=some r):=by
 unfold andThen at h
 split at h
 ·exact⟨_,rfl,λ v e=>by cases e;exact h,λ s e=>by cases e⟩
 ·exact⟨_,rfl,λ v e=>(by cases e),λ s e=>by cases e;exact h⟩
 ·exact⟨_,rfl,λ v e=>(by cases e),λ s e=>by cases e⟩
 ·cases h
end Go.SL
