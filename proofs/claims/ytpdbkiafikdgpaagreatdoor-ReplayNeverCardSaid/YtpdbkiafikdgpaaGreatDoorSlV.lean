import Derived.Test.YtpdbkiafikdgpaaGreatDoorSlU
namespace Go.SL
abbrev I (n:Int):D:=.p (.v (.int .i64 n))
abbrev Bo (b:Bool):D:=.p (.v (.bool b))
abbrev w64 (n:Int):Int:=IntKind.i64.wrap n
abbrev DS {α:Type} (f:α->List Pd) (x:List α):D:=.p (.s (x.map f))
def pI (n:Int):List Pd:=[.v (.int .i64 n)]
def pK (k:IntKind) (n:Int):List Pd:=[.v (.int k n)]
def pB (b:Bool):List Pd:=[.v (.bool b)]
def pS (s:ByteArray):List Pd:=[.v (.string s)]
def pL {α:Type} (f:α->List Pd) (l:List α):List Pd:=[.s (l.map f)]
theorem A99 {α:Type} {c:Bool} {x y r:α} (hc:c=true) (h:(bif c then x else y)=r):x=r:=by subst hc;exact h
theorem A_a {α:Type} {c:Bool} {x y r:α} (hc:c=false) (h:(bif c then x else y)=r):y=r:=by subst hc;exact h
theorem A_c (b:Bool):b=true\/b=false:=by cases b <;> simp
def C5:List (Bool×Bool)->Bool
 | []=>true
 | (a,b)::r=>(a==b)&&C5 r
theorem T4:∀ {l:List (Bool×Bool)},Da l->C5 l=true
 | [],_=>rfl
 | (a,b)::r,h=>by
  obtain⟨h1,h2⟩:=h
  subst h1
  simp [C5,T4 h2]
theorem T3:∀ {l:List (Bool×Bool)},C5 l=true->Da l
 | [],_=>trivial
 | (a,b)::r,h=>by
  simp only [C5,ae,dH] at h
  exact⟨h.1,T3 h.2⟩
def A3 {α:Type} (l:List (Bool×Bool)) (x:Option α) (d:α):Option α:=bif C5 l then x else some d
theorem Hu {α:Type} {l:List (Bool×Bool)} {x:Option α} {d v:α} (h:A3 l x d=some v) (hg:¬Da l):v=d:=by
 unfold A3 at h
 cases hb:C5 l with
 | true=>exact absurd (T3 hb) hg
 | false=>rw [hb] at h;simpa using h.symm
theorem Ba {α:Type} {l:List (Bool×Bool)} {x:Option α} {d v:α} (h:A3 l x d=some v) (hg:Da l):x=some v:=by
 unfold A3 at h
 rw [T4 hg] at h
 exact h
def getI {α:Type} (l:List α) (n:Int):Option α:=bif decide (0<=n) then l[n.toNat]? else none
def setI {α:Type} (l:List α) (n:Int) (x:α):Option (List α):=bif decide (0<=n)&&decide (n<l.length) then some (l.set n.toNat x) else none
def mkI {α:Type} (B:Nat) (n:Int) (d:α):Option (List α):=bif decide (0<=n)&&decide (n*B<=140737488355328) then some (List.replicate n.toNat d) else none
def cutI {α:Type} (l:List α) (lo hi:Int):Option (List α):=bif decide (0<=lo)&&(decide (lo<=hi)&&decide (hi<=l.length)) then some ((l.take hi.toNat).drop lo.toNat) else none
def nzI (n:Int):Option Unit:=bif n==0 then none else some ()
def Ty (s:ByteArray):Option (List Int):=bif decide ((s.size:Int)<=140737488355328) then some (Tz s) else none
def A_b (s:ByteArray) (n:Int):Option UInt8:=bif decide (0<=n) then s.data[n.toNat]? else none
def appI {α:Type} (B:Nat) (l m:List α):Option (List α):=bif decide ((l.length+m.length)*B<=140737488355328) then some (l++m) else none
section
variable {P:Program} {α:Type}
theorem Auw {s:ByteArray} {y:List Int} (h:Ty s=some y):Cl.ok P (.room (s.size:Int) (Ku s) (y.map (pK .u8))):=by
 unfold Ty at h
 cases hd:decide ((s.size:Int)<=140737488355328) with
 | false=>rw [hd] at h;cases h
 | true=>
  rw [hd] at h
  simp only [cond_true,al] at h
  subst h
  exact⟨by omega,of_decide_eq_true hd,rfl⟩
theorem H2 (enc:α->List Pd) (size:Nat) (hs:∀ x,(enc x).length=size) {B:Nat} {l m y:List α} (h:appI (B+1) l m=some y):Cl.ok P (.app (l.map enc) (m.map enc) size (((l.map enc).length+(m.map enc).length)*(B+1)) (y.map enc)):=by
 unfold appI at h
 cases hd:decide ((l.length+m.length)*(B+1)<=140737488355328) with
 | false=>rw [hd] at h;cases h
 | true=>
  rw [hd] at h
  simp only [cond_true,al] at h
  subst h
  refine⟨by rw [au,au];exact of_decide_eq_true hd,λ r hr=>?_,by rw [bE]⟩
  obtain⟨x,_,rfl⟩:=am.1 hr
  exact hs x
theorem Fs (enc:α->List Pd) (size:Nat) (hs:∀ x,(enc x).length=size) {B:Nat} {m y:List α} (h:appI (B+1) [] m=some y):Cl.ok P (.app [] (m.map enc) size ((m.map enc).length*(B+1)) (y.map enc)):=by
 have:=H2 (P:=P) enc size hs h
 simpa using this
theorem Vj {l:List α} {enc:α->List Pd} {n:Int} {x:α} (h:getI l n=some x):Cl.ok P (.row (l.map enc) n (enc x)):=by
 unfold getI at h
 cases hd:decide (0<=n) with
 | false=>rw [hd] at h;cases h
 | true=>
  rw [hd] at h
  simp only [cond_true] at h
  exact⟨of_decide_eq_true hd,by rw [ax,h];rfl⟩
theorem Afv {n:Int} {u:Unit} (h:nzI n=some u):Cl.ok P (.nz n):=by
 unfold nzI at h
 show n≠0
 intro e;subst e;cases h
theorem Zr {n:Int} (h:(n==0)=false):Cl.ok P (.nz n):=by
 show n≠0
 intro e;subst e;cases h
theorem Jt {l:List α} {enc:α->List Pd} {n:Int} {x:α} (h:getI l n=some x):Cl.ok P (.row (l.map enc) ((n.toNat:Nat):Int) (enc x)):=by
 obtain⟨h0,h1⟩:=(Vj (P:=P) (enc:=enc) h:0<=n/\(l.map enc)[n.toNat]? = some (enc x))
 exact⟨Int.natCast_nonneg _,by rw [aH];exact h1⟩
theorem Aky {l y:List α} {enc:α->List Pd} {n:Int} {x x':α} (hx:getI l n=some x) (h:setI l n x'=some y):Cl.ok P (.upd (l.map enc) n.toNat (enc x) (enc x') (y.map enc)):=by
 obtain⟨h0,h1⟩:=(Vj (P:=P) (enc:=enc) hx:0<=n/\(l.map enc)[n.toNat]? = some (enc x))
 refine⟨h1,?_⟩
 unfold setI at h
 cases hd:(decide (0<=n)&&decide (n<l.length)) with
 | false=>rw [hd] at h;cases h
 | true=>
  rw [hd] at h
  simp at h;subst h
  rw [List.map_set]
theorem Jz {enc:α->List Pd} {B:Nat} {n:Int} {d:α} {y:List α} (h:mkI (B+1) n d=some y):Cl.ok P (.room (n*(B+1)) (List.replicate n.toNat (enc d)) (y.map enc)):=by
 unfold mkI at h
 cases hd:(decide (0<=n)&&decide (n*((B+1:Nat):Int)<=140737488355328)) with
 | false=>rw [hd] at h;cases h
 | true=>
  rw [hd] at h
  simp at h;subst h
  simp only [ae,dF] at hd
  refine⟨Int.mul_nonneg hd.1 (by omega),by have:=hd.2;simpa using this,by simp⟩
theorem Vv (l:List α) (enc:α->List Pd):Cl.ok P (.len ((l.map enc).length:Int) (l.length:Int)):=by
 show ((l.map enc).length:Int)=l.length
 rw [au]
theorem yM (enc:α->List Pd) (size:Nat) (hs:∀ x,(enc x).length=size) {l y:List α} {lo hi:Int} (h:cutI l lo hi=some y):Cl.ok P (.cut (l.map enc) size lo hi (y.map enc)):=by
 unfold cutI at h
 cases hd:(decide (0<=lo)&&(decide (lo<=hi)&&decide (hi<=l.length))) with
 | false=>rw [hd] at h;cases h
 | true=>
  rw [hd] at h
  simp only [cond_true,al] at h
  simp only [ae,dF] at hd
  subst h
  refine⟨hd.1,hd.2.1,by rw [au];exact hd.2.2,λ r hr=>?_,by rw [←List.map_take,←List.map_drop]⟩
  obtain⟨x,_,rfl⟩:=am.1 hr
  exact hs x
theorem Akq (enc:α->List Pd) (size:Nat) (hs:∀ x,(enc x).length=size) {l y:List α} {lo:Int} (h:cutI l lo (l.length:Int)=some y):Cl.ok P (.cut (l.map enc) size lo ((l.map enc).length:Int) (y.map enc)):=by
 have:((l.map enc).length:Int)=l.length:=by rw [au]
 rw [this];exact yM enc size hs h
theorem Afo (l:List α) (enc:α->List Pd) (lo n:Nat):((l.map enc).drop lo).take n=((l.drop lo).take n).map enc:=by simp
def bndI (k:Nat) (lo hi:Int):Option Unit:=bif decide (0<=lo)&&(decide (lo<=hi)&&decide (hi<=k)) then some () else none
theorem E_ {k:Nat} {lo hi:Int} {u:Unit} {k':Nat} {hi':Int} (hk:k'=k) (hh:hi'=hi) (h:bndI k lo hi=some u):Cl.ok P (.bnd k' lo hi' hi):=by
 subst hk;subst hh
 unfold bndI at h
 cases hd:decide (0<=lo)&&(decide (lo<=hi')&&decide (hi'<=k')) with
 | false=>rw [hd] at h;cases h
 | true=>simp at hd;exact⟨hd.1,hd.2.1,hd.2.2,rfl⟩
def bnd3I (k:Nat) (lo hi mx:Int):Option Unit:=bif decide (0<=lo)&&(decide (lo<=hi)&&(decide (hi<=mx)&&decide (mx<=k))) then some () else none
theorem Aho {k:Nat} {lo hi mx:Int} {u:Unit} {k':Nat} (hk:k'=k) (h:bnd3I k lo hi mx=some u):Cl.ok P (.bnd3 k' lo hi mx):=by
 subst hk
 unfold bnd3I at h
 cases hd:decide (0<=lo)&&(decide (lo<=hi)&&(decide (hi<=mx)&&decide (mx<=k'))) with
 | false=>rw [hd] at h;cases h
 | true=>simp at hd;exact⟨hd.1,hd.2.1,hd.2.2.1,hd.2.2.2⟩
def appPI {α:Type} (l:List α) (n:Nat) (m:List α):Option (List α):=bif decide (n+m.length<=l.length) then some (l.take n++(m++l.drop (n+m.length))) else none
theorem Ayz (enc:α->List Pd) (size:Nat) (hs:∀ x,(enc x).length=size) {l m y:List α} {n:Nat} {src:List (List Pd)} (hsrc:src=m.map enc) (h:appPI l n m=some y) :
  Cl.ok P (.appP (l.map enc) src size n (n+m.length) ((l.map enc).take n++(src++(l.map enc).drop (n+src.length))) (y.map enc)):=by
 subst hsrc
 unfold appPI at h
 cases hd:decide (n+m.length<=l.length) with
 | false=>rw [hd] at h;cases h
 | true=>
  rw [hd] at h
  simp only [cond_true,al] at h
  subst h
  simp only [dF] at hd
  refine⟨⟨by simp,by simpa using hd⟩,λ x hx=>?_,by simp⟩
  obtain⟨z,_,rfl⟩:=am.1 hx
  exact hs z
def insI {α:Type} (B:Nat) (l:List α) (i:Int) (m:List α):Option (List α):=bif decide ((l.length+m.length)*B<=140737488355328) then some (l.take i.toNat++(m++l.drop i.toNat)) else none
def Gd {α:Type} (l:List α) (lo n:Nat) (d:α):List α:=l.take lo++(List.replicate n d++l.drop (lo+n))
theorem yP (enc:α->List Pd) {l:List α} {lo n n':Nat} {d:α} (hn:n'=n):Cl.ok P (.eqr ((l.map enc).take lo++(List.replicate n' (enc d)++(l.map enc).drop (lo+n'))) ((Gd l lo n d).map enc)):=by
 subst hn
 show _=_
 simp [Gd]
def Ts {α:Type} (l:List α) (lo n:Nat) (m:List α):List α:=l.take lo++(m.take (Nat.min m.length n)++l.drop (lo+Nat.min m.length n))
theorem Amc (enc:α->List Pd) (size:Nat) (hs:∀ x,(enc x).length=size) {l m:List α} {lo n n':Nat} {src:List (List Pd)} (hsrc:src=m.map enc) (hn:n'=n) :
  Cl.ok P (.cpy src size n' (Nat.min m.length n) ((l.map enc).take lo++(src.take (Nat.min m.length n)++(l.map enc).drop (lo+Nat.min m.length n))) ((Ts l lo n m).map enc)):=by
 subst hsrc;subst hn
 refine⟨by simp,λ x hx=>?_,by simp [Ts]⟩
 obtain⟨z,_,rfl⟩:=am.1 hx
 exact hs z
theorem Kn {enc:α->List Pd} {B:Nat} {n:Int} {d:α} {y:List α} (h:mkI (B+1) n d=some y):Cl.ok P (.roomZ (n*(B+1)) (List.replicate n.toNat (enc d)) (y.map enc)):=Jz (P:=P) (enc:=enc) h
theorem Iq {β:Type} {enc:α->List Pd} {enc2:β->List Pd} (size:Nat) (hs:∀ x,(enc2 x).length=size) {B:Nat} {l:List α} {i:Int} {x:α} {off:Nat} {a m y:List β} (hx:getI l i=some x) (ho:(enc x)[off]? = some (.s (a.map enc2))) (h:appI (B+1) a m=some y) :
  Cl.ok P (.appD (l.map enc) i.toNat (enc x) off (a.map enc2) (m.map enc2) size (((a.map enc2).length+(m.map enc2).length)*(B+1)) (y.map enc2)):=by
 obtain⟨_,h1⟩:=Jt (P:=P) (enc:=enc) hx
 simp only [aH] at h1
 exact⟨⟨h1,ho⟩,H2 (P:=P) enc2 size hs h⟩
theorem Ij {l y:List α} {enc:α->List Pd} {n:Int} {x x':α} (hx:getI l n=some x) (h:setI l n x'=some y):Cl.ok P (.updD (l.map enc) n.toNat n.toNat (enc x) (enc x') (y.map enc)):=
 ⟨rfl,Aky (P:=P) (enc:=enc) hx h⟩
theorem Axs {l:List α} {enc:α->List Pd} {n:Int} {x:α} {f:FuncId} {args:List AV} {res:AV} (h:Fj P f/\CallOk P f args [] res []) (hx:getI l n=some x):Cl.ok P (.callB f args res (l.map enc) n.toNat (enc x)):=by
 obtain⟨_,h1⟩:=Jt (P:=P) (enc:=enc) hx
 simp only [aH] at h1
 exact⟨h,h1⟩
theorem Iz {f:FuncId} {args:List AV} {res:AV} (h:Fj P f/\CallOk P f args [] res []):Cl.ok P (.callB f args res [[]] 0 []):=⟨h,rfl⟩
theorem A09 {l:List α} {enc:α->List Pd} {i:Nat} {x:α} (hx:l[i]? = some x) (hl:(l.map enc).length<=maxLen):Cl.ok P (.row (l.map enc) (cnt 0 i) (enc x)):=by
 have hi:i<l.length:=(aa.1 hx).1
 rw [au] at hl
 have hm:maxLen=9223372036854775807:=rfl
 rw [Tt (by omega) (by omega)]
 refine⟨by omega,?_⟩
 have:((0:Int)+(i:Int)).toNat=i:=by omega
 rw [this,ax,hx];rfl
theorem Bp {l:List α} {enc:α->List Pd} {i:Nat} {x:α} (hx:l[i]? = some x) (hl:(l.map enc).length<=maxLen):getI l (cnt 0 i)=some x:=by
 have hi:i<l.length:=(aa.1 hx).1
 rw [au] at hl
 have hm:maxLen=9223372036854775807:=rfl
 rw [Tt (by omega) (by omega)]
 unfold getI
 have h1:decide ((0:Int)<=0+(i:Int))=true:=dK (by omega)
 have h2:((0:Int)+(i:Int)).toNat=i:=by omega
 rw [h1,h2];exact hx
theorem A9 {l:List α} {enc:α->List Pd} {i:Nat} (hi:i<l.length) (hl:(l.map enc).length<=maxLen):decide (cnt 0 i<(l.length:Int))=true:=by
 rw [au] at hl
 have hm:maxLen=9223372036854775807:=rfl
 rw [Tt (by omega) (by omega)]
 exact dK (by omega)
theorem Bf {l:List α} {enc:α->List Pd} (hl:(l.map enc).length<=maxLen):decide (cnt 0 l.length<(l.length:Int))=false:=by
 rw [au] at hl
 have hm:maxLen=9223372036854775807:=rfl
 rw [Tt (by omega) (by omega)]
 exact decide_eq_false (by omega)
end
def F3 (zs:List Int) (k:Nat):List (Int×Int):=(List.range k).map λ j=>(((zs.length-1-j:Nat):Int),(zs[zs.length-1-j]?.getD 0))
def bw (zs:List Int):List (Int×Int):=F3 zs zs.length
def andThen {σ τ ρ:Type} (c:Option (Ctl σ τ)) (g:τ->Option ρ) (f:σ->Option ρ):Option ρ:=
 match c with
 | some (.ret v)=>g v
 | some (.next s)=>f s
 | some (.brk s)=>f s
 | none=>none
theorem As {σ τ ρ:Type} {c:Option (Ctl σ τ)} {g:τ->Option ρ} {f:σ->Option ρ} {r:ρ} (h:andThen c g f=some r):∃ k,c=some k/\(∀ v,k = .ret v->g v=some r)/\(∀ s,k = .next s->f s=some r):=by
 unfold andThen at h
 split at h
 ·exact⟨_,rfl,λ v e=>by cases e;exact h,λ s e=>by cases e⟩
 ·exact⟨_,rfl,λ v e=>(by cases e),λ s e=>by cases e;exact h⟩
 ·exact⟨_,rfl,λ v e=>(by cases e),λ s e=>by cases e⟩
 ·cases h
end Go.SL
