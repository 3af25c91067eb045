import Derived.Test.YtaplakgdkkmpfaaGreatDoorSlU
namespace Go.SL
abbrev I (n:Int):D:=.p (.v (.int .i64 n))
abbrev Bo (b:Bool):D:=.p (.v (.bool b))
abbrev w64 (n:Int):Int:=IntKind.i64.wrap n
abbrev DS {α:Type} (f:α->List Pd) (x:List α):D:=.p (.s (x.map f))
def pF (n:Nat):List Pd:=[.v (.func (.func n) #[] #[])]
theorem Eg {P:Program} {e k:Nat} (h:Nat.beq e k=true):Cl.ok P (.fnv (.func (.func e) #[] #[]) k):=by
 have:=ac h
 subst this;rfl
def pI (n:Int):List Pd:=[.v (.int .i64 n)]
def pK (k:IntKind) (n:Int):List Pd:=[.v (.int k n)]
def pB (b:Bool):List Pd:=[.v (.bool b)]
def pS (s:ByteArray):List Pd:=[.v (.string s)]
def pL {α:Type} (f:α->List Pd) (l:List α):List Pd:=[.s (l.map f)]
theorem yW {α:Type} {c:Bool} {x y r:α} (hc:c=true) (h:(bif c then x else y)=r):x=r:=by subst hc;exact h
theorem yX {α:Type} {c:Bool} {x y r:α} (hc:c=false) (h:(bif c then x else y)=r):y=r:=by subst hc;exact h
theorem yY (b:Bool):b=true\/b=false:=by cases b <;> simp
def B0:List (Bool×Bool)->Bool
 | []=>true
 | (a,b)::r=>(a==b)&&B0 r
theorem Pj:∀ {l:List (Bool×Bool)},Cs l->B0 l=true
 | [],_=>rfl
 | (a,b)::r,h=>by
  obtain⟨h1,h2⟩:=h
  subst h1
  simp [B0,Pj h2]
def An {α:Type} (l:List (Bool×Bool)) (x:Option α) (d:α):Option α:=bif B0 l then x else some d
theorem Aw {α:Type} {l:List (Bool×Bool)} {x:Option α} {d v:α} (h:An l x d=some v) (hg:Cs l):x=some v:=by
 unfold An at h
 rw [Pj hg] at h
 exact h
def getI {α:Type} (l:List α) (n:Int):Option α:=bif decide (0<=n) then l[n.toNat]? else none
def setI {α:Type} (l:List α) (n:Int) (x:α):Option (List α):=bif decide (0<=n)&&decide (n<l.length) then some (l.set n.toNat x) else none
def mkI {α:Type} (B:Nat) (n:Int) (d:α):Option (List α):=bif decide (0<=n)&&decide (n*B<=140737488355328) then some (List.replicate n.toNat d) else none
def cutI {α:Type} (l:List α) (lo hi:Int):Option (List α):=bif decide (0<=lo)&&(decide (lo<=hi)&&decide (hi<=l.length)) then some ((l.take hi.toNat).drop lo.toNat) else none
def nzI (n:Int):Option Unit:=bif n==0 then none else some ()
def H9 (s:ByteArray):Option (List Int):=bif decide ((s.size:Int)<=140737488355328) then some (B8 s) else none
def Nz (l:List Int):Option ByteArray:=bif B8 ⟨(l.map λ n=>UInt8.ofNat n.toNat).toArray⟩==l then some ⟨(l.map λ n=>UInt8.ofNat n.toNat).toArray⟩ else none
def Bl (s:ByteArray) (n:Int):Option UInt8:=bif decide (0<=n) then s.data[n.toNat]? else none
def appI {α:Type} (B:Nat) (l m:List α):Option (List α):=bif decide ((l.length+m.length)*B<=140737488355328) then some (l++m) else none
section
variable {P:Program} {α:Type}
theorem Xg {s:ByteArray} {y:List Int} (h:H9 s=some y):Cl.ok P (.room (s.size:Int) (Cv s) (y.map (pK .u8))):=by
 unfold H9 at h
 cases hd:decide ((s.size:Int)<=140737488355328) with
 | false=>rw [hd] at h;cases h
 | true=>
  rw [hd] at h
  simp only [cond_true,ah] at h
  subst h
  exact⟨by omega,cW hd,rfl⟩
theorem U1 {s:ByteArray} {y:List Int} (h:H9 s=some y):Cl.ok P (.roomZ (s.size:Int) (Cv s) (y.map (pK .u8))):=Xg (P:=P) h
theorem P7 {l:List Int} {y:ByteArray} (h:Nz l=some y):Cl.ok P (.strb (l.map (pK .u8)) y):=by
 unfold Nz at h
 cases hd:(B8 ⟨(l.map λ n=>UInt8.ofNat n.toNat).toArray⟩==l) with
 | false=>rw [hd] at h;cases h
 | true=>
  rw [hd] at h
  simp only [cond_true,ah] at h
  subst h
  have e:=eq_of_beq hd
  show l.map (pK .u8)=_
  conv=>lhs;rw [←e]
  unfold B8
  rw [bH];rfl
theorem Bc {s:ByteArray} {n:Int} {y:UInt8} (h:Bl s n=some y):Cl.ok P (.byte s n y):=by
 unfold Bl at h
 cases hd:decide (0<=n) with
 | false=>rw [hd] at h;cases h
 | true=>
  rw [hd] at h
  exact⟨cW hd,h⟩
theorem jV (enc:α->List Pd) (size:Nat) (hs:∀ x,(enc x).length=size) {B:Nat} {l m y:List α} (h:appI (B+1) l m=some y):Cl.ok P (.app (l.map enc) (m.map enc) size (((l.map enc).length+(m.map enc).length)*(B+1)) (y.map enc)):=by
 unfold appI at h
 cases hd:decide ((l.length+m.length)*(B+1)<=140737488355328) with
 | false=>rw [hd] at h;cases h
 | true=>
  rw [hd] at h
  simp only [cond_true,ah] at h
  subst h
  refine⟨by rw [aL,aL];exact cW hd,λ r hr=>?_,by rw [bO]⟩
  obtain⟨x,_,rfl⟩:=aK.1 hr
  exact hs x
theorem Kv {l:List α} {enc:α->List Pd} {n:Int} {x:α} (h:getI l n=some x):Cl.ok P (.row (l.map enc) n (enc x)):=by
 unfold getI at h
 cases hd:decide (0<=n) with
 | false=>rw [hd] at h;cases h
 | true=>
  rw [hd] at h
  simp only [cond_true] at h
  exact⟨cW hd,by rw [al,h];rfl⟩
theorem H0 {l:List α} {enc:α->List Pd} {n:Int} {x:α} (h:getI l n=some x):Cl.ok P (.idx (l.map enc) n (enc x)):=by
 unfold getI at h
 cases hd:decide (0<=n) with
 | false=>rw [hd] at h;cases h
 | true=>
  rw [hd] at h
  simp only [cond_true] at h
  exact⟨cW hd,by rw [al,h];rfl⟩
theorem Dg {n:Int} {u:Unit} (h:nzI n=some u):Cl.ok P (.nz n):=by
 unfold nzI at h
 show n≠0
 intro e;subst e;cases h
theorem Wm {n:Int} (h:(n==0)=false):Cl.ok P (.nz n):=by
 show n≠0
 intro e;subst e;cases h
theorem Qp {l:List α} {enc:α->List Pd} {n:Int} {x:α} (h:getI l n=some x):Cl.ok P (.row (l.map enc) ((n.toNat:Nat):Int) (enc x)):=by
 obtain⟨h0,h1⟩:=(Kv (P:=P) (enc:=enc) h:0<=n/\(l.map enc)[n.toNat]? = some (enc x))
 exact⟨Int.natCast_nonneg _,by rw [bW];exact h1⟩
theorem Z4 {l y:List α} {enc:α->List Pd} {n:Int} {x x':α} (hx:getI l n=some x) (h:setI l n x'=some y):Cl.ok P (.upd (l.map enc) n.toNat (enc x) (enc x') (y.map enc)):=by
 obtain⟨h0,h1⟩:=(Kv (P:=P) (enc:=enc) hx:0<=n/\(l.map enc)[n.toNat]? = some (enc x))
 refine⟨h1,?_⟩
 unfold setI at h
 cases hd:(decide (0<=n)&&decide (n<l.length)) with
 | false=>rw [hd] at h;cases h
 | true=>
  rw [hd] at h
  simp at h;subst h
  rw [List.map_set]
theorem Tp (l:List α) (enc:α->List Pd):Cl.ok P (.len ((l.map enc).length:Int) (l.length:Int)):=by
 show ((l.map enc).length:Int)=l.length
 rw [aL]
theorem Tv (enc:α->List Pd) (size:Nat) (hs:∀ x,(enc x).length=size) {l y:List α} {lo hi:Int} (h:cutI l lo hi=some y):Cl.ok P (.cut (l.map enc) size lo hi (y.map enc)):=by
 unfold cutI at h
 cases hd:(decide (0<=lo)&&(decide (lo<=hi)&&decide (hi<=l.length))) with
 | false=>rw [hd] at h;cases h
 | true=>
  rw [hd] at h
  simp only [cond_true,ah] at h
  simp only [af,cR] at hd
  subst h
  refine⟨hd.1,hd.2.1,by rw [aL];exact hd.2.2,λ r hr=>?_,by rw [←List.map_take,←List.map_drop]⟩
  obtain⟨x,_,rfl⟩:=aK.1 hr
  exact hs x
theorem S9 (enc:α->List Pd) (size:Nat) (hs:∀ x,(enc x).length=size) {l y:List α} {lo:Int} (h:cutI l lo (l.length:Int)=some y):Cl.ok P (.cut (l.map enc) size lo ((l.map enc).length:Int) (y.map enc)):=by
 have:((l.map enc).length:Int)=l.length:=by rw [aL]
 rw [this];exact Tv enc size hs h
def bndI (k:Nat) (lo hi:Int):Option Unit:=bif decide (0<=lo)&&(decide (lo<=hi)&&decide (hi<=k)) then some () else none
theorem K6 {k:Nat} {lo hi:Int} {u:Unit} {k':Nat} {hi':Int} (hk:k'=k) (hh:hi'=hi) (h:bndI k lo hi=some u):Cl.ok P (.bnd k' lo hi' hi):=by
 subst hk;subst hh
 unfold bndI at h
 cases hd:decide (0<=lo)&&(decide (lo<=hi')&&decide (hi'<=k')) with
 | false=>rw [hd] at h;cases h
 | true=>simp at hd;exact⟨hd.1,hd.2.1,hd.2.2,rfl⟩
def yZ (k:Nat) (lo hi mx:Int):Option Unit:=bif decide (0<=lo)&&(decide (lo<=hi)&&(decide (hi<=mx)&&decide (mx<=k))) then some () else none
def zA {α:Type} (l:List α) (n:Nat) (m:List α):Option (List α):=bif decide (n+m.length<=l.length) then some (l.take n++(m++l.drop (n+m.length))) else none
def zJ {α:Type} (B:Nat) (l:List α) (i:Int) (m:List α):Option (List α):=bif decide ((l.length+m.length)*B<=140737488355328) then some (l.take i.toNat++(m++l.drop i.toNat)) else none
def zL {α:Type} (l:List α) (lo n:Nat) (d:α):List α:=l.take lo++(List.replicate n d++l.drop (lo+n))
def zK {α:Type} (l:List α) (lo n:Nat) (m:List α):List α:=l.take lo++(m.take (Nat.min m.length n)++l.drop (lo+Nat.min m.length n))
theorem O4 {f:FuncId} {args:List AV} {res:AV} (h:C9 P f/\CallOk P f args [] res []):Cl.ok P (.callB f args res [[]] 0 []):=⟨h,rfl⟩
theorem Tk {l:List α} {enc:α->List Pd} {i:Nat} {x:α} (hx:l[i]? = some x) (hl:(l.map enc).length<=maxLen):Cl.ok P (.row (l.map enc) (cnt 0 i) (enc x)):=by
 have hi:i<l.length:=(aa.1 hx).1
 rw [aL] at hl
 have hm:maxLen=9223372036854775807:=rfl
 rw [Kg (by omega) (by omega)]
 refine⟨by omega,?_⟩
 have:((0:Int)+(i:Int)).toNat=i:=by omega
 rw [this,al,hx];rfl
theorem Tq {l:List α} {enc:α->List Pd} {i:Nat} {x:α} (hx:l[i]? = some x) (hl:(l.map enc).length<=maxLen):getI l (cnt 0 i)=some x:=by
 have hi:i<l.length:=(aa.1 hx).1
 rw [aL] at hl
 have hm:maxLen=9223372036854775807:=rfl
 rw [Kg (by omega) (by omega)]
 unfold getI
 have h1:decide ((0:Int)<=0+(i:Int))=true:=cT (by omega)
 have h2:((0:Int)+(i:Int)).toNat=i:=by omega
 rw [h1,h2];exact hx
theorem Bb {l:List α} {enc:α->List Pd} {i:Nat} (hi:i<l.length) (hl:(l.map enc).length<=maxLen):decide (cnt 0 i<(l.length:Int))=true:=by
 rw [aL] at hl
 have hm:maxLen=9223372036854775807:=rfl
 rw [Kg (by omega) (by omega)]
 exact cT (by omega)
theorem C4 {l:List α} {enc:α->List Pd} (hl:(l.map enc).length<=maxLen):decide (cnt 0 l.length<(l.length:Int))=false:=by
 rw [aL] at hl
 have hm:maxLen=9223372036854775807:=rfl
 rw [Kg (by omega) (by omega)]
 exact cU (by omega)
end
def uK (zs:List Int) (k:Nat):List (Int×Int):=(List.range k).map λ j=>(((zs.length-1-j:Nat):Int),(zs[zs.length-1-j]?.getD 0))
def bw (zs:List Int):List (Int×Int):=uK zs zs.length
def andThen {σ τ ρ:Type} (c:Option (Ctl σ τ)) (g:τ->Option ρ) (f:σ->Option ρ):Option ρ:=
 match c with
 | some (.ret v)=>g v
 | some (.next s)=>f s
 | some (.brk s)=>f s
 | none=>none
theorem Al {σ τ ρ:Type} {c:Option (Ctl σ τ)} {g:τ->Option ρ} {f:σ->Option ρ} {r:ρ} (h:andThen c g f=some r):∃ k,c=some k/\(∀ v,k = .ret v->g v=some r)/\(∀ s,k = .next s->f s=some r):=by
 unfold andThen at h
 split at h
 ·exact⟨_,rfl,λ v e=>by cases e;exact h,λ s e=>by cases e⟩
 ·exact⟨_,rfl,λ v e=>(by cases e),λ s e=>by cases e;exact h⟩
 ·exact⟨_,rfl,λ v e=>(by cases e),λ s e=>by cases e⟩
 ·cases h
end Go.SL
