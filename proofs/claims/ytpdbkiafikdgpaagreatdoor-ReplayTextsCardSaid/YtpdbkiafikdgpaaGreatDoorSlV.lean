import Derived.Test.YtpdbkiafikdgpaaGreatDoorSlU
namespace Go.SL
abbrev I (n:Int):D:=.p (.v (.int .i64 n))
abbrev Bo (b:Bool):D:=.p (.v (.bool b))
abbrev w64 (n:Int):Int:=IntKind.i64.wrap n
abbrev DS {α:Type} (f:α->List Pd) (x:List α):D:=.p (.s (x.map f))
def pI (n:Int):List Pd:=[.v (.int .i64 n)]
def pK (k:IntKind) (n:Int):List Pd:=[.v (.int k n)]
def pB (b:Bool):List Pd:=[.v (.bool b)]
def pS (s:ByteArray):List Pd:=[.v (.string s)]
def pL {α:Type} (f:α->List Pd) (l:List α):List Pd:=[.s (l.map f)]
theorem Asf {α:Type} {c:Bool} {x y r:α} (hc:c=true) (h:(bif c then x else y)=r):x=r:=by subst hc;exact h
theorem Asg {α:Type} {c:Bool} {x y r:α} (hc:c=false) (h:(bif c then x else y)=r):y=r:=by subst hc;exact h
theorem Asj (b:Bool):b=true\/b=false:=by cases b <;> simp
def Eb:List (Bool×Bool)->Bool
 | []=>true
 | (a,b)::r=>(a==b)&&Eb r
theorem Mj:∀ {l:List (Bool×Bool)},Cs l->Eb l=true
 | [],_=>rfl
 | (a,b)::r,h=>by
  obtain⟨h1,h2⟩:=h
  subst h1
  simp [Eb,Mj h2]
theorem Mi:∀ {l:List (Bool×Bool)},Eb l=true->Cs l
 | [],_=>trivial
 | (a,b)::r,h=>by
  simp only [Eb,ac,da] at h
  exact⟨h.1,Mi h.2⟩
def A5 {α:Type} (l:List (Bool×Bool)) (x:Option α) (d:α):Option α:=bif Eb l then x else some d
theorem E5 {α:Type} {l:List (Bool×Bool)} {x:Option α} {d v:α} (h:A5 l x d=some v) (hg:¬Cs l):v=d:=by
 unfold A5 at h
 cases hb:Eb l with
 | true=>exact absurd (Mi hb) hg
 | false=>rw [hb] at h;simpa using h.symm
theorem A9 {α:Type} {l:List (Bool×Bool)} {x:Option α} {d v:α} (h:A5 l x d=some v) (hg:Cs l):x=some v:=by
 unfold A5 at h
 rw [Mj hg] at h
 exact h
def getI {α:Type} (l:List α) (n:Int):Option α:=bif decide (0<=n) then l[n.toNat]? else none
def setI {α:Type} (l:List α) (n:Int) (x:α):Option (List α):=bif decide (0<=n)&&decide (n<l.length) then some (l.set n.toNat x) else none
def mkI {α:Type} (B:Nat) (n:Int) (d:α):Option (List α):=bif decide (0<=n)&&decide (n*B<=140737488355328) then some (List.replicate n.toNat d) else none
def cutI {α:Type} (l:List α) (lo hi:Int):Option (List α):=bif decide (0<=lo)&&(decide (lo<=hi)&&decide (hi<=l.length)) then some ((l.take hi.toNat).drop lo.toNat) else none
def nzI (n:Int):Option Unit:=bif n==0 then none else some ()
def Mf (s:ByteArray):Option (List Int):=bif decide ((s.size:Int)<=140737488355328) then some (Mg s) else none
def Ash (s:ByteArray) (n:Int):Option UInt8:=bif decide (0<=n) then s.data[n.toNat]? else none
def appI {α:Type} (B:Nat) (l m:List α):Option (List α):=bif decide ((l.length+m.length)*B<=140737488355328) then some (l++m) else none
section
variable {P:Program} {α:Type}
theorem Agb {s:ByteArray} {y:List Int} (h:Mf s=some y):Cl.ok P (.room (s.size:Int) (G4 s) (y.map (pK .u8))):=by
 unfold Mf at h
 cases hd:decide ((s.size:Int)<=140737488355328) with
 | false=>rw [hd] at h;cases h
 | true=>
  rw [hd] at h
  simp only [cond_true,aj] at h
  subst h
  exact⟨by omega,of_decide_eq_true hd,rfl⟩
theorem E9 (enc:α->List Pd) (size:Nat) (hs:∀ x,(enc x).length=size) {B:Nat} {l m y:List α} (h:appI (B+1) l m=some y):Cl.ok P (.app (l.map enc) (m.map enc) size (((l.map enc).length+(m.map enc).length)*(B+1)) (y.map enc)):=by
 unfold appI at h
 cases hd:decide ((l.length+m.length)*(B+1)<=140737488355328) with
 | false=>rw [hd] at h;cases h
 | true=>
  rw [hd] at h
  simp only [cond_true,aj] at h
  subst h
  refine⟨by rw [aw,aw];exact of_decide_eq_true hd,λ r hr=>?_,by rw [bS]⟩
  obtain⟨x,_,rfl⟩:=aq.1 hr
  exact hs x
theorem D4 (enc:α->List Pd) (size:Nat) (hs:∀ x,(enc x).length=size) {B:Nat} {m y:List α} (h:appI (B+1) [] m=some y):Cl.ok P (.app [] (m.map enc) size ((m.map enc).length*(B+1)) (y.map enc)):=by
 have:=E9 (P:=P) enc size hs h
 simpa using this
theorem Mw {l:List α} {enc:α->List Pd} {n:Int} {x:α} (h:getI l n=some x):Cl.ok P (.row (l.map enc) n (enc x)):=by
 unfold getI at h
 cases hd:decide (0<=n) with
 | false=>rw [hd] at h;cases h
 | true=>
  rw [hd] at h
  simp only [cond_true] at h
  exact⟨of_decide_eq_true hd,by rw [ap,h];rfl⟩
theorem Yd {n:Int} {u:Unit} (h:nzI n=some u):Cl.ok P (.nz n):=by
 unfold nzI at h
 show n≠0
 intro e;subst e;cases h
theorem Yc {n:Int} (h:(n==0)=false):Cl.ok P (.nz n):=by
 show n≠0
 intro e;subst e;cases h
theorem J0 {l:List α} {enc:α->List Pd} {n:Int} {x:α} (h:getI l n=some x):Cl.ok P (.row (l.map enc) ((n.toNat:Nat):Int) (enc x)):=by
 obtain⟨h0,h1⟩:=(Mw (P:=P) (enc:=enc) h:0<=n/\(l.map enc)[n.toNat]? = some (enc x))
 exact⟨Int.natCast_nonneg _,by rw [aX];exact h1⟩
theorem vF {l y:List α} {enc:α->List Pd} {n:Int} {x x':α} (hx:getI l n=some x) (h:setI l n x'=some y):Cl.ok P (.upd (l.map enc) n.toNat (enc x) (enc x') (y.map enc)):=by
 obtain⟨h0,h1⟩:=(Mw (P:=P) (enc:=enc) hx:0<=n/\(l.map enc)[n.toNat]? = some (enc x))
 refine⟨h1,?_⟩
 unfold setI at h
 cases hd:(decide (0<=n)&&decide (n<l.length)) with
 | false=>rw [hd] at h;cases h
 | true=>
  rw [hd] at h
  simp at h;subst h
  rw [List.map_set]
theorem Gm {enc:α->List Pd} {B:Nat} {n:Int} {d:α} {y:List α} (h:mkI (B+1) n d=some y):Cl.ok P (.room (n*(B+1)) (List.replicate n.toNat (enc d)) (y.map enc)):=by
 unfold mkI at h
 cases hd:(decide (0<=n)&&decide (n*((B+1:Nat):Int)<=140737488355328)) with
 | false=>rw [hd] at h;cases h
 | true=>
  rw [hd] at h
  simp at h;subst h
  simp only [ac,cY] at hd
  refine⟨Int.mul_nonneg hd.1 (by omega),by have:=hd.2;simpa using this,by simp⟩
theorem yM (l:List α) (enc:α->List Pd):Cl.ok P (.len ((l.map enc).length:Int) (l.length:Int)):=by
 show ((l.map enc).length:Int)=l.length
 rw [aw]
theorem Sz (enc:α->List Pd) (size:Nat) (hs:∀ x,(enc x).length=size) {l y:List α} {lo hi:Int} (h:cutI l lo hi=some y):Cl.ok P (.cut (l.map enc) size lo hi (y.map enc)):=by
 unfold cutI at h
 cases hd:(decide (0<=lo)&&(decide (lo<=hi)&&decide (hi<=l.length))) with
 | false=>rw [hd] at h;cases h
 | true=>
  rw [hd] at h
  simp only [cond_true,aj] at h
  simp only [ac,cY] at hd
  subst h
  refine⟨hd.1,hd.2.1,by rw [aw];exact hd.2.2,λ r hr=>?_,by rw [←List.map_take,←List.map_drop]⟩
  obtain⟨x,_,rfl⟩:=aq.1 hr
  exact hs x
theorem vC (enc:α->List Pd) (size:Nat) (hs:∀ x,(enc x).length=size) {l y:List α} {lo:Int} (h:cutI l lo (l.length:Int)=some y):Cl.ok P (.cut (l.map enc) size lo ((l.map enc).length:Int) (y.map enc)):=by
 have:((l.map enc).length:Int)=l.length:=by rw [aw]
 rw [this];exact Sz enc size hs h
def As0 (k:Nat) (lo hi:Int):Option Unit:=bif decide (0<=lo)&&(decide (lo<=hi)&&decide (hi<=k)) then some () else none
def Ask (k:Nat) (lo hi mx:Int):Option Unit:=bif decide (0<=lo)&&(decide (lo<=hi)&&(decide (hi<=mx)&&decide (mx<=k))) then some () else none
def Asl {α:Type} (l:List α) (n:Nat) (m:List α):Option (List α):=bif decide (n+m.length<=l.length) then some (l.take n++(m++l.drop (n+m.length))) else none
def Asu {α:Type} (B:Nat) (l:List α) (i:Int) (m:List α):Option (List α):=bif decide ((l.length+m.length)*B<=140737488355328) then some (l.take i.toNat++(m++l.drop i.toNat)) else none
def Asz {α:Type} (l:List α) (lo n:Nat) (d:α):List α:=l.take lo++(List.replicate n d++l.drop (lo+n))
def Mb {α:Type} (l:List α) (lo n:Nat) (m:List α):List α:=l.take lo++(m.take (Nat.min m.length n)++l.drop (lo+Nat.min m.length n))
theorem Al0 (enc:α->List Pd) (size:Nat) (hs:∀ x,(enc x).length=size) {l m:List α} {lo n n':Nat} {src:List (List Pd)} (hsrc:src=m.map enc) (hn:n'=n) :
  Cl.ok P (.cpy src size n' (Nat.min m.length n) ((l.map enc).take lo++(src.take (Nat.min m.length n)++(l.map enc).drop (lo+Nat.min m.length n))) ((Mb l lo n m).map enc)):=by
 subst hsrc;subst hn
 refine⟨by simp,λ x hx=>?_,by simp [Mb]⟩
 obtain⟨z,_,rfl⟩:=aq.1 hx
 exact hs z
theorem Lq {enc:α->List Pd} {B:Nat} {n:Int} {d:α} {y:List α} (h:mkI (B+1) n d=some y):Cl.ok P (.roomZ (n*(B+1)) (List.replicate n.toNat (enc d)) (y.map enc)):=Gm (P:=P) (enc:=enc) h
theorem Zn {β:Type} {enc:α->List Pd} {enc2:β->List Pd} (size:Nat) (hs:∀ x,(enc2 x).length=size) {B:Nat} {l:List α} {i:Int} {x:α} {off:Nat} {a m y:List β} (hx:getI l i=some x) (ho:(enc x)[off]? = some (.s (a.map enc2))) (h:appI (B+1) a m=some y) :
  Cl.ok P (.appD (l.map enc) i.toNat (enc x) off (a.map enc2) (m.map enc2) size (((a.map enc2).length+(m.map enc2).length)*(B+1)) (y.map enc2)):=by
 obtain⟨_,h1⟩:=J0 (P:=P) (enc:=enc) hx
 simp only [aX] at h1
 exact⟨⟨h1,ho⟩,E9 (P:=P) enc2 size hs h⟩
theorem V8 {l y:List α} {enc:α->List Pd} {n:Int} {x x':α} (hx:getI l n=some x) (h:setI l n x'=some y):Cl.ok P (.updD (l.map enc) n.toNat n.toNat (enc x) (enc x') (y.map enc)):=
 ⟨rfl,vF (P:=P) (enc:=enc) hx h⟩
theorem Lv {f:FuncId} {args:List AV} {res:AV} (h:El P f/\CallOk P f args [] res []):Cl.ok P (.callB f args res [[]] 0 []):=⟨h,rfl⟩
theorem Alq {l:List α} {enc:α->List Pd} {i:Nat} {x:α} (hx:l[i]? = some x) (hl:(l.map enc).length<=maxLen):Cl.ok P (.row (l.map enc) (cnt 0 i) (enc x)):=by
 have hi:i<l.length:=(aa.1 hx).1
 rw [aw] at hl
 have hm:maxLen=9223372036854775807:=rfl
 rw [Mc (by omega) (by omega)]
 refine⟨by omega,?_⟩
 have:((0:Int)+(i:Int)).toNat=i:=by omega
 rw [this,ap,hx];rfl
theorem Bj {l:List α} {enc:α->List Pd} {i:Nat} {x:α} (hx:l[i]? = some x) (hl:(l.map enc).length<=maxLen):getI l (cnt 0 i)=some x:=by
 have hi:i<l.length:=(aa.1 hx).1
 rw [aw] at hl
 have hm:maxLen=9223372036854775807:=rfl
 rw [Mc (by omega) (by omega)]
 unfold getI
 have h1:decide ((0:Int)<=0+(i:Int))=true:=dc (by omega)
 have h2:((0:Int)+(i:Int)).toNat=i:=by omega
 rw [h1,h2];exact hx
theorem A4 {l:List α} {enc:α->List Pd} {i:Nat} (hi:i<l.length) (hl:(l.map enc).length<=maxLen):decide (cnt 0 i<(l.length:Int))=true:=by
 rw [aw] at hl
 have hm:maxLen=9223372036854775807:=rfl
 rw [Mc (by omega) (by omega)]
 exact dc (by omega)
theorem A6 {l:List α} {enc:α->List Pd} (hl:(l.map enc).length<=maxLen):decide (cnt 0 l.length<(l.length:Int))=false:=by
 rw [aw] at hl
 have hm:maxLen=9223372036854775807:=rfl
 rw [Mc (by omega) (by omega)]
 exact decide_eq_false (by omega)
end
def Aoi (zs:List Int) (k:Nat):List (Int×Int):=(List.range k).map λ j=>(((zs.length-1-j:Nat):Int),(zs[zs.length-1-j]?.getD 0))
def bw (zs:List Int):List (Int×Int):=Aoi zs zs.length
def andThen {σ τ ρ:Type} (c:Option (Ctl σ τ)) (g:τ->Option ρ) (f:σ->Option ρ):Option ρ:=
 match c with
 | some (.ret v)=>g v
 | some (.next s)=>f s
 | some (.brk s)=>f s
 | none=>none
theorem Ak {σ τ ρ:Type} {c:Option (Ctl σ τ)} {g:τ->Option ρ} {f:σ->Option ρ} {r:ρ} (h:andThen c g f=some r):∃ k,c=some k/\(∀ v,k = .ret v->g v=some r)/\(∀ s,k = .next s->f s=some r):=by
 unfold andThen at h
 split at h
 ·exact⟨_,rfl,λ v e=>by cases e;exact h,λ s e=>by cases e⟩
 ·exact⟨_,rfl,λ v e=>(by cases e),λ s e=>by cases e;exact h⟩
 ·exact⟨_,rfl,λ v e=>(by cases e),λ s e=>by cases e⟩
 ·cases h
end Go.SL
