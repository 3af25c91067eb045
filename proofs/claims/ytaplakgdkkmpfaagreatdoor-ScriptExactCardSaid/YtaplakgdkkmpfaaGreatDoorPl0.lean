import Derived.Test.YtaplakgdkkmpfaaGreatDoorMo
import Derived.Test.YtaplakgdkkmpfaaGreatDoorHo
import Derived.Lib.AtoiTie
namespace Go.Proofs.YtaplakgdkkmpfaaGreatDoor
open Go.SL
set_option linter.unusedVariables false
theorem Mu {x n:Int} (h:0<n):-n<Int.tmod x n/\Int.tmod x n<n:=by
 have h1:=Int.tmod_lt_of_pos x h
 have h2:=Int.lt_tmod_of_pos x h
 exact⟨h2,h1⟩
theorem qI {x n:Int} (h:0<n) (h0:0<=x):0<=Int.tmod x n/\Int.tmod x n<n:=⟨Int.tmod_nonneg n h0,(Mu h).2⟩
structure B9 (s:Ad):Prop where
 lo:0<=s.At
 hi:s.At<=s.L.length
 len:s.L.length<=600
def InR (n r:Int):Prop:=(1<=n->0<=r/\r<n)/\(n<1->r=0)
theorem yQ (x n:Int) (h:n<=4611686018427387904):Ok (F18 x n) (InR n):=by
 unfold F18
 refine cb (λ h1=>?_) λ h1=>?_
 ·simp only [cP] at h1
  exact c8 ⟨λ h2=>by omega,λ _=>rfl⟩
 ·simp only [cQ] at h1
  refine (Ok.nzI (by omega)).bind λ _ _=>(Ok.nzI (by omega)).bind λ _ _=>c8 ⟨λ _=>?_,λ h2=>by omega⟩
  have h2:=Mu (x:=x) (n:=n) (by omega)
  rw [Cd (by omega)]
  exact qI (by omega) (by omega)
theorem zR {s:Ad} (hs:B9 s) (n:Int) (h:n<=4611686018427387904):Ok (F8 s n) λ y=>B9 y.2/\InR n y.1:=by
 obtain⟨h1,h2,h3⟩:=hs
 unfold F8
 refine cb (λ h4=>?_) λ h4=>?_
 ·exact c8 ⟨⟨h1,h2,h3⟩,λ h5=>⟨by simp,by show (0:Int)<n;omega⟩,λ _=>rfl⟩
 ·simp only [cQ] at h4
  have e:w64 (s.At+1)=s.At+1:=Cd (by omega)
  rw [e,Cd (n:=s.At+1-1) (by omega)]
  refine (cj (by omega) (by omega)).bind λ x _=>(yQ x n h).bind λ r hr=>c8 ⟨⟨?_,?_,h3⟩,hr⟩
  ·show 0<=s.At+1;omega
  ·show s.At+1<=(s.L.length:Int);omega
theorem Gq {s:Ad} (hs:B9 s) (n:Int) (h0:1<=n) (h:n<=4611686018427387904):Ok (F8 s n) λ y=>B9 y.2/\0<=y.1/\y.1<n:=
 (zR hs n h).mono λ _ h=>⟨h.1,h.2.1 h0⟩
theorem Sv {s:Ad} (hs:B9 s) (lo hi:Int) (h:lo<=hi) (h0:-1000000000000<=lo) (h1:hi<=1000000000000):Ok (F9 s lo hi) λ y=>B9 y.2/\lo<=y.1/\y.1<=hi:=by
 unfold F9
 have e:w64 (w64 (hi-lo)+1)=hi-lo+1:=by rw [Cd (n:=hi-lo) (by omega),Cd (by omega)]
 rw [e]
 refine (Gq hs _ (by omega) (by omega)).bind λ y hy=>c8 ⟨hy.1,?_⟩
 have:=hy.2
 show lo<=w64 (lo+y.1)/\w64 (lo+y.1)<=hi
 rw [Cd (by omega)]
 omega
theorem Ox {s:Ad} (hs:B9 s) (l:List Int) (h:1<=l.length) (h1:l.length<=1000):Ok (F10 s l) λ y=>B9 y.2/\y.1∈l:=by
 unfold F10
 refine (Gq hs _ (by omega) (by omega)).bind λ y hy=>?_
 have:=hy.2
 refine (cj (by omega) (by omega)).bind λ x hx=>c8 ⟨hy.1,aq hx⟩
theorem yP (l:List Int):Ok (F6 l) B9:=by
 unfold F6
 refine (Ok.cutI (by omega) (by omega) (by omega)).bind λ y hy=>c8 ⟨by simp,by simp,?_⟩
 subst hy
 simp only [bI,aG]
 omega
def inB (n:Int):Bool:=decide (-1000000000<=n)&&decide (n<=1000000000)
def Bt (k:Int):Nat:=([0,3,2,2,7,4,1,1,1]:List Nat)[k.toNat]?.getD 0
def Ek (l:List Int):Int:=l[0]?.getD 0
def vaB (c:api_Command):Bool:=decide (1<=c.Kind)&&(decide (c.Kind<=8)&&(c.Numbers.length==Bt c.Kind&&(c.Numbers.all inB&&(c.Kind != 8 || (decide (1<=Ek c.Numbers)&&decide (Ek c.Numbers<=60))))))
structure Va (c:api_Command):Prop where
 k0:1<=c.Kind
 k1:c.Kind<=8
 len:c.Numbers.length=Bt c.Kind
 inr:∀ n,n∈c.Numbers -> -1000000000<=n/\n<=1000000000
 tick:c.Kind=8->1<=Ek c.Numbers/\Ek c.Numbers<=60
theorem Fg (c:api_Command):vaB c=true↔Va c:=by
 unfold vaB
 constructor
 ·intro h
  simp only [aa,aR,cP,aO,inB,bne_iff_ne,ne_eq,beq_iff_eq] at h
  obtain⟨a,b,d,e,f⟩:=h
  exact⟨a,b,d,e,λ hk=>f.resolve_left λ q=>q hk⟩
 ·rintro⟨a,b,d,e,f⟩
  simp only [aa,aR,cP,aO,inB,bne_iff_ne,ne_eq,beq_iff_eq]
  refine⟨a,b,d,e,?_⟩
  by_cases hk:c.Kind=8
  ·exact .inr (f hk)
  ·exact .inl hk
theorem Lb:∀ (l:List Int) (k:Nat),foldI (J8 1000000000) l k ()=bif l.all inB then some (.next ()) else some (.ret false)
 | [],_=>rfl
 | n::l,k=>by
  unfold foldI
  have e:J8 1000000000 k n ()=bif inB n then some (.next ()) else some (.ret false):=by
   unfold J8 jV inB
   have:w64 (0-1000000000) = -1000000000:=Cd (by omega)
   rw [this]
   have q1:decide (n < -1000000000) = !decide (-1000000000<=n):=by
    by_cases h:-1000000000<=n
    ·rw [cR h,cS (by omega)];rfl
    ·rw [cS h,cR (by omega)];rfl
   have q2:decide (n>1000000000) = !decide (n<=1000000000):=by
    by_cases h:n<=1000000000
    ·rw [cR h,cS (by omega)];rfl
    ·rw [cS h,cR (by omega)];rfl
   rw [q1,q2]
   cases decide (-1000000000<=n) <;> cases decide (n<=1000000000) <;> rfl
  rw [e,List.all_cons]
  cases inB n with
  | true=>simp only [cond_true,bj];exact Lb l (k+1)
  | false=>rfl
theorem X4 (l:List Int):F30 1000000000 l=some (l.all inB):=by
 unfold F30
 rw [Lb]
 cases l.all inB with
 | true=>rfl
 | false=>rfl
theorem Ca {k:Int} (h0:1<=k) (h1:k<=8):k=1\/k=2\/k=3\/k=4\/k=5\/k=6\/k=7\/k=8:=by omega
def Og (k:Int):Az:=(F44)[(k-1).toNat]?.getD default
theorem Md {k:Int} (h0:1<=k) (h1:k<=8):getI F44 (w64 (k-1))=some (Og k):=by
 rcases Ca h0 h1 with rfl | rfl | rfl | rfl | rfl | rfl | rfl | rfl <;> rfl
theorem Zd {k:Int} (h0:1<=k) (h1:k<=8):(Og k).numbers=(Bt k:Int):=by
 rcases Ca h0 h1 with rfl | rfl | rfl | rfl | rfl | rfl | rfl | rfl <;> rfl
theorem Oh {k:Int}:Hi k=(decide (k<1) || decide (k>8)):=rfl
theorem Mm (c:api_Command):F13 c=some (vaB c):=by
 unfold F13
 rw [Oh,X4]
 by_cases h0:1<=c.Kind
 ·by_cases h1:c.Kind<=8
  ·rw [cS (by omega), cS (by omega)]
   simp only [bO,cond_false]
   rw [Md h0 h1]
   simp only [ak,jZ]
   rw [Zd h0 h1]
   unfold vaB
   rw [cR h0,cR h1]
   by_cases hl:c.Numbers.length=Bt c.Kind
   ·have e1:((c.Numbers.length:Int) != (Bt c.Kind:Int))=false:=by rw [hl];simp
    have e2:(c.Numbers.length==Bt c.Kind)=true:=by rw [hl];simp
    rw [e1,e2]
    simp only [Ar,Cu,beq_self_eq_true,bn,cond_true,ak,be,bj]
    cases ha:c.Numbers.all inB with
    | false=>rfl
    | true=>
     simp only [bh,cond_false,bj]
     by_cases hk:c.Kind=8
     ·have e3:(c.Kind != 8)=false:=by rw [hk];rfl
      rw [e3]
      simp only [beq_self_eq_true,cond_true,be]
      have hl':c.Numbers.length=1:=by rw [hl,hk];rfl
      obtain⟨n,hn⟩:=bS.1 hl'
      rw [hn]
      have eg:getI [n] 0=some n:=rfl
      rw [eg]
      have:Ek [n]=n:=rfl
      simp only [ak,bj,this]
      by_cases hn1:n>=1
      ·rw [cR hn1];simp
      ·rw [cS hn1];simp
     ·have e3:(c.Kind != 8)=true:=by simpa using hk
      rw [e3]
      simp
   ·have e1:((c.Numbers.length:Int) != (Bt c.Kind:Int))=true:=by simp;omega
    have e2:(c.Numbers.length==Bt c.Kind)=false:=by simp;omega
    rw [e1,e2]
    simp [Ar,Cu]
  ·rw [cR (show c.Kind>8 by omega)]
   simp only [Bool.or_true,cond_true,vaB]
   rw [cS h1]
   simp [Ar,Cu]
 ·rw [cR (show c.Kind<1 by omega)]
  simp only [Bool.true_or,cond_true,vaB]
  rw [cS h0]
  simp [Ar,Cu]
def tkI (c:api_Command):Int:=bif (c.Kind==8)&&vaB c then Ek c.Numbers else 0
def tkS:List api_Command->Int
 | []=>0
 | c::l=>tkI c+tkS l
theorem Wd (c:api_Command):0<=tkI c/\tkI c<=60:=by
 unfold tkI
 refine cO (P:=λ x=>0<=x/\x<=60) (λ h=>?_) λ _=>by omega
 simp only [aa,beq_iff_eq] at h
 have:=((Fg c).1 h.2).tick h.1
 omega
theorem Mv:∀ (l:List api_Command) (k:Nat) (z:Int),0<=z->z+60*(l.length:Int)<=1000000000->foldI J7 l k z=some (.next (z+tkS l))
 | [],_,z,_,_=>by simp [foldI,tkS]
 | c :: l, k, z, h0, h1 => by
  simp only [aF] at h1
  have ht:=Wd c
  have e:J7 k c z=some (.next (z+tkI c)):=by
   unfold J7
   by_cases hk:c.Kind=8
   ·have e1:(c.Kind==8)=true:=by simpa using hk
    unfold tkI at ht ⊢
    rw [e1] at ht ⊢
    rw [Mm]
    simp only [Ar,Cu,beq_self_eq_true,bn,cond_true,ak,bj] at ht ⊢
    cases hv:vaB c with
    | false=>simp
    | true=>
     rw [hv] at ht
     simp only [cond_true] at ht ⊢
     have hl:=((Fg c).1 hv).len
     rw [hk] at hl
     obtain⟨n,hn⟩:=bS.1 (show c.Numbers.length=1 from hl)
     rw [hn] at ht ⊢
     have eg:getI [n] 0=some n:=rfl
     rw [eg]
     simp only [ak]
     have:Ek [n]=n:=rfl
     rw [this] at ht ⊢
     rw [Cd (by omega)]
   ·have e1:(c.Kind==8)=false:=by simpa using hk
    unfold tkI
    rw [e1]
    simp [Ar,Cu]
  unfold foldI
  rw [e]
  simp only
  rw [Mv l (k+1) (z+tkI c) (by omega) (by omega)]
  simp only [tkS,Int.add_assoc]
theorem Yt {l:List api_Command} (h:l.length<=1000):F32 l=some (tkS l):=by
 unfold F32
 rw [Mv l 0 0 (by omega) (by omega)]
 simp [andThen]
theorem P8 {l:List api_Command} (h:l.length<=9223372036854775807):F24 l=some (l.any λ c=>!vaB c):=by
 have h1:∀ c,F39 c=some (!vaB c):=λ c=>by
  unfold F39
  rw [Mm];rfl
 unfold F24 P7 P5
 rw [Wk (λ c=>!vaB c) (λ i x=>by
  unfold Mn
  rw [h1];rfl) l h]
 simp only [ak]
 rw [Zb]
theorem vP {s:Ad} (hs:B9 s) (n:Nat) (hn:n<=10):Ok (whileN Ny 1152921504606846976 ((n:Int),s.L,s.At,([]:List Int)))
  (Gd (λ z=>B9 ⟨z.2.1,z.2.2.1⟩/\z.2.2.2.length=n/\∀ x,x∈z.2.2.2 -> -1000000000<=x/\x<=1000000000) λ _=>False):=by
 refine cn (λ z=>B9 ⟨z.2.1,z.2.2.1⟩/\0<=z.1/\z.1<=10/\z.1+(z.2.2.2.length:Int)=n/\∀ x,x∈z.2.2.2 -> -1000000000<=x/\x<=1000000000) (λ z=>z.1.toNat) _ _ ⟨hs,by omega,by omega,by simp,by simp⟩ (by omega) ?_
 rintro⟨k,L,A,out⟩ ⟨h1,h2,h3,h4,h5⟩
 simp only at h1 h2 h3 h4 h5 ⊢
 unfold Ny
 refine cb (λ h6=>?_) λ h6=>?_
 ·simp only [cP] at h6
  refine (Ox h1 _ (by simp) (by simp)).bind λ y hy=>(c7 (by simp;omega)).bind λ z hz=>?_
  subst hz
  rw [Cd (by omega)]
  refine cA ⟨⟨hy.1,by show 0<=k-1;omega,by show k-1<=10;omega,by simp;omega,λ x hx=>?_⟩,by show (k-1).toNat<k.toNat;omega⟩
  simp only [az,bF] at hx
  rcases hx with hx | hx
  ·exact h5 x hx
  ·subst hx
   have:=hy.2
   simp at this
   omega
 ·simp only [cQ] at h6
  exact cI ⟨h1,by show out.length=n;omega,h5⟩
theorem Vb {s:Ad} (hs:B9 s):Ok (F23 s) λ y=>B9 y.2/\Va y.1:=by
 unfold F23
 refine (Sv hs 1 8 (by omega) (by omega) (by omega)).bind λ y hy=>?_
 obtain⟨hs1,h1,h2⟩:=hy
 have hk:getI ([0,3,2,2,7,4,1,1,1]:List Int) y.1=some (Bt y.1:Int):=by
  rcases Ca h1 h2 with h | h | h | h | h | h | h | h <;> rw [h] <;> rfl
 have hn:Bt y.1<=10:=by
  rcases Ca h1 h2 with h | h | h | h | h | h | h | h <;> rw [h] <;> decide
 rw [hk]
 simp only [ak]
 refine (vP hs1 _ hn).andThen (λ z hz=>?_) λ v hv=>hv.elim
 obtain⟨hs2,hl,hin⟩:=hz
 refine cb (λ h=>?_) λ h=>?_
 ·simp only [beq_iff_eq] at h
  have hl1:z.2.2.2.length=1:=by rw [hl,h];rfl
  obtain⟨n,hn⟩:=bS.1 hl1
  refine (Ox hs2 _ (by simp) (by simp)).bind λ p hp=>?_
  rw [hn]
  refine (cj (by omega) (by simp)).bind λ _ _=>(cu (by omega) (by simp)).bind λ q hq=>?_
  subst hq
  have:=hp.2
  simp at this
  refine c8 ⟨hp.1,by show 1<=y.1;omega,by show y.1<=8;omega,?_,λ x hx=>?_,λ _=>?_⟩
  ·show 1=Bt y.1
   rw [h];rfl
  ·have hx':x=p.1:=by simpa using hx
   omega
  ·show 1<=p.1/\p.1<=60
   omega
 ·have h':y.1≠8:=by simpa using h
  exact c8 ⟨hs2,by show 1<=y.1;omega,by show y.1<=8;omega,hl,hin,λ q=>absurd q h'⟩
theorem Tt {s:Ad} (hs:B9 s) (n:Int) (h0:0<=n) (h1:n<=1000):Ok (F7 s n) λ y=>B9 y.2/\(∀ c,c∈y.1->Va c)/\(y.1.length:Int)<=n:=by
 unfold F7
 rw [Cd (by omega)]
 refine (Gq hs _ (by omega) (by omega)).bind λ y hy=>?_
 obtain⟨hs1,h2,h3⟩:=hy
 refine Ok.andThen (A:=λ z=>B9 ⟨z.2.1,z.2.2.1⟩/\(∀ c,c∈z.2.2.2->Va c)/\(z.2.2.2.length:Int)<=n) (B:=λ _=>False) ?_ (λ z hz=>c8 ⟨hz.1,hz.2.1,hz.2.2⟩) λ v hv=>hv.elim
 refine cn (λ z=>B9 ⟨z.2.1,z.2.2.1⟩/\0<=z.1/\z.1<=1000/\z.1+(z.2.2.2.length:Int)<=n/\∀ c,c∈z.2.2.2->Va c) (λ z=>z.1.toNat) _ _ ⟨hs1,by show 0<=y.1;omega,by show y.1<=1000;omega,by show y.1+((0:Nat):Int)<=n;omega,by simp⟩ (by show y.1.toNat<_;omega) ?_
 rintro⟨k,L,A,out⟩ ⟨h4,h5,h6,h7,h8⟩
 simp only at h4 h5 h6 h7 h8 ⊢
 unfold V4
 refine cb (λ h9=>?_) λ h9=>?_
 ·simp only [cP] at h9
  refine (Vb h4).bind λ c hc=>(c7 (by simp;omega)).bind λ z hz=>?_
  subst hz
  rw [Cd (by omega)]
  refine cA ⟨⟨hc.1,by show 0<=k-1;omega,by show k-1<=1000;omega,by simp;omega,λ x hx=>?_⟩,by show (k-1).toNat<k.toNat;omega⟩
  simp only [az,bF] at hx
  rcases hx with hx | hx
  ·exact h8 x hx
  ·subst hx;exact hc.2
 ·exact cI ⟨h4,h8,by show (out.length:Int)<=n;omega⟩
set_option linter.unusedVariables false
def in0:Aa:=⟨⟨⟨0,0⟩,⟨0,0⟩,⟨0,0⟩⟩,0,[],[],[],0,[]⟩
def sp0 (t:Int):Ac:=⟨t,⟨⟨0,0⟩,⟨0,0⟩,⟨0,0⟩⟩,0,in0,[]⟩
def nuI (l:List Int) (i:Nat):Int:=l[i]?.getD 0
def Dl (t:Int) (s:Ag):Ag:=⟨s.Reference,⟨t,s.Fix.X,s.Fix.Y,s.Fix.Error⟩⟩
def atT (x:Ac):Int:=w64 (w64 (x.time+1)+(x.out.length:Int))
def tick1 (x:Ac):Ac:=⟨x.time,x.weather,x.heading,in0,x.out++[⟨x.weather,x.heading,x.next.Sights.map (Dl (atT x)),x.next.Acts,x.next.Faults,x.next.Request,x.next.Seen⟩]⟩
def tickN:Nat->Ac->Ac
 | 0,x=>x
 | n+1,x=>tickN n (tick1 x)
def zN (k:Int) (n:List Int) (x:Ac):Ac:=
 if k=1 then ⟨x.time,x.weather,x.heading,⟨x.next.Weather,x.next.Heading,x.next.Sights,x.next.Acts++[⟨nuI n 0,nuI n 1,nuI n 2⟩],x.next.Faults,x.next.Request,x.next.Seen⟩,x.out⟩
 else if k=2 then ⟨x.time,x.weather,x.heading,⟨x.next.Weather,x.next.Heading,x.next.Sights,x.next.Acts,x.next.Faults++[⟨0,1,⟨nuI n 0,nuI n 1⟩⟩],x.next.Request,x.next.Seen⟩,x.out⟩
 else if k=3 then ⟨x.time,x.weather,x.heading,⟨x.next.Weather,x.next.Heading,x.next.Sights,x.next.Acts,x.next.Faults++[⟨0,2,⟨nuI n 0,nuI n 1⟩⟩],x.next.Request,x.next.Seen⟩,x.out⟩
 else if k=4 then ⟨x.time,⟨⟨nuI n 0,nuI n 1⟩,⟨nuI n 2,nuI n 3⟩,⟨nuI n 4,nuI n 5⟩⟩,nuI n 6,x.next,x.out⟩
 else if k=5 then ⟨x.time,x.weather,x.heading,⟨x.next.Weather,x.next.Heading,x.next.Sights++[⟨nuI n 0,⟨0,nuI n 1,nuI n 2,nuI n 3⟩⟩],x.next.Acts,x.next.Faults,x.next.Request,x.next.Seen⟩,x.out⟩
 else if k=6 then ⟨x.time,x.weather,x.heading,⟨x.next.Weather,x.next.Heading,x.next.Sights,x.next.Acts,x.next.Faults,nuI n 0,x.next.Seen⟩,x.out⟩
 else if k=7 then ⟨x.time,x.weather,x.heading,⟨x.next.Weather,x.next.Heading,x.next.Sights,x.next.Acts,x.next.Faults,x.next.Request,x.next.Seen++[nuI n 0]⟩,x.out⟩
 else tickN (nuI n 0).toNat x
def E3 (x:Ac) (c:api_Command):Ac:=zN c.Kind c.Numbers x
structure InS (M:Nat) (y:Aa):Prop where
 si:y.Sights.length<=M
 ac:y.Acts.length<=M
 fa:y.Faults.length<=M
 se:y.Seen.length<=M
structure SpS (k m:Nat) (x:Ac):Prop where
 nx:InS k x.next
 ol:x.out.length<=m
 ou:∀ y,y∈x.out->InS k y
theorem Sr {α:Type} {l:List α} {x:α} {k:Nat} (h:l.length<=k):(l++[x]).length<=k+1:=by rw [aC,aA];omega
theorem InS.le {a b:Nat} {y:Aa} (h:InS a y) (hl:a<=b):InS b y:=⟨aE h.si hl,aE h.ac hl,aE h.fa hl,aE h.se hl⟩
theorem InS.zero (k:Nat):InS k in0:=⟨aL _,aL _,aL _,aL _⟩
theorem SpS.le {a b m m':Nat} {x:Ac} (h:SpS a m x) (hl:a<=b) (hm:m<=m'):SpS b m' x:=⟨h.nx.le hl,aE h.ol hm,λ y hy=>(h.ou y hy).le hl⟩
theorem SpS.tick1 {k m:Nat} {x:Ac} (h:SpS k m x):SpS k (m+1) (tick1 x):=by
 refine⟨InS.zero k,?_,λ y hy=>?_⟩
 ·show (x.out++[_]).length<=m+1
  have:=h.ol
  rw [aC,aA];omega
 ·have hy':y∈x.out++[_]:=hy
  rcases az.1 hy' with q | q
  ·exact h.ou y q
  ·simp only [bF] at q
   subst q
   exact⟨by show (List.map _ _).length<=k;rw [aH];exact h.nx.si,h.nx.ac,h.nx.fa,h.nx.se⟩
theorem SpS.tickN {k:Nat}:∀ (n:Nat) {m:Nat} {x:Ac},SpS k m x->SpS k (m+n) (tickN n x)
 | 0,_,_,h=>h
 | n+1,m,x,h=>by
  have:=SpS.tickN n h.tick1
  unfold Go.Proofs.YtaplakgdkkmpfaaGreatDoor.tickN
  rw [show m+(n+1)=m+1+n from by omega];exact this
theorem O5:∀ (n:Nat) (x:Ac),(tickN n x).out.length=x.out.length+n
 | 0,_=>rfl
 | n+1,x=>by
  unfold tickN
  rw [O5 n]
  show (x.out++[_]).length+n=_
  rw [aC,aA];omega
def tkN (c:api_Command):Nat:=if c.Kind=8 then (Ek c.Numbers).toNat else 0
theorem Va.tk {c:api_Command} (h:Va c):(tkN c:Int)=tkI c:=by
 unfold tkN tkI
 rw [(Fg c).2 h]
 by_cases hk:c.Kind=8
 ·have:=h.tick hk
  rw [if_pos hk,hk]
  simp only [beq_self_eq_true,bN,cond_true]
  omega
 ·rw [if_neg hk]
  have:(c.Kind==8)=false:=by simpa using hk
  rw [this];rfl
theorem Qt {k m:Nat} {x:Ac} (h:SpS k m x) (c:api_Command) (hv:Va c):SpS (k+1) (m+tkN c) (E3 x c)/\(E3 x c).out.length=x.out.length+tkN c:=by
 obtain⟨⟨h1,h2,h3,h4⟩,h5,h6⟩:=h
 have h6':∀ y,y∈x.out->InS (k+1) y:=λ y hy=>(h6 y hy).le (Nat.le_succ k)
 have e:=Ca hv.k0 hv.k1
 unfold E3 tkN
 generalize c.Kind=K at e ⊢
 rcases e with rfl | rfl | rfl | rfl | rfl | rfl | rfl | rfl
 ·exact⟨⟨⟨aB h1,Sr h2,aB h3,aB h4⟩,h5,h6'⟩,rfl⟩
 ·exact⟨⟨⟨aB h1,aB h2,Sr h3,aB h4⟩,h5,h6'⟩,rfl⟩
 ·exact⟨⟨⟨aB h1,aB h2,Sr h3,aB h4⟩,h5,h6'⟩,rfl⟩
 ·exact⟨⟨⟨aB h1,aB h2,aB h3,aB h4⟩,h5,h6'⟩,rfl⟩
 ·exact⟨⟨⟨Sr h1,aB h2,aB h3,aB h4⟩,h5,h6'⟩,rfl⟩
 ·exact⟨⟨⟨aB h1,aB h2,aB h3,aB h4⟩,h5,h6'⟩,rfl⟩
 ·exact⟨⟨⟨aB h1,aB h2,aB h3,Sr h4⟩,h5,h6'⟩,rfl⟩
 ·exact⟨SpS.le (SpS.tickN _ ⟨⟨h1,h2,h3,h4⟩,h5,h6⟩) (Nat.le_succ k) (ai _),O5 _ _⟩
def Hk (x:Ac) (l:List api_Command):Ac:=l.foldl E3 x
def Gw:List api_Command->Nat
 | []=>0
 | c::l=>tkN c+Gw l
theorem Kl:∀ {l:List api_Command},(∀ c,c∈l->Va c)->(Gw l:Int)=tkS l
 | [],_=>rfl
 | c::l,h=>by
  have h1:=(h c al).tk
  have h2:=Kl λ d hd=>h d (aj c hd)
  simp only [Gw,tkS]
  omega
theorem Wm:∀ {l:List api_Command} {k m:Nat} {x:Ac},(∀ c,c∈l->Va c)->SpS k m x->SpS (k+l.length) (m+Gw l) (Hk x l)/\(Hk x l).out.length=x.out.length+Gw l
 | [],_,_,_,_,h=>⟨h,rfl⟩
 | c::l,k,m,x,hv,h=>by
  obtain⟨h1,h2⟩:=Qt h c (hv c al)
  obtain⟨h3,h4⟩:=Wm (l:=l) (λ d hd=>hv d (aj c hd)) h1
  refine⟨?_,?_⟩
  ·show SpS _ _ (Hk (E3 x c) l)
   exact h3.le (by simp only [aF];omega) (by simp only [Gw];omega)
  ·show (Hk (E3 x c) l).out.length=_
   rw [h4,h2];simp only [Gw];omega
def Ge (i:Int) (y:Aa) (o:List Aa):Int×Int×Int×Int×Int×Int×Int×Int×Int×List Ag×List An×List Ai×List Int×List Aa:=(i,y.Weather.Wind.From,y.Weather.Wind.Speed,y.Weather.Current.From,y.Weather.Current.Speed,y.Weather.Wave.From,y.Weather.Wave.Speed,y.Heading,y.Request,y.Sights,y.Acts,y.Faults,y.Seen,o)
def Fh (x:Ac):Int×Int×Int×Int×Int×Int×Int×Int×Int×Int×Int×Int×Int×Int×Int×Int×List Ag×List An×List Ai×List Int×List Aa:=(x.time,x.weather.Wind.From,x.weather.Wind.Speed,x.weather.Current.From,x.weather.Current.Speed,x.weather.Wave.From,x.weather.Wave.Speed,x.heading,x.next.Weather.Wind.From,x.next.Weather.Wind.Speed,x.next.Weather.Current.From,x.next.Weather.Current.Speed,x.next.Weather.Wave.From,x.next.Weather.Wave.Speed,x.next.Heading,x.next.Request,x.next.Sights,x.next.Acts,x.next.Faults,x.next.Seen,x.out)
theorem A4 {l:List Int} {i:Nat} {k:Int} (hk:k=(i:Int)) (h:i<l.length):getI l k=some (nuI l i):=by
 subst hk
 unfold getI nuI
 rw [cR (by omega)]
 simp only [cond_true,bp]
 rw [an h];rfl
theorem Uc (x:Ac) (i:Int) (y:Aa) (o:List Aa) (hl:y.Sights.length<=1000000000) :
  Ok (whileN (I5 x (Ge i y o)) 1152921504606846976 (0,y.Sights)) (Gd (λ z=>z.2=y.Sights.map (Dl (w64 (w64 (x.time+1)+(o.length:Int))))) λ _=>False):=by
 generalize hT:Dl (w64 (w64 (x.time+1)+(o.length:Int)))=T
 refine cn (λ z=>∃ k:Nat,k<=y.Sights.length/\z.1=(k:Int)/\z.2=(y.Sights.take k).map T++y.Sights.drop k) (λ z=>y.Sights.length-z.1.toNat) _ _ ⟨0,aL _,rfl,by simp⟩ (by show y.Sights.length-_<_;omega) ?_
 rintro⟨a,S⟩ ⟨k,hk,h1,h2⟩
 simp only at h1 h2
 subst h1 h2
 unfold I5
 have hc:T9 (Ge i y o) ((k:Int),(y.Sights.take k).map T++y.Sights.drop k)=decide ((k:Int)<(y.Sights.length:Int)):=rfl
 rw [hc]
 refine cb (λ h=>?_) λ h=>?_
 ·simp only [cP] at h
  have hlt:k<y.Sights.length:=by omega
  have hS:((y.Sights.take k).map T++y.Sights.drop k).length=y.Sights.length:=by simp;omega
  have hg:((y.Sights.take k).map T++y.Sights.drop k)[k]? = some y.Sights[k]:=by
   rw [aD (by rw [aH,aG];exact Nat.min_le_left _ _),aH,aG,bq hk,Nat.sub_self,ay,br,an hlt]
  refine (cj (by show (0:Int)<=(k:Int);omega) (by show (k:Int)<_;rw [hS];omega)).bind λ s hs=>?_
  have hs':s=y.Sights[k]:=by
   have:((y.Sights.take k).map T++y.Sights.drop k)[(k:Int).toNat]? = some s:=hs
   rw [bp,hg] at this
   exact (aN this).symm
  subst hs'
  refine (cu (by show (0:Int)<=(k:Int);omega) (by show (k:Int)<_;rw [hS];omega)).bind λ z hz=>?_
  subst hz
  have ew:w64 ((k:Int)+1)=((k+1:Nat):Int):=by rw [Cd (by omega)];omega
  show Ok (some (Ctl.next (w64 ((k:Int)+1),_))) _
  rw [ew]
  refine cA ⟨⟨k+1,by omega,rfl,?_⟩,by show y.Sights.length-((k+1:Nat):Int).toNat<y.Sights.length-(k:Int).toNat;omega⟩
  show (((y.Sights.take k).map T++y.Sights.drop k).set (k:Int).toNat _)=_
  rw [bp,List.take_succ_eq_append_getElem hlt,bR,bf,List.drop_eq_getElem_cons hlt]
  rw [List.set_append_right _ _ (by rw [aH,aG];exact Nat.min_le_left _ _)]
  simp only [aH,aG,bq hk,Nat.sub_self,aX]
  congr 1
  show _::_=[T y.Sights[k]]++_
  rw [←hT];rfl
 ·simp only [cQ] at h
  have:k=y.Sights.length:=by omega
  refine cI ?_
  show _=_
  rw [this];simp
theorem We (x:Ac) (n i:Int) (y:Aa) (o:List Aa) (hl:y.Sights.length<=1000000000) (ho:o.length<=1000000000) (h0:0<=i) (h1:i<n) (h2:n<=1000000000) :
  Dp x n (Ge i y o)=some (.next (Ge (i+1) in0 (o++[⟨x.weather,x.heading,y.Sights.map (Dl (w64 (w64 (x.time+1)+(o.length:Int)))),y.Acts,y.Faults,y.Request,y.Seen⟩]))):=by
 refine Ok.eq ?_
 unfold Dp
 refine cb (λ h=>?_) λ h=>?_
 ·refine (Uc x i y o hl).andThen (λ z hz=>?_) λ v hv=>hv.elim
  refine (c7 (by show (o.length+1)*_<=_;omega)).bind λ q hq=>?_
  subst hq
  refine c8 ?_
  rw [hz]
  show Ctl.next (w64 (i+1),_)=_
  rw [Cd (by omega)]
  rfl
 ·exact absurd h1 (of_decide_eq_false h)
theorem O4 (x:Ac) (n:Int) (h2:n<=1000000000) (hs:x.next.Sights.length<=1000000000):∀ (k:Nat) (i:Int) (z:Ac) (fuel:Nat),z.time=x.time->z.weather=x.weather->z.heading=x.heading->z.next.Sights.length<=1000000000->z.out.length+k<=1000000000->0<=i->i+k=n->k<fuel ->
  whileN (Dp x n) fuel (Ge i z.next z.out)=some (.next (Ge n (tickN k z).next (tickN k z).out))
 | k,_,_,0,_,_,_,_,_,_,_,h=>absurd h (Nat.not_lt_zero _)
 | 0,i,z,fuel+1,e1,e2,e3,h3,h4,h5,h6,_=>by
  unfold whileN
  have:i=n:=by omega
  subst this
  have e:Dp x i (Ge i z.next z.out)=some (.brk (Ge i z.next z.out)):=by
   unfold Dp
   have:decide ((Ge i z.next z.out).1<i)=false:=cS (by show ¬(i<i);omega)
   rw [this];rfl
  rw [e];rfl
 | k+1,i,z,fuel+1,e1,e2,e3,h3,h4,h5,h6,h7=>by
  unfold whileN
  have ih:=O4 x n h2 hs k (i+1) (tick1 z) fuel e1 e2 e3 (by show (0:Nat)<=_;omega) (by show (z.out++[_]).length+k<=_;rw [aC,aA];omega) (by omega) (by omega) (by omega)
  have e0:Dp x n (Ge i z.next z.out)=some (.next (Ge (i+1) (tick1 z).next (tick1 z).out)):=by
   rw [We x n i z.next z.out h3 (by omega) h5 (by omega) h2]
   unfold tick1 atT
   rw [e1,e2,e3]
  rw [e0]
  exact ih
theorem qJ (x:Ac) (l:List Int) (hl:0<l.length) (h0:0<=nuI l 0) (h1:nuI l 0<=1000000) (hs:x.next.Sights.length<=1000000) (ho:x.out.length<=1000000):I6 x l=some (tickN (nuI l 0).toNat x):=by
 unfold I6
 rw [A4 (k:=0) (i:=0) rfl hl]
 simp only [ak]
 have:=O4 x (nuI l 0) (by omega) (by omega) (nuI l 0).toNat 0 x 1152921504606846976 rfl rfl rfl (by omega) (by omega) (by omega) (by omega) (by omega)
 have e:whileN (Dp x (nuI l 0)) 1152921504606846976 (0,x.next.Weather.Wind.From,x.next.Weather.Wind.Speed,x.next.Weather.Current.From,x.next.Weather.Current.Speed,x.next.Weather.Wave.From,x.next.Weather.Wave.Speed,x.next.Heading,x.next.Request,x.next.Sights,x.next.Acts,x.next.Faults,x.next.Seen,x.out)=some (.next (Ge (nuI l 0) (tickN (nuI l 0).toNat x).next (tickN (nuI l 0).toNat x).out)):=this
 rw [e]
 simp only [andThen,ah]
 have ht:∀ (n:Nat) (z:Ac),(tickN n z).time=z.time/\(tickN n z).weather=z.weather/\(tickN n z).heading=z.heading:=by
  intro n
  induction n with
  | zero=>exact λ z=>⟨rfl,rfl,rfl⟩
  | succ n ih=>exact λ z=>ih (tick1 z)
 obtain⟨q1,q2,q3⟩:=ht (nuI l 0).toNat x
 rw [←q1,←q2,←q3]
 rfl
theorem vJ (k n:Nat) (c:api_Command) (x:Ac) (hv:Va c) (hx:SpS 1000 1000 x):Ie n c (Fh x)=some (.next (Fh (E3 x c))):=by
 obtain⟨⟨h1,h2,h3,h4⟩,h5,h6⟩:=hx
 have hl:=hv.len
 have ht:=hv.tick
 unfold Ie
 rw [Oh,cS (by have:=hv.k0;omega),cS (by have:=hv.k1;omega)]
 simp only [bO,cond_false]
 rw [Md hv.k0 hv.k1]
 simp only [ak]
 have e:=Ca hv.k0 hv.k1
 unfold E3
 obtain⟨K,l⟩:=c
 simp only at hl e ht ⊢
 rcases e with rfl | rfl | rfl | rfl | rfl | rfl | rfl | rfl
 ·have hl':l.length=3:=hl
  show ((K8 x l).bind λ y=>some (Ctl.next (Fh y)))=_
  unfold K8
  rw [A4 (k:=0) (i:=0) rfl (by omega),A4 (k:=1) (i:=1) rfl (by omega),A4 (k:=2) (i:=2) rfl (by omega)]
  simp only [ak]
  rw [(c7 (by simp only [aA];omega)).eq]
  rfl
 ·have hl':l.length=2:=hl
  show ((K7 x l).bind λ y=>some (Ctl.next (Fh y)))=_
  unfold K7 K6
  rw [A4 (k:=0) (i:=0) rfl (by omega),A4 (k:=1) (i:=1) rfl (by omega)]
  simp only [ak]
  rw [(c7 (by simp only [aA];omega)).eq]
  rfl
 ·have hl':l.length=2:=hl
  show ((K5 x l).bind λ y=>some (Ctl.next (Fh y)))=_
  unfold K5 K6
  rw [A4 (k:=0) (i:=0) rfl (by omega),A4 (k:=1) (i:=1) rfl (by omega)]
  simp only [ak]
  rw [(c7 (by simp only [aA];omega)).eq]
  rfl
 ·have hl':l.length=7:=hl
  show ((K4 x l).bind λ y=>some (Ctl.next (Fh y)))=_
  unfold K4
  rw [A4 (k:=0) (i:=0) rfl (by omega),A4 (k:=1) (i:=1) rfl (by omega),A4 (k:=2) (i:=2) rfl (by omega),A4 (k:=3) (i:=3) rfl (by omega),A4 (k:=4) (i:=4) rfl (by omega),A4 (k:=5) (i:=5) rfl (by omega),A4 (k:=6) (i:=6) rfl (by omega)]
  rfl
 ·have hl':l.length=4:=hl
  show ((K3 x l).bind λ y=>some (Ctl.next (Fh y)))=_
  unfold K3
  rw [A4 (k:=0) (i:=0) rfl (by omega),A4 (k:=1) (i:=1) rfl (by omega),A4 (k:=2) (i:=2) rfl (by omega),A4 (k:=3) (i:=3) rfl (by omega)]
  simp only [ak]
  rw [(c7 (by simp only [aA];omega)).eq]
  rfl
 ·have hl':l.length=1:=hl
  show ((K2 x l).bind λ y=>some (Ctl.next (Fh y)))=_
  unfold K2
  rw [A4 (k:=0) (i:=0) rfl (by omega)]
  rfl
 ·have hl':l.length=1:=hl
  show ((K1 x l).bind λ y=>some (Ctl.next (Fh y)))=_
  unfold K1
  rw [A4 (k:=0) (i:=0) rfl (by omega)]
  simp only [ak]
  rw [(c7 (by simp only [aA];omega)).eq]
  rfl
 ·have hl':l.length=1:=hl
  have ht':1<=nuI l 0/\nuI l 0<=60:=ht rfl
  show ((I6 x l).bind λ y=>some (Ctl.next (Fh y)))=_
  rw [qJ x l (by omega) (by omega) (by omega) (by omega) (by omega)]
  rfl
theorem Tz:∀ (l:List api_Command) (i k m:Nat) (x:Ac),(∀ c,c∈l->Va c)->SpS k m x->k+l.length<=1000->m+Gw l<=1000->foldI Ie l i (Fh x)=some (.next (Fh (Hk x l)))
 | [],_,_,_,_,_,_,_,_=>rfl
 | c::l,i,k,m,x,hv,hx,hk,hm=>by
  simp only [aF] at hk
  simp only [Gw] at hm
  unfold foldI
  rw [vJ k i c x (hv c al) (hx.le (by omega) (by omega))]
  exact Tz l (i+1) (k+1) (m+tkN c) (E3 x c) (λ d hd=>hv d (aj c hd)) (Qt hx c (hv c al)).1 (by omega) (by omega)
def inP (l:List api_Command) (t:Int):List Aa×Int:=
 if 80<l.length\/60<tkS l then ([],2) else if (l.any λ c=>!vaB c)=true then ([],74) else if t<0\/2147483648<t then ([],1) else ((Hk (sp0 t) l).out,0)
theorem Uj (t:Int):SpS 0 0 (sp0 t):=⟨InS.zero 0,ai _,λ y hy=>by simp [sp0] at hy⟩
theorem Ss {l:List api_Command} (h:(l.any λ c=>!vaB c)=false):∀ c,c∈l->Va c:=by
 intro c hc
 rw [List.any_eq_false] at h
 have:=h c hc
 refine (Fg c).1 ?_
 cases hv:vaB c with
 | true=>rfl
 | false=>rw [hv] at this;simp at this
theorem Pv (l:List api_Command) (t:Int) (hl:l.length<=1000000):F15 l t=some (inP l t):=by
 unfold F15 inP
 by_cases h1:80<l.length
 ·have e:decide ((l.length:Int)>80)=true:=by simp;omega
  have ec:∀ y,Nr l y=true:=λ y=>by unfold Nr;rw [e];rfl
  rw [if_pos (.inl h1),e]
  simp only [Ar,Cu,ec]
  rfl
 ·have e:decide ((l.length:Int)>80)=false:=by simp;omega
  have ec:∀ y,Nr l y=decide (y>60):=λ y=>by unfold Nr;rw [e];rfl
  rw [e,Yt (by omega)]
  simp only [Ar,Cu,ec,beq_self_eq_true,bn,cond_true,ak]
  by_cases h2:60<tkS l
  ·rw [cR h2,if_pos (.inr h2)];rfl
  ·rw [cS h2, if_neg (λ q => q.elim h1 h2), P8 (by omega)]
   simp only [cond_false,ak]
   cases h3:(l.any λ c=>!vaB c) with
   | true=>rw [if_pos rfl];rfl
   | false=>
    rw [if_neg (by simp)]
    simp only [cond_false]
    have ed:jX t=(decide (t<0) || decide (t>2147483648)):=rfl
    rw [ed]
    by_cases h4:t<0
    ·rw [cR h4,if_pos (.inl h4)];rfl
    ·by_cases h5:2147483648<t
     ·rw [cR h5,if_pos (.inr h5)];simp
     ·rw [cS h4,cS h5,if_neg (λ q=>q.elim h4 h5)]
      simp only [bO,cond_false]
      have hv:=Ss h3
      have hn:=Kl hv
      have:=Tz l 0 0 0 (sp0 t) hv (Uj t) (by omega) (by omega)
      have e2:foldI Ie l 0 (t,0,0,0,0,0,0,0,0,0,0,0,0,0,0,0,([]:List Ag),([]:List An),([]:List Ai),([]:List Int),([]:List Aa))=some (.next (Fh (Hk (sp0 t) l))):=this
      rw [e2]
      rfl
theorem jJ (l:List api_Command) (t:Int):(inP l t).1.length<=1000/\∀ y,y∈(inP l t).1->InS 1000 y:=by
 unfold inP
 split
 ·exact⟨aL _,by simp⟩
 ·rename_i h1
  split
  ·exact⟨aL _,by simp⟩
  ·rename_i h2
   split
   ·exact⟨aL _,by simp⟩
   ·have hv:=Ss (by simpa using h2)
    have hn:=Kl hv
    have h3:=(Wm hv (Uj t)).1
    refine⟨?_,λ y hy=>(h3.ou y hy).le (by omega)⟩
    have:=h3.ol
    show (Hk (sp0 t) l).out.length<=1000
    omega
set_option linter.unusedVariables false
theorem Wc {ρ:Type} {f:Int->Option (Ctl Int ρ)} (n:Nat) (hc:∀ k:Nat,k<n->f (k:Int)=some (.next ((k+1:Nat):Int))) (he:f (n:Int)=some (.brk (n:Int))):∀ (fuel k:Nat),k<=n->n-k<fuel->whileN f fuel (k:Int)=some (.next (n:Int))
 | 0,_,_,h=>absurd h (Nat.not_lt_zero _)
 | fuel+1,k,hk,hf=>by
  unfold whileN
  by_cases h:k<n
  ·rw [hc k h]
   exact Wc n hc he fuel (k+1) h (by omega)
  ·have:k=n:=by omega
   subst this
   rw [he]
theorem Hs {ρ:Type} {f:Int->Option (Ctl Int ρ)} (n:Nat) (hn:n<=1000000) (hc:∀ k:Nat,k<n->f (k:Int)=some (.next ((k+1:Nat):Int))) (he:f (n:Int)=some (.brk (n:Int))):whileN f 1152921504606846976 0=some (.next (n:Int)):=
 Wc n hc he 1152921504606846976 0 (aL n) (by omega)
theorem Od {α:Type} {l:List α} {k:Nat} (h:k<l.length):getI l (k:Int)=some l[k]:=by
 unfold getI
 rw [cR (by omega)]
 simp only [cond_true,bp]
 exact an h
theorem P_ {k:Nat} (h:k<=1000000):w64 ((k:Int)+1)=((k+1:Nat):Int):=by rw [Cd (by omega)];omega
theorem Tf (y:Aa) (h:y.Sights.length<=1000000):whileN (Kd y y) 1152921504606846976 0=some (.next (y.Sights.length:Int)):=by
 refine Hs _ h (λ k hk=>?_) ?_
 ·unfold Kd
  have e:Sj y (k:Int)=true:=cR (by omega)
  rw [e,Od hk]
  simp only [cond_true,ak]
  have e2:Si y.Sights[k] y.Sights[k]=false:=by simp [Si]
  rw [e2,P_ (by omega)];rfl
 ·unfold Kd
  have e:Sj y (y.Sights.length:Int)=false:=cS (by omega)
  rw [e];rfl
theorem X3 (y:Aa) (h:y.Acts.length<=1000000):whileN (Kc y y) 1152921504606846976 0=some (.next (y.Acts.length:Int)):=by
 refine Hs _ h (λ k hk=>?_) ?_
 ·unfold Kc
  have e:Sg y (k:Int)=true:=cR (by omega)
  rw [e,Od hk]
  simp only [cond_true,ak]
  have e2:Sf y.Acts[k] y.Acts[k]=false:=by simp [Sf]
  rw [e2,P_ (by omega)];rfl
 ·unfold Kc
  have e:Sg y (y.Acts.length:Int)=false:=cS (by omega)
  rw [e];rfl
theorem Tl (y:Aa) (h:y.Faults.length<=1000000):whileN (Kb y y) 1152921504606846976 0=some (.next (y.Faults.length:Int)):=by
 refine Hs _ h (λ k hk=>?_) ?_
 ·unfold Kb
  have e:Se y (k:Int)=true:=cR (by omega)
  rw [e,Od hk]
  simp only [cond_true,ak]
  have e2:Sd y.Faults[k] y.Faults[k]=false:=by simp [Sd]
  rw [e2,P_ (by omega)];rfl
 ·unfold Kb
  have e:Se y (y.Faults.length:Int)=false:=cS (by omega)
  rw [e];rfl
theorem Wj (y:Aa) (h:y.Seen.length<=1000000):whileN (Ka y y) 1152921504606846976 0=some (.next (y.Seen.length:Int)):=by
 refine Hs _ h (λ k hk=>?_) ?_
 ·unfold Ka
  have e:Sc y (k:Int)=true:=cR (by omega)
  rw [e,Od hk]
  simp only [cond_true,ak]
  have e2:(y.Seen[k] != y.Seen[k])=false:=by simp
  rw [e2,P_ (by omega)];rfl
 ·unfold Ka
  have e:Sc y (y.Seen.length:Int)=false:=cS (by omega)
  rw [e];rfl
theorem Td (a:List Aa) (h:a.length<=1000/\∀ y,y∈a->InS 1000 y):F17 a a=some true:=by
 unfold F17
 have e:((a.length:Int) != (a.length:Int))=false:=by simp
 rw [e]
 simp only [cond_false]
 rw [Su a 0 λ j y hj=>?_]
 ·rfl
 ·have hlt:=(ae.1 hj).1
  have hs:=h.2 y (aq hj)
  unfold S7
  rw [aS,vY (by omega),Od hlt]
  simp only [ak]
  have ey:a[j]=y:=(ae.1 hj).2
  rw [ey]
  have e2:Sk y y=false:=by simp [Sk]
  rw [e2,Tf y (by have:=hs.si;omega),X3 y (by have:=hs.ac;omega),Tl y (by have:=hs.fa;omega),Wj y (by have:=hs.se;omega)]
  rfl
set_option linter.unusedVariables false
set_option linter.unusedSimpArgs false
open Go Go.SL
def NoB (b:UInt8) (l:List UInt8):Prop:=∀ c,c∈l->c≠b
def C9 (ws:List (List UInt8)):List UInt8:=(ws.map (32 :: ·)).flatten
def DgB (c:UInt8):Prop:=48<=c.toNat/\c.toNat<=57
theorem jU {d:Nat} (h:d<10):(UInt8.ofNat (48+d)).toNat=48+d:=by
 rw [UInt8.toNat_ofNat']
 omega
theorem R7 (u:Nat):∀ c,c∈Lib.decDigits u->DgB c:=by
 induction u using Nat.strongRecOn with
 | _ u ih=>
  intro c hc
  rw [Lib.decDigits] at hc
  split at hc
  ·rename_i h
   rw [bF] at hc
   subst hc
   have:=jU h
   unfold DgB;omega
  ·rename_i h
   rcases az.1 hc with q | q
   ·exact ih (u / 10) (by omega) c q
   ·rw [bF] at q
    subst q
    have:=jU (d:=u % 10) (by omega)
    unfold DgB;omega
theorem M6:∀ {u:Nat},u<=1000000000->Lib.nDigits u<=10:=by
 intro u h
 by_cases h0:Lib.nDigits u<=10
 ·exact h0
 ·have h1:∀ (k v:Nat),Lib.nDigits v=k+1->1<=v->10 ^ k<=v:=by
   intro k
   induction k with
   | zero=>intro v _ h;simpa using h
   | succ k ih=>
    intro v hv h1
    by_cases hs:v<10
    ·rw [Lib.nDigits_small hs] at hv;omega
    ·rw [Lib.nDigits_big hs] at hv
     have:=ih (v / 10) (by omega) (by omega)
     rw [Nat.pow_succ];omega
  have hu:1<=u:=by
   rcases Nat.eq_zero_or_pos u with e | e
   ·subst e;rw [Lib.nDigits_small (by omega)] at h0;omega
   ·exact e
  obtain⟨k,hk⟩:∃ k,Lib.nDigits u=k+1:=⟨Lib.nDigits u-1,by omega⟩
  have h2:=h1 k u hk hu
  have h3:10 ^ 10<=10 ^ k:=Nat.pow_le_pow_right (by omega) (by omega)
  have:(10:Nat) ^ 10=10000000000:=by decide
  omega
theorem Mb {n:Int} (h:-1000000000<=n/\n<=1000000000):(Lib.itoa n).length<=11:=by
 unfold Lib.itoa
 split
 ·rw [aF,Lib.decDigits_length]
  have:=M6 (u:=n.natAbs) (by omega)
  omega
 ·rw [Lib.decDigits_length]
  have:=M6 (u:=n.toNat) (by omega)
  omega
theorem qW (n:Int) (b:UInt8) (hb:b=32\/b=10):NoB b (Lib.itoa n):=by
 have hd:∀ u,NoB b (Lib.decDigits u):=λ u c hc e=>by
  have:=R7 u c hc
  unfold DgB at this
  subst e
  rcases hb with e | e <;> (subst e;simp at this)
 unfold Lib.itoa
 split
 ·intro c hc
  rcases ag.1 hc with q | q
  ·subst q
   rcases hb with e | e <;> subst e <;> decide
  ·exact hd _ c q
 ·exact hd _
theorem Rh {n:Int} (h:-1000000000<=n/\n<=1000000000):M_ n=some ⟨(Lib.itoa n).toArray⟩:=by
 unfold M_
 rw [cR (by omega),cR (by omega)];rfl
def Gj (k:Int):List UInt8:=kw[(k-1).toNat]?.getD []
def D2 (c:api_Command):List UInt8:=Gj c.Kind++C9 (c.Numbers.map Lib.itoa)
def Ch (c:api_Command):List UInt8:=D2 c++[10]
theorem Lw {k:Int} (h0:1<=k) (h1:k<=8):G3 (Gj k)=k/\(∀ c,c∈Gj k->c≠32/\c≠10)/\(Gj k).length<=7/\(Og k).word=⟨(Gj k).toArray⟩:=by
 rcases Ca h0 h1 with rfl | rfl | rfl | rfl | rfl | rfl | rfl | rfl <;> exact⟨by decide,by decide,by decide,rfl⟩
theorem O6:∀ (ns:List Int),(∀ n,n∈ns -> -1000000000<=n/\n<=1000000000)->(C9 (ns.map Lib.itoa)).length<=12*ns.length
 | [],_=>by simp [C9]
 | n::ns,h=>by
  have h1:=Mb (h n al)
  have h2:=O6 ns λ m hm=>h m (aj n hm)
  have e:C9 ((n::ns).map Lib.itoa)=32::(Lib.itoa n++C9 (ns.map Lib.itoa)):=by simp [C9]
  rw [e]
  simp only [aF,aC]
  omega
theorem Qa:∀ (ns:List Int),NoB 10 (C9 (ns.map Lib.itoa))
 | [],c,hc=>by simp [C9] at hc
 | n::ns,c,hc=>by
  have e:C9 ((n::ns).map Lib.itoa)=32::(Lib.itoa n++C9 (ns.map Lib.itoa)):=by simp [C9]
  rw [e] at hc
  rcases ag.1 hc with q | q
  ·subst q;decide
  ·rcases az.1 q with q | q
   ·exact qW n 10 (.inr rfl) c q
   ·exact Qa ns c q
theorem He {k:Int} (h0:1<=k) (h1:k<=8):Bt k<=7:=by
 rcases Ca h0 h1 with rfl | rfl | rfl | rfl | rfl | rfl | rfl | rfl <;> decide
theorem I2 {c:api_Command} (h:Va c):NoB 10 (D2 c)/\(D2 c).length<=91:=by
 obtain⟨_,w2,w3,_⟩:=Lw h.k0 h.k1
 have h1:=O6 c.Numbers h.inr
 have h2:=h.len
 have h3:=He h.k0 h.k1
 refine⟨λ b hb=>?_,?_⟩
 ·rcases az.1 hb with q | q
  ·exact (w2 b q).2
  ·exact Qa _ b q
 ·unfold D2
  rw [aC];omega
theorem R_:∀ (l:List api_Command),(∀ c,c∈l->Va c)->((l.map Ch).flatten).length<=92*l.length
 | [],_=>by simp
 | c::l,h=>by
  have h1:=(I2 (h c al)).2
  have h2:=R_ l λ d hd=>h d (aj c hd)
  rw [bD,bT,aC,aF]
  have:(Ch c).length=(D2 c).length+1:=by simp [Ch]
  omega
theorem uC {l:List api_Command} (h:l≠[]):(l.map Ch).flatten≠[]:=by
 cases l with
 | nil=>exact absurd rfl h
 | cons c l=>simp [Ch]
set_option linter.unusedVariables false
set_option linter.unusedSimpArgs false
open Go Go.SL
theorem Pe:∀ (ns:List Int) (i:Nat) (z:List ByteArray),(∀ n,n∈ns -> -1000000000<=n/\n<=1000000000)->z.length+ns.length<=1000 ->
  foldI J_ ns i z=some (.next (z++ns.map λ n=>(⟨(Lib.itoa n).toArray⟩:ByteArray)))
 | [],_,z,_,_=>by simp [foldI]
 | n::ns,i,z,h,hl=>by
  simp only [aF] at hl
  unfold foldI
  have e:J_ i n z=some (.next (z++[⟨(Lib.itoa n).toArray⟩])):=by
   unfold J_ F41
   rw [Rh (h n al)]
   simp only [ak]
   rw [(c7 (by simp only [aA];omega)).eq];rfl
  rw [e]
  simp only
  rw [Pe ns (i+1) _ (λ m hm=>h m (aj n hm)) (by rw [aC,aA];omega)]
  simp
theorem Sa {a b:ByteArray} {m n:Nat} (ha:a.size=m) (hb:b.size=n) (h:m+n<=1000000):Dn a b=1:=by
 unfold Dn
 rw [ha,hb,cR (by omega)];rfl
theorem Rf (b:ByteArray) {m:Nat} (ha:b.size=m) (h:m<=1000):((nzI (Dn b (⟨#[10]⟩:ByteArray))).bind λ u=>some (b++(⟨#[10]⟩:ByteArray)))=some (b++(⟨#[10]⟩:ByteArray)):=by
 rw [Sa (n:=1) ha rfl (by omega)];rfl
theorem uV {c:api_Command} (h:Va c):F26 c=some ⟨(Ch c).toArray⟩:=by
 obtain⟨_,w2,w3,w4⟩:=Lw h.k0 h.k1
 have hb:=(I2 h).2
 have hn:=He h.k0 h.k1
 have hl:=h.len
 unfold F26
 rw [Oh,cS (by have:=h.k0;omega),cS (by have:=h.k1;omega)]
 simp only [bO,cond_false]
 rw [Md h.k0 h.k1]
 simp only [ak]
 rw [w4,Pe c.Numbers 0 _ h.inr (by simp only [aA];omega)]
 simp only [andThen]
 have ej:M9 ([⟨(Gj c.Kind).toArray⟩]++c.Numbers.map λ n=>(⟨(Lib.itoa n).toArray⟩:ByteArray)) ⟨#[32]⟩=D2 c:=by
  unfold M9 D2
  rw [List.singleton_append,bD,Lib.join_cons,List.map_map]
  unfold Lib.joinTail C9
  simp only [List.map_map]
  rfl
 have e2:F42 ([⟨(Gj c.Kind).toArray⟩]++c.Numbers.map λ n=>(⟨(Lib.itoa n).toArray⟩:ByteArray)) ⟨#[32]⟩=some ⟨(D2 c).toArray⟩:=by
  unfold F42 P1
  rw [ej,cR (by rw [aC,aA,aH];omega),cR (by omega)]
  rfl
 obtain⟨b,hb2⟩:∃ b:ByteArray,b=⟨(D2 c).toArray⟩:=⟨_,rfl⟩
 rw [←hb2] at e2
 rw [e2,ak]
 have hz:b.size=(D2 c).length:=by rw [hb2,Lib.size_eq]
 rw [Rf b hz (by omega),hb2,ah]
 unfold Ch
 refine ByteArray.ext ?_
 rw [ByteArray.data_append]
 simp
theorem Xf {c:api_Command} (h:Va c):(Ch c).length<=92:=by
 have:=(I2 h).2
 unfold Ch
 rw [aC,aA];omega
theorem Lr:∀ (l:List api_Command),(∀ c,c∈l->Va c)->Cy F26 l=some (l.map Ch).flatten
 | [],_=>rfl
 | c::l,h=>by
  unfold Cy
  rw [uV (h c al)]
  simp only
  rw [Lr l λ d hd=>h d (aj c hd)]
  rfl
def foP (l:List api_Command):ByteArray×Int:=if 80<l.length then (⟨#[]⟩,2) else if (l.any λ c=>!vaB c)=true then (⟨#[]⟩,74) else (⟨((l.map Ch).flatten).toArray⟩,0)
theorem yG {l:List api_Command} (h:(l.any λ c=>!vaB c)=false):∀ c,c∈l->Va c:=by
 intro c hc
 rw [List.any_eq_false] at h
 have:=h c hc
 refine (Fg c).1 ?_
 cases hv:vaB c with
 | true=>rfl
 | false=>rw [hv] at this;simp at this
theorem Yn (l:List api_Command) (hl:l.length<=9223372036854775807):F11 l=some (foP l):=by
 unfold F11 H3 foP
 by_cases h1:80<l.length
 ·rw [cR h1,if_pos h1];rfl
 ·rw [cS h1, if_neg h1, P8 hl]
  simp only [cond_false]
  cases h2:(l.any λ c=>!vaB c) with
  | true=>rw [if_pos rfl]
  | false=>
   have hv:=yG h2
   have hc:=R_ l hv
   rw [if_neg (by simp),Lr l hv]
   simp only
   have e:(decide (((l.map Ch).flatten).length<=1000000)&&(l.isEmpty || !((l.map Ch).flatten).isEmpty))=true:=by
    rw [cR (by omega)]
    cases l with
    | nil=>rfl
    | cons c l=>
     cases hq:((List.map Ch (c::l)).flatten) with
     | nil=>exact absurd hq (uC (by simp))
     | cons _ _=>rfl
   rw [e];rfl
set_option linter.unusedVariables false
set_option linter.unusedSimpArgs false
open Go Go.SL
theorem Ja:∀ (l:List Int) (k:Nat),foldI Kg l k ()=bif l.all inB then some (.next ()) else some (.ret false)
 | [],_=>rfl
 | n::l,k=>by
  unfold foldI
  have e:Kg k n ()=bif inB n then some (.next ()) else some (.ret false):=by
   unfold Kg jY inB
   have q1:decide (n < -1000000000) = !decide (-1000000000<=n):=by
    by_cases h:-1000000000<=n
    ·rw [cR h,cS (by omega)];rfl
    ·rw [cS h,cR (by omega)];rfl
   have q2:decide (n>1000000000) = !decide (n<=1000000000):=by
    by_cases h:n<=1000000000
    ·rw [cR h,cS (by omega)];rfl
    ·rw [cS h,cR (by omega)];rfl
   rw [q1,q2]
   cases decide (-1000000000<=n) <;> cases decide (n<=1000000000) <;> rfl
  rw [e,List.all_cons]
  cases inB n with
  | true=>simp only [cond_true,bj];exact Ja l (k+1)
  | false=>rfl
theorem qP {k:Int} (h0:1<=k) (h1:k<=8):getI ([F31.e0,F31.e1,F31.e2,F31.e3,F31.e4,F31.e5,F31.e6,F31.e7]:List Int) (w64 (k-1))=some (Bt k:Int):=by
 rcases Ca h0 h1 with rfl | rfl | rfl | rfl | rfl | rfl | rfl | rfl <;> rfl
theorem Gb (c:api_Command):F14 c=some (vaB c):=by
 unfold F14
 rw [Ja]
 by_cases h0:1<=c.Kind
 ·by_cases h1:c.Kind<=8
  ·rw [cS (show ¬ c.Kind < 1 by omega), cS (show ¬ c.Kind > 8 by omega), qP h0 h1]
   simp only [Ar,Cu,bO,beq_self_eq_true,bn,cond_true,ak]
   have ec:I1 c (Bt c.Kind)=((c.Numbers.length:Int) != (Bt c.Kind:Int)):=by
    unfold I1
    rw [cS (show ¬c.Kind<1 by omega),cS (show ¬c.Kind>8 by omega)];rfl
   rw [ec]
   unfold vaB
   rw [cR h0,cR h1]
   by_cases hl:c.Numbers.length=Bt c.Kind
   ·have e1:((c.Numbers.length:Int) != (Bt c.Kind:Int))=false:=by rw [hl];simp
    have e2:(c.Numbers.length==Bt c.Kind)=true:=by rw [hl];simp
    rw [e1,e2]
    simp only [cond_false,bj]
    cases ha:c.Numbers.all inB with
    | false=>rfl
    | true=>
     simp only [cond_true,andThen,bj]
     by_cases hk:c.Kind=8
     ·have e3:(c.Kind != 8)=false:=by rw [hk];rfl
      rw [e3]
      simp only [beq_self_eq_true,cond_true,be]
      have hl':c.Numbers.length=1:=by rw [hl,hk];rfl
      obtain⟨n,hn⟩:=bS.1 hl'
      rw [hn]
      have eg:getI [n] 0=some n:=rfl
      rw [eg]
      have:Ek [n]=n:=rfl
      simp only [ak,bj,this]
      by_cases hn1:n>=1
      ·rw [cR hn1];simp
      ·rw [cS hn1];simp
     ·have e3:(c.Kind != 8)=true:=by simpa using hk
      rw [e3]
      simp
   ·have e1:((c.Numbers.length:Int) != (Bt c.Kind:Int))=true:=by simp;omega
    have e2:(c.Numbers.length==Bt c.Kind)=false:=by simp;omega
    rw [e1,e2]
    simp
  ·have ec:∀ y,I1 c y=true:=λ y=>by
    unfold I1
    rw [cR (show c.Kind>8 by omega)];simp
   rw [cR (show c.Kind>8 by omega)]
   simp only [vaB,ec]
   rw [cS h1]
   simp [Ar,Cu]
 ·have ec:∀ y,I1 c y=true:=λ y=>by
   unfold I1
   rw [cR (show c.Kind<1 by omega)];simp
  rw [cR (show c.Kind<1 by omega)]
  simp only [vaB,ec]
  rw [cS h0]
  simp [Ar,Cu]
theorem Nt (a b:List UInt8):(⟨a.toArray⟩:ByteArray)++(⟨b.toArray⟩:ByteArray)=⟨(a++b).toArray⟩:=by
 refine ByteArray.ext ?_
 rw [ByteArray.data_append]
 simp
theorem H9 (a:List UInt8):(⟨a.toArray⟩:ByteArray).size=a.length:=by rw [Lib.size_eq]
theorem yA {a b:ByteArray} {m n:Nat} (ha:a.size=m) (hb:b.size=n) (h:m+n<=1000000):nzI (Dn a b)=some ():=by
 rw [Sa ha hb h];rfl
theorem Mk {α:Type} {a b:ByteArray} {m n:Nat} (ha:a.size=m) (hb:b.size=n) (h:m+n<=1000000) (f:Unit->Option α):(nzI (Dn a b)).bind f=f ():=by
 rw [yA ha hb h,ak]
theorem Ur (n:Int) (i:Nat) (acc:List UInt8) (hn:-1000000000<=n/\n<=1000000000) (ha:acc.length<=100000) :
  J9 i n ⟨acc.toArray⟩=some (.next (⟨(acc++32::Lib.itoa n).toArray⟩:ByteArray)):=by
 have hl:=Mb hn
 unfold J9 F41
 obtain⟨b,hb⟩:∃ b:ByteArray,b=⟨(Lib.itoa n).toArray⟩:=⟨_,rfl⟩
 have hbs:b.size=(Lib.itoa n).length:=by rw [hb,H9]
 rw [Rh hn,←hb,ak]
 obtain⟨s,hs⟩:∃ s:ByteArray,s=⟨#[32]⟩:=⟨_,rfl⟩
 obtain⟨a,ha2⟩:∃ a:ByteArray,a=⟨acc.toArray⟩:=⟨_,rfl⟩
 have hss:s.size=1:=by rw [hs];rfl
 have has:a.size=acc.length:=by rw [ha2,H9]
 rw [←hs,←ha2,Mk hss hbs (by omega),Mk has (show (s++b).size=1+(Lib.itoa n).length by rw [ByteArray.size_append,hss,hbs]) (by omega)]
 have e1:s++b=⟨(32::Lib.itoa n).toArray⟩:=by
  rw [hs,hb];exact Nt [32] (Lib.itoa n)
 rw [e1,ha2,Nt]
theorem M5:∀ (ns:List Int) (i:Nat) (acc:List UInt8),(∀ n,n∈ns -> -1000000000<=n/\n<=1000000000)->acc.length+12*ns.length<=100000 ->
  foldI J9 ns i (⟨acc.toArray⟩:ByteArray)=some (.next (⟨(acc++C9 (ns.map Lib.itoa)).toArray⟩:ByteArray))
 | [],_,acc,_,_=>by simp [foldI,C9]
 | n::ns,i,acc,h,hl=>by
  have hn:=h n al
  have h1:=Mb hn
  simp only [aF] at hl
  unfold foldI
  rw [Ur n i acc hn (by omega)]
  simp only
  rw [M5 ns (i+1) _ (λ m hm=>h m (aj n hm)) (by rw [aC,aF];omega)]
  simp [C9]
theorem Y3 {k:Int} (h0:1<=k) (h1:k<=8):getI ([F43.e0,F43.e1,F43.e2,F43.e3,F43.e4,F43.e5,F43.e6,F43.e7]:List ByteArray) (w64 (k-1))=some ⟨(Gj k).toArray⟩:=by
 rcases Ca h0 h1 with rfl | rfl | rfl | rfl | rfl | rfl | rfl | rfl <;> rfl
theorem D_ {σ τ ρ:Type} (s:σ) (g:τ->Option ρ) (f:σ->Option ρ):andThen (some (.next s)) g f=f s:=rfl
theorem Zw {c:api_Command} (h:Va c):F28 c=some ⟨(Ch c).toArray⟩:=by
 obtain⟨_,w2,w3,w4⟩:=Lw h.k0 h.k1
 have hb:=(I2 h).2
 have hn:=He h.k0 h.k1
 have hl:=h.len
 unfold F28
 rw [Y3 h.k0 h.k1,ak,M5 c.Numbers 0 _ h.inr (by omega),D_]
 have e:Gj c.Kind++C9 (c.Numbers.map Lib.itoa)=D2 c:=rfl
 rw [e]
 obtain⟨b,hb2⟩:∃ b:ByteArray,b=⟨(D2 c).toArray⟩:=⟨_,rfl⟩
 have hz:b.size=(D2 c).length:=by rw [hb2,H9]
 rw [←hb2,Rf b hz (by omega),hb2]
 exact congrArg some (Nt (D2 c) [10])
theorem Pj:∀ (l:List api_Command) (i:Nat) (acc:List UInt8),acc.length+92*l.length<=100000->foldI G_ l i (⟨acc.toArray⟩:ByteArray)=bif l.any λ c=>!vaB c then some (.ret ((⟨#[]⟩:ByteArray),74)) else some (.next (⟨(acc++(l.map Ch).flatten).toArray⟩:ByteArray))
 | [],_,acc,_=>by simp [foldI]
 | c::l,i,acc,h=>by
  simp only [aF] at h
  unfold foldI
  rw [List.any_cons]
  cases hv:vaB c with
  | false=>
   have e:G_ i c (⟨acc.toArray⟩:ByteArray)=some (.ret ((⟨#[]⟩:ByteArray),74)):=by
    unfold G_
    rw [Gb,hv];rfl
   rw [e];rfl
  | true=>
   have hva:=(Fg c).1 hv
   have hll:=Xf hva
   have e:G_ i c (⟨acc.toArray⟩:ByteArray)=some (.next (⟨(acc++Ch c).toArray⟩:ByteArray)):=by
    unfold G_
    obtain⟨a,ha2⟩:∃ a:ByteArray,a=⟨acc.toArray⟩:=⟨_,rfl⟩
    obtain⟨b,hb2⟩:∃ b:ByteArray,b=⟨(Ch c).toArray⟩:=⟨_,rfl⟩
    rw [Gb,hv,Zw hva,←ha2,←hb2,ak]
    simp only [bh,cond_false]
    rw [ak,Mk (show a.size=acc.length by rw [ha2,H9]) (show b.size=(Ch c).length by rw [hb2,H9]) (by omega),ha2,hb2,Nt]
   rw [e]
   simp only [bh,be]
   rw [Pj l (i+1) _ (by rw [aC];omega)]
   simp
theorem V3 (l:List api_Command):F12 l=some (foP l):=by
 unfold F12 foP
 by_cases h:80<l.length
 ·rw [cR (show (l.length:Int)>80 by omega),if_pos h];rfl
 ·rw [cS (show ¬(l.length:Int)>80 by omega),if_neg h]
  simp only [cond_false]
  have:=Pj l 0 [] (by simp only [bm];omega)
  have e:((⟨#[]⟩:ByteArray))=(⟨([]:List UInt8).toArray⟩:ByteArray):=rfl
  rw [e,this]
  cases hb:(l.any λ c=>!vaB c) with
  | true=>rfl
  | false=>rfl
theorem Lf:∀ (l:List api_Command) (k:Nat) (z:Int),0<=z->z+60*(l.length:Int)<=1000000000->foldI Kf l k z=some (.next (z+tkS l))
 | [],_,z,_,_=>by simp [foldI,tkS]
 | c :: l, k, z, h0, h1 => by
  simp only [aF] at h1
  have ht:=Wd c
  have e:Kf k c z=some (.next (z+tkI c)):=by
   unfold Kf
   rw [Gb]
   simp only [ak]
   unfold tkI at ht ⊢
   cases hv:vaB c with
   | false=>simp
   | true=>
    cases hk:(c.Kind==8) with
    | false=>simp
    | true=>
     rw [hv,hk] at ht
     have hk':c.Kind=8:=by simpa using hk
     have hl:=((Fg c).1 hv).len
     rw [hk'] at hl
     obtain⟨n,hn⟩:=bS.1 (show c.Numbers.length=1 from hl)
     rw [hn] at ht ⊢
     have eg:getI [n] 0=some n:=rfl
     rw [eg]
     have:Ek [n]=n:=rfl
     rw [this] at ht ⊢
     simp only [bN,cond_true,ak] at ht ⊢
     rw [Cd (by omega)]
  unfold foldI
  rw [e]
  simp only
  rw [Lf l (k+1) (z+tkI c) (by omega) (by omega)]
  simp only [tkS,Int.add_assoc]
theorem K_:∀ (l:List api_Command) (k:Nat),foldI Ke l k ()=bif l.any λ c=>!vaB c then some (.ret (([]:List Aa),74)) else some (.next ())
 | [],_=>rfl
 | c::l,k=>by
  unfold foldI
  have e:Ke k c ()=bif !vaB c then some (.ret (([]:List Aa),74)) else some (.next ()):=by
   unfold Ke
   rw [Gb];rfl
  rw [e,List.any_cons]
  cases vaB c with
  | true=>simp only [bh,cond_false,be];exact K_ l (k+1)
  | false=>rfl
def Co (x:Ac):List An×List Ai×Int×Int×Int×Int×Int×Int×Int×List Ag×Int×List Int×List Aa:=(x.next.Acts,x.next.Faults,x.weather.Wind.From,x.weather.Wind.Speed,x.weather.Current.From,x.weather.Current.Speed,x.weather.Wave.From,x.weather.Wave.Speed,x.heading,x.next.Sights.map (Dl (atT x)),x.next.Request,x.next.Seen,x.out)
def C1 (i:Int) (x:Ac):Int×Int×List Aa×List Ag×List An×List Ai×List Int:=(i,x.next.Request,x.out,x.next.Sights.map (Dl (atT x)),x.next.Acts,x.next.Faults,x.next.Seen)
theorem Mw (x0:Ac) (c:api_Command) (n:Int) (hn:getI c.Numbers 0=some n) (h2:n<=1000000000):∀ (k:Nat) (i:Int) (z:Ac) (fuel:Nat),z.weather=x0.weather->z.heading=x0.heading->z.out.length+k<=1000000000->0<=i->i+k=n->k<fuel ->
  whileN (Gc (Co x0) c) fuel (C1 i z)=some (.next (C1 n (tickN k z)))
 | k,_,_,0,_,_,_,_,_,h=>absurd h (Nat.not_lt_zero _)
 | 0,i,z,fuel+1,e2,e3,h4,h5,h6,_=>by
  unfold whileN
  have:i=n:=by omega
  subst this
  have e:Gc (Co x0) c (C1 i z)=some (.brk (C1 i z)):=by
   unfold Gc
   rw [hn]
   have:decide ((C1 i z).1<i)=false:=cS (by show ¬(i<i);omega)
   simp only [ak]
   rw [this];rfl
  rw [e];rfl
 | k+1,i,z,fuel+1,e2,e3,h4,h5,h6,h7=>by
  unfold whileN
  have ih:=Mw x0 c n hn h2 k (i+1) (tick1 z) fuel e2 e3 (by show (z.out++[_]).length+k<=_;rw [aC,aA];omega) (by omega) (by omega) (by omega)
  have e0:Gc (Co x0) c (C1 i z)=some (.next (C1 (i+1) (tick1 z))):=by
   unfold Gc
   rw [hn]
   have:decide ((C1 i z).1<n)=true:=cR (by show i<n;omega)
   simp only [ak]
   rw [this]
   simp only [cond_true]
   have ha:=(c7 (B:=161) (l:=z.out) (m:=[(⟨z.weather,z.heading,z.next.Sights.map (Dl (atT z)),z.next.Acts,z.next.Faults,z.next.Request,z.next.Seen⟩:Aa)]) (by simp only [aA];omega)).eq
   have hx:∀ (y:List Aa),(appI 161 (C1 i z).2.2.1 [(⟨(⟨(⟨(Co x0).2.2.1,(Co x0).2.2.2.1⟩:Ab),(⟨(Co x0).2.2.2.2.1,(Co x0).2.2.2.2.2.1⟩:Ab),(⟨(Co x0).2.2.2.2.2.2.1,(Co x0).2.2.2.2.2.2.2.1⟩:Ab)⟩:Ae),(Co x0).2.2.2.2.2.2.2.2.1,(C1 i z).2.2.2.1,(C1 i z).2.2.2.2.1,(C1 i z).2.2.2.2.2.1,(C1 i z).2.1,(C1 i z).2.2.2.2.2.2⟩:Aa)])=some y->y=z.out++[⟨z.weather,z.heading,z.next.Sights.map (Dl (atT z)),z.next.Acts,z.next.Faults,z.next.Request,z.next.Seen⟩]:=λ y hy=>by
    have:(appI 161 z.out [(⟨x0.weather,x0.heading,z.next.Sights.map (Dl (atT z)),z.next.Acts,z.next.Faults,z.next.Request,z.next.Seen⟩:Aa)])=some y:=hy
    rw [←e2,←e3,ha] at this
    exact (aN this).symm
   have hy:(appI 161 (C1 i z).2.2.1 [(⟨(⟨(⟨(Co x0).2.2.1,(Co x0).2.2.2.1⟩:Ab),(⟨(Co x0).2.2.2.2.1,(Co x0).2.2.2.2.2.1⟩:Ab),(⟨(Co x0).2.2.2.2.2.2.1,(Co x0).2.2.2.2.2.2.2.1⟩:Ab)⟩:Ae),(Co x0).2.2.2.2.2.2.2.2.1,(C1 i z).2.2.2.1,(C1 i z).2.2.2.2.1,(C1 i z).2.2.2.2.2.1,(C1 i z).2.1,(C1 i z).2.2.2.2.2.2⟩:Aa)])=some (z.out++[⟨z.weather,z.heading,z.next.Sights.map (Dl (atT z)),z.next.Acts,z.next.Faults,z.next.Request,z.next.Seen⟩]):=by
    show (appI 161 z.out [(⟨x0.weather,x0.heading,z.next.Sights.map (Dl (atT z)),z.next.Acts,z.next.Faults,z.next.Request,z.next.Seen⟩:Aa)])=_
    rw [←e2,←e3];exact ha
   rw [hy,ak]
   have ew:w64 ((C1 i z).1+1)=i+1:=Cd (by show -9223372036854775808<=i+1/\i+1<=9223372036854775807;omega)
   rw [ew]
   rfl
  rw [e0]
  exact ih
theorem Hj:∀ (n:Nat) (z:Ac),(tickN n z).time=z.time/\(tickN n z).weather=z.weather/\(tickN n z).heading=z.heading
 | 0,_=>⟨rfl,rfl,rfl⟩
 | n+1,z=>Hj n (tick1 z)
theorem Wl (c:api_Command) (x:Ac) (hv:Va c):(E3 x c).time=x.time:=by
 have e:=Ca hv.k0 hv.k1
 unfold E3
 generalize c.Kind=K at e ⊢
 rcases e with rfl | rfl | rfl | rfl | rfl | rfl | rfl | rfl
 all_goals first | rfl | exact (Hj _ _).1
theorem qL (n:Nat) (c:api_Command) (x:Ac) (hv:Va c) (hx:SpS 1000 1000 x):Ic x.time n c (Co x)=some (.next (Co (E3 x c))):=by
 obtain⟨⟨h1,h2,h3,h4⟩,h5,h6⟩:=hx
 have hl:=hv.len
 have ht:=hv.tick
 have e:=Ca hv.k0 hv.k1
 unfold Ic E3
 obtain⟨K,l⟩:=c
 simp only at hl e ht ⊢
 have hsl:(x.next.Sights.map (Dl (atT x))).length<=1000:=by rw [aH];exact h1
 rcases e with rfl | rfl | rfl | rfl | rfl | rfl | rfl | rfl
 ·have hl':l.length=3:=hl
  show ((getI l 0).bind λ y13=>(getI l 1).bind λ y15=>(getI l 2).bind λ y17=>(appI 25 x.next.Acts [(⟨y13,y15,y17⟩:An)]).bind λ y19=>some (Ctl.next _))=_
  rw [A4 (k:=0) (i:=0) rfl (by omega),A4 (k:=1) (i:=1) rfl (by omega),A4 (k:=2) (i:=2) rfl (by omega)]
  simp only [ak]
  rw [(c7 (by simp only [aA];omega)).eq]
  rfl
 ·have hl':l.length=2:=hl
  show ((getI l 0).bind λ y22=>(getI l 1).bind λ y24=>(appI 33 x.next.Faults [(⟨0,1,(⟨y22,y24⟩:C8)⟩:Ai)]).bind λ y26=>some (Ctl.next _))=_
  rw [A4 (k:=0) (i:=0) rfl (by omega),A4 (k:=1) (i:=1) rfl (by omega)]
  simp only [ak]
  rw [(c7 (by simp only [aA];omega)).eq]
  rfl
 ·have hl':l.length=2:=hl
  show ((getI l 0).bind λ y22=>(getI l 1).bind λ y24=>(appI 33 x.next.Faults [(⟨0,2,(⟨y22,y24⟩:C8)⟩:Ai)]).bind λ y26=>some (Ctl.next _))=_
  rw [A4 (k:=0) (i:=0) rfl (by omega),A4 (k:=1) (i:=1) rfl (by omega)]
  simp only [ak]
  rw [(c7 (by simp only [aA];omega)).eq]
  rfl
 ·have hl':l.length=7:=hl
  show ((getI l 0).bind λ y36=>(getI l 1).bind λ y38=>(getI l 2).bind λ y40=>(getI l 3).bind λ y42=>(getI l 4).bind λ y44=>(getI l 5).bind λ y46=>(getI l 6).bind λ y48=>some (Ctl.next _))=_
  rw [A4 (k:=0) (i:=0) rfl (by omega),A4 (k:=1) (i:=1) rfl (by omega),A4 (k:=2) (i:=2) rfl (by omega),A4 (k:=3) (i:=3) rfl (by omega),A4 (k:=4) (i:=4) rfl (by omega),A4 (k:=5) (i:=5) rfl (by omega),A4 (k:=6) (i:=6) rfl (by omega)]
  rfl
 ·have hl':l.length=4:=hl
  show ((getI l 0).bind λ y51=>(getI l 1).bind λ y53=>(getI l 2).bind λ y55=>(getI l 3).bind λ y57=>(appI 41 (x.next.Sights.map (Dl (atT x))) [(⟨y51,(⟨atT x,y53,y55,y57⟩:Dx)⟩:Ag)]).bind λ y59=>some (Ctl.next _))=_
  rw [A4 (k:=0) (i:=0) rfl (by omega),A4 (k:=1) (i:=1) rfl (by omega),A4 (k:=2) (i:=2) rfl (by omega),A4 (k:=3) (i:=3) rfl (by omega)]
  simp only [ak]
  rw [(c7 (by simp only [aA];omega)).eq]
  simp only [ak]
  have em:x.next.Sights.map (Dl (atT x))++[(⟨nuI l 0,(⟨atT x,nuI l 1,nuI l 2,nuI l 3⟩:Dx)⟩:Ag)]=(x.next.Sights++[(⟨nuI l 0,(⟨0,nuI l 1,nuI l 2,nuI l 3⟩:Dx)⟩:Ag)]).map (Dl (atT x)):=by
   rw [bR];rfl
  rw [em]
  rfl
 ·have hl':l.length=1:=hl
  show ((getI l 0).bind λ y62=>some (Ctl.next _))=_
  rw [A4 (k:=0) (i:=0) rfl (by omega)]
  rfl
 ·have hl':l.length=1:=hl
  show ((getI l 0).bind λ y65=>(appI 9 x.next.Seen [y65]).bind λ y67=>some (Ctl.next _))=_
  rw [A4 (k:=0) (i:=0) rfl (by omega)]
  simp only [ak]
  rw [(c7 (by simp only [aA];omega)).eq]
  rfl
 ·have hl':l.length=1:=hl
  have ht':1<=nuI l 0/\nuI l 0<=60:=ht rfl
  have hw:=Mw x ⟨8,l⟩ (nuI l 0) (A4 (k:=0) (i:=0) rfl (by show 0<l.length;omega)) (by omega) (nuI l 0).toNat 0 x 1152921504606846976 rfl rfl (by omega) (by omega) (by omega) (by omega)
  show andThen (whileN (Gc (Co x) ⟨8,l⟩) 1152921504606846976 (C1 0 x)) (λ _=>none) _=_
  rw [hw]
  obtain⟨q1,q2,q3⟩:=Hj (nuI l 0).toNat x
  simp only [andThen]
  show some (Ctl.next (_,_,x.weather.Wind.From,x.weather.Wind.Speed,x.weather.Current.From,x.weather.Current.Speed,x.weather.Wave.From,x.weather.Wave.Speed,x.heading,_))=_
  rw [←q2,←q3]
  rfl
theorem Qr (t:Int):∀ (l:List api_Command) (i k m:Nat) (x:Ac),x.time=t->(∀ c,c∈l->Va c)->SpS k m x->k+l.length<=1000->m+Gw l<=1000->foldI (Ic t) l i (Co x)=some (.next (Co (Hk x l)))
 | [],_,_,_,_,_,_,_,_,_=>rfl
 | c::l,i,k,m,x,htm,hv,hx,hk,hm=>by
  simp only [aF] at hk
  simp only [Gw] at hm
  unfold foldI
  have h0:=qL i c x (hv c al) (hx.le (by omega) (by omega))
  rw [htm] at h0
  rw [h0]
  exact Qr t l (i+1) (k+1) (m+tkN c) (E3 x c) ((Wl c x (hv c al)).trans htm) (λ d hd=>hv d (aj c hd)) (Qt hx c (hv c al)).1 (by omega) (by omega)
theorem Nx (l:List api_Command) (t:Int):F16 l t=some (inP l t):=by
 unfold F16 inP
 by_cases h1:80<l.length
 ·have e:decide ((l.length:Int)>80)=true:=by simp;omega
  rw [if_pos (.inl h1),e];rfl
 ·have e:decide ((l.length:Int)>80)=false:=by simp;omega
  rw [e,Lf l 0 0 (by omega) (by omega),K_]
  simp only [andThen,cond_false,Int.zero_add]
  by_cases h2:60<tkS l
  ·rw [cR h2,if_pos (.inr h2)];rfl
  ·rw [cS h2, if_neg (λ q => q.elim h1 h2)]
   simp only [cond_false]
   cases h3:(l.any λ c=>!vaB c) with
   | true=>rw [if_pos rfl];rfl
   | false=>
    rw [if_neg (by simp)]
    simp only [cond_false]
    have ed:jW t=(decide (t<0) || decide (t>2147483648)):=rfl
    rw [ed]
    by_cases h4:t<0
    ·rw [cR h4,if_pos (.inl h4)];rfl
    ·by_cases h5:2147483648<t
     ·rw [cR h5,if_pos (.inr h5)];simp
     ·rw [cS h4,cS h5,if_neg (λ q=>q.elim h4 h5)]
      simp only [bO,cond_false]
      have hv:=Ss h3
      have hn:=Kl hv
      have:=Qr t l 0 0 0 (sp0 t) rfl hv (Uj t) (by omega) (by omega)
      have e2:foldI (Ic t) l 0 (([]:List An),([]:List Ai),0,0,0,0,0,0,0,([]:List Ag),0,([]:List Int),([]:List Aa))=some (.next (Co (Hk (sp0 t) l))):=this
      rw [e2]
      rfl
set_option linter.unusedVariables false
open Go Go.SL
theorem N2:F5=some true:=by decide +kernel
theorem Wn (x:Unit):((F5).bind λ y=>some y)=some true:=by rw [N2];rfl
theorem V2 (l:List api_Command) (t:Int) (hl:l.length<=1000000):Fx l t=some (inP l t):=Pv l t hl
theorem Tw (l:List api_Command) (t:Int):Fw l t=some (inP l t):=Nx l t
theorem O9 {β:Type} {g:Bool->Option β} {n:Int} {o:Option Bool} (h:o=some true):(Ar [((n != n),false)] o default).bind g=g true:=by
 have e:(n != n)=false:=by simp
 rw [e,h];rfl
theorem vB (x:List api_Command) (t:Int) (hx:x.length<=1000) (f:Option Bool):((F15 x t).bind λ y57=>(F16 x t).bind λ y59=>(Ar [((y57.2 != y59.2),false)] (F17 y57.1 y59.1) default).bind λ y61=>bif ((y57.2 != y59.2) || (!y61)) then some false else f)=f:=by
 rw [Pv x t (by omega),Nx]
 simp only [ak]
 rw [O9 (Td _ (jJ x t))]
 have e:((inP x t).2 != (inP x t).2)=false:=by simp
 rw [e];rfl
theorem N0 (x:List api_Command) (t:Int) (hx:x.length<=1000) (f:Option Bool):((Fx x t).bind λ y57=>(Fw x t).bind λ y59=>(Ar [((y57.2 != y59.2),false)] (F17 y57.1 y59.1) default).bind λ y61=>bif ((y57.2 != y59.2) || (!y61)) then some false else f)=f:=by
 rw [V2 x t (by omega),Tw]
 simp only [ak]
 rw [O9 (Td _ (jJ x t))]
 have e:((inP x t).2 != (inP x t).2)=false:=by simp
 rw [e];rfl
theorem U4 {c:ByteArray×Int->ByteArray×Int->Bool} (hc:∀ a,c a a=false) (x:List api_Command) (hx:x.length<=1000) (f:Option Bool):((F11 x).bind λ a=>(F12 x).bind λ b=>bif (c a b) then some false else f)=f:=by
 rw [Yn x (by omega),V3]
 simp only [ak]
 rw [hc];rfl
theorem Ms {f:Int->Option (Ctl Int Bool)} (x:List api_Command) (hx:x.length<=1000) (hf:∀ z,f z=bif decide (z<(x.length:Int)) then (getI x z).bind λ a=>(F13 a).bind λ b=>(F14 a).bind λ d=>bif !(b==d) then some (.ret false) else some (.next (w64 (z+1))) else some (.brk z)):whileN f 1152921504606846976 0=some (.next (x.length:Int)):=by
 refine Hs _ (by omega) (λ k hk=>?_) ?_
 ·rw [hf,cR (by omega),Od hk]
  simp only [cond_true,ak]
  rw [Mm,Gb]
  simp only [ak,beq_self_eq_true,bh,cond_false]
  rw [P_ (by omega)]
 ·rw [hf,cS (by omega)];rfl
theorem cs (n:Nat) (c:ByteArray×Int->ByteArray×Int->Bool) (h:∀ a b,c a b=((!(a.1.toList==b.1.toList)) || (a.2 != b.2))):∀ a,c a a=false:=λ a=>by rw [h];simp
theorem uL {y9:List api_Command×Ad} (hs:B9 y9.2) (hv:∀ c,c∈y9.1->Va c) (hn:y9.1.length<=10):Ok (P6 y9 y9.1) (Gd (λ z=>B9 ⟨z.1,z.2.1⟩/\z.2.2.length=y9.1.length) λ _=>False):=by
 unfold P6
 refine cb (λ h=>?_) λ h=>?_
 ·simp only [cP] at h
  refine (Gq hs _ (by omega) (by omega)).bind λ k hk=>?_
  obtain⟨hs1,k0,k1⟩:=hk
  refine (Gq hs1 3 (by omega) (by omega)).bind λ m hm=>?_
  obtain⟨hs2,m0,m1⟩:=hm
  refine cb (λ h1=>?_) λ h1=>?_
  ·refine (Sv hs2 (-1) 9 (by omega) (by omega) (by omega)).bind λ r hr=>(cj k0 (by omega)).bind λ c hc=>(cu k0 (by omega)).bind λ q hq=>?_
   subst hq
   exact cv ⟨hr.1,by show (List.set _ _ _).length=_;rw [bG]⟩
  ·refine cb (λ h2=>?_) λ h2=>?_
   ·refine (cj k0 (by omega)).bind λ c hc=>?_
    have hva:=hv c (aq hc)
    have hl:=hva.len
    have hn':=He hva.k0 hva.k1
    refine (c7 (by simp only [bm];omega)).bind λ q hq=>?_
    subst hq
    refine (c7 (by simp only [bM,aA];omega)).bind λ q hq=>(cu k0 (by omega)).bind λ r hr=>?_
    subst hr
    exact cv ⟨hs2,by show (List.set _ _ _).length=_;rw [bG]⟩
   ·refine (Ox hs2 _ (by simp) (by simp)).bind λ p hp=>(cj k0 (by omega)).bind λ c hc=>(cu k0 (by omega)).bind λ q hq=>?_
    subst hq
    exact cv ⟨hp.1,by show (List.set _ _ _).length=_;rw [bG]⟩
 ·exact cv ⟨hs,rfl⟩
theorem exact_ok (x0:List Int) (x1:List api_Command) (x2:Int):F3 x0 x1 x2=some true:=by
 unfold F3
 cases hl:Zk x0 x1 with
 | true=>simp only [cond_true];exact Wn ()
 | false=>
  have hx1:x1.length<=90:=by
   unfold Zk at hl
   simp only [Bool.or_eq_false_iff,cQ] at hl
   omega
  simp only [cond_false]
  refine Ok.eq ?_
  refine Ok.andThen (A:=λ _=>True) (B:=λ v=>v=true) ?_ (λ z hz=>?_) λ v hv=>c8 hv
  ·refine cN (λ _ _=>True) trivial (λ j c z hj hz=>?_) λ _ h=>h
   unfold V9
   refine cb (λ h=>?_) λ h=>cA trivial
   rw [N2]
   exact Ok.ret rfl
  refine (yP x0).bind λ s hs=>(Tt hs 10 (by omega) (by omega)).bind λ y hy=>?_
  obtain⟨hs1,hv,hn⟩:=hy
  refine (c7 (by simp only [bm];omega)).bind λ q hq=>?_
  have hq':q=y.1:=by rw [hq,bM]
  subst hq'
  refine (uL hs1 hv (by omega)).andThen (λ z hz=>?_) λ v hv=>hv.elim
  obtain⟨hs2,hz1⟩:=hz
  refine (Ok.mkI (by omega) (by omega)).bind λ m hm=>?_
  have hml:m.length<=1000:=by rw [hm];simp
  rw [U4 (cs 0 Vh λ _ _=>rfl) y.1 (by omega),Ms (f:=V8 y) y.1 (by omega) (λ _=>rfl),D_]
  refine (Gq hs2 9 (by omega) (by omega)).bind λ k hk=>?_
  rw [N0 y.1 x2 (by omega),N0 y.1 k.1 (by omega)]
  rw [U4 (cs 0 Vg λ _ _=>rfl) z.2.2 (by omega),Ms (f:=V7 z) z.2.2 (by omega) (λ _=>rfl),D_]
  refine (Gq hk.1 9 (by omega) (by omega)).bind λ k1 hk1=>?_
  rw [N0 z.2.2 x2 (by omega),N0 z.2.2 k1.1 (by omega)]
  rw [U4 (cs 0 Vf λ _ _=>rfl) x1 (by omega),Ms (f:=V6 x1) x1 (by omega) (λ _=>rfl),D_]
  refine (Gq hk1.1 9 (by omega) (by omega)).bind λ k2 hk2=>?_
  rw [vB x1 x2 (by omega),vB x1 k2.1 (by omega)]
  rw [U4 (cs 0 Ve λ _ _=>rfl) m (by omega),Ms (f:=V5 m) m (by omega) (λ _=>rfl),D_]
  refine (Gq hk2.1 9 (by omega) (by omega)).bind λ k3 hk3=>?_
  rw [N0 m x2 (by omega),N0 m k3.1 (by omega),N2]
  exact⟨true,rfl,rfl⟩
end Go.Proofs.YtaplakgdkkmpfaaGreatDoor
