import Derived.Test.YtaplakgdkkmpfaaDoorMo
import Derived.Test.YtaplakgdkkmpfaaDoorHo
namespace Go.Proofs.YtaplakgdkkmpfaaDoor
open Go.SL
set_option linter.unusedVariables false
theorem K1 {x n:Int} (h:0<n):-n<Int.tmod x n/\Int.tmod x n<n:=by
 have h1:=Int.tmod_lt_of_pos x h
 have h2:=Int.lt_tmod_of_pos x h
 exact⟨h2,h1⟩
theorem Wv {x n:Int} (h:0<n) (h0:0<=x):0<=Int.tmod x n/\Int.tmod x n<n:=⟨Int.tmod_nonneg n h0,(K1 h).2⟩
structure B_ (s:Af):Prop where
 lo:0<=s.At
 hi:s.At<=s.L.length
 len:s.L.length<=600
def InR (n r:Int):Prop:=(1<=n->0<=r/\r<n)/\(n<1->r=0)
theorem Y0 (x n:Int) (h:n<=4611686018427387904):Ok (F24 x n) (InR n):=by
 unfold F24
 refine bX (λ h1=>?_) λ h1=>?_
 ·simp only [cF] at h1
  exact bU ⟨λ h2=>by omega,λ _=>rfl⟩
 ·simp only [cG] at h1
  refine (Ok.nzI (by omega)).bind λ _ _=>(Ok.nzI (by omega)).bind λ _ _=>bU ⟨λ _=>?_,λ h2=>by omega⟩
  have h2:=K1 (x:=x) (n:=n) (by omega)
  rw [Bv (by omega)]
  exact Wv (by omega) (by omega)
theorem Zr {s:Af} (hs:B_ s) (n:Int) (h:n<=4611686018427387904):Ok (F12 s n) λ y=>B_ y.2/\InR n y.1:=by
 obtain⟨h1,h2,h3⟩:=hs
 unfold F12
 refine bX (λ h4=>?_) λ h4=>?_
 ·exact bU ⟨⟨h1,h2,h3⟩,λ h5=>⟨by simp,by show (0:Int)<n;omega⟩,λ _=>rfl⟩
 ·simp only [cG] at h4
  have e:w64 (s.At+1)=s.At+1:=Bv (by omega)
  rw [e,Bv (n:=s.At+1-1) (by omega)]
  refine (cn (by omega) (by omega)).bind λ x _=>(Y0 x n h).bind λ r hr=>bU ⟨⟨?_,?_,h3⟩,hr⟩
  ·show 0<=s.At+1;omega
  ·show s.At+1<=(s.L.length:Int);omega
theorem Nm {s:Af} (hs:B_ s) (n:Int) (h0:1<=n) (h:n<=4611686018427387904):Ok (F12 s n) λ y=>B_ y.2/\0<=y.1/\y.1<n:=
 (Zr hs n h).mono λ _ h=>⟨h.1,h.2.1 h0⟩
theorem Vr {s:Af} (hs:B_ s) (lo hi:Int) (h:lo<=hi) (h0:-1000000000000<=lo) (h1:hi<=1000000000000):Ok (F27 s lo hi) λ y=>B_ y.2/\lo<=y.1/\y.1<=hi:=by
 unfold F27
 have e:w64 (w64 (hi-lo)+1)=hi-lo+1:=by rw [Bv (n:=hi-lo) (by omega),Bv (by omega)]
 rw [e]
 refine (Nm hs _ (by omega) (by omega)).bind λ y hy=>bU ⟨hy.1,?_⟩
 have:=hy.2
 show lo<=w64 (lo+y.1)/\w64 (lo+y.1)<=hi
 rw [Bv (by omega)]
 omega
theorem Q0 {s:Af} (hs:B_ s) (l:List Int) (h:1<=l.length) (h1:l.length<=1000):Ok (F28 s l) λ y=>B_ y.2/\y.1∈l:=by
 unfold F28
 refine (Nm hs _ (by omega) (by omega)).bind λ y hy=>?_
 have:=hy.2
 refine (cn (by omega) (by omega)).bind λ x hx=>bU ⟨hy.1,aq hx⟩
theorem Yz (l:List Int):Ok (F7 l) B_:=by
 unfold F7
 refine (Ok.cutI (by omega) (by omega) (by omega)).bind λ y hy=>bU ⟨by simp,by simp,?_⟩
 subst hy
 simp only [bF,aD]
 omega
def inB (n:Int):Bool:=decide (-1000000000<=n)&&decide (n<=1000000000)
def C_ (k:Int):Nat:=([0,3,2,2,7,4,1,1,1]:List Nat)[k.toNat]?.getD 0
def E8 (l:List Int):Int:=l[0]?.getD 0
def vaB (c:Ac):Bool:=decide (1<=c.Kind)&&(decide (c.Kind<=8)&&(c.Numbers.length==C_ c.Kind&&(c.Numbers.all inB&&(c.Kind != 8 || (decide (1<=E8 c.Numbers)&&decide (E8 c.Numbers<=60))))))
structure Va (c:Ac):Prop where
 k0:1<=c.Kind
 k1:c.Kind<=8
 len:c.Numbers.length=C_ c.Kind
 inr:∀ n,n∈c.Numbers -> -1000000000<=n/\n<=1000000000
 tick:c.Kind=8->1<=E8 c.Numbers/\E8 c.Numbers<=60
theorem Fs (c:Ac):vaB c=true↔Va c:=by
 unfold vaB
 constructor
 ·intro h
  simp only [ae,aQ,cF,aJ,inB,bne_iff_ne,ne_eq,beq_iff_eq] at h
  obtain⟨a,b,d,e,f⟩:=h
  exact⟨a,b,d,e,λ hk=>f.resolve_left λ q=>q hk⟩
 ·rintro⟨a,b,d,e,f⟩
  simp only [ae,aQ,cF,aJ,inB,bne_iff_ne,ne_eq,beq_iff_eq]
  refine⟨a,b,d,e,?_⟩
  by_cases hk:c.Kind=8
  ·exact .inr (f hk)
  ·exact .inl hk
theorem Jy:∀ (l:List Int) (k:Nat),foldI (I0 1000000000) l k ()=bif l.all inB then some (.next ()) else some (.ret false)
 | [],_=>rfl
 | n::l,k=>by
  unfold foldI
  have e:I0 1000000000 k n ()=bif inB n then some (.next ()) else some (.ret false):=by
   unfold I0 Wn inB
   have:w64 (0-1000000000) = -1000000000:=Bv (by omega)
   rw [this]
   have q1:decide (n < -1000000000) = !decide (-1000000000<=n):=by
    by_cases h:-1000000000<=n
    ·rw [cH h,cI (by omega)];rfl
    ·rw [cI h,cH (by omega)];rfl
   have q2:decide (n>1000000000) = !decide (n<=1000000000):=by
    by_cases h:n<=1000000000
    ·rw [cH h,cI (by omega)];rfl
    ·rw [cI h,cH (by omega)];rfl
   rw [q1,q2]
   cases decide (-1000000000<=n) <;> cases decide (n<=1000000000) <;> rfl
  rw [e,List.all_cons]
  cases inB n with
  | true=>simp only [cond_true,Bool.true_and];exact Jy l (k+1)
  | false=>rfl
theorem Ua (l:List Int):F43 1000000000 l=some (l.all inB):=by
 unfold F43
 rw [Jy]
 cases l.all inB with
 | true=>rfl
 | false=>rfl
theorem D_ {k:Int} (h0:1<=k) (h1:k<=8):k=1\/k=2\/k=3\/k=4\/k=5\/k=6\/k=7\/k=8:=by omega
def Qq (k:Int):Aq:=(F38)[(k-1).toNat]?.getD default
theorem Oq {k:Int} (h0:1<=k) (h1:k<=8):getI F38 (w64 (k-1))=some (Qq k):=by
 rcases D_ h0 h1 with rfl | rfl | rfl | rfl | rfl | rfl | rfl | rfl <;> rfl
theorem Vg {k:Int} (h0:1<=k) (h1:k<=8):(Qq k).numbers=(C_ k:Int):=by
 rcases D_ h0 h1 with rfl | rfl | rfl | rfl | rfl | rfl | rfl | rfl <;> rfl
theorem Qr {k:Int}:Gm k=(decide (k<1) || decide (k>8)):=rfl
theorem Pt (c:Ac):F31 c=some (vaB c):=by
 unfold F31
 rw [Qr,Ua]
 by_cases h0:1<=c.Kind
 ·by_cases h1:c.Kind<=8
  ·rw [cI (by omega), cI (by omega)]
   simp only [Bool.or_self,cond_false]
   rw [Oq h0 h1]
   simp only [ap,Wo]
   rw [Vg h0 h1]
   unfold vaB
   rw [cH h0,cH h1]
   by_cases hl:c.Numbers.length=C_ c.Kind
   ·have e1:((c.Numbers.length:Int) != (C_ c.Kind:Int))=false:=by rw [hl];simp
    have e2:(c.Numbers.length==C_ c.Kind)=true:=by rw [hl];simp
    rw [e1,e2]
    simp only [A9,Da,beq_self_eq_true,bC,cond_true,ap,bi,Bool.true_and]
    cases ha:c.Numbers.all inB with
    | false=>rfl
    | true=>
     simp only [bD,cond_false,Bool.true_and]
     by_cases hk:c.Kind=8
     ·have e3:(c.Kind != 8)=false:=by rw [hk];rfl
      rw [e3]
      simp only [beq_self_eq_true,cond_true,bi]
      have hl':c.Numbers.length=1:=by rw [hl,hk];rfl
      obtain⟨n,hn⟩:=List.length_eq_one_iff.1 hl'
      rw [hn]
      have eg:getI [n] 0=some n:=rfl
      rw [eg]
      have:E8 [n]=n:=rfl
      simp only [ap,Bool.true_and,this]
      by_cases hn1:n>=1
      ·rw [cH hn1];simp
      ·rw [cI hn1];simp
     ·have e3:(c.Kind != 8)=true:=by simpa using hk
      rw [e3]
      simp
   ·have e1:((c.Numbers.length:Int) != (C_ c.Kind:Int))=true:=by simp;omega
    have e2:(c.Numbers.length==C_ c.Kind)=false:=by simp;omega
    rw [e1,e2]
    simp [A9,Da]
  ·rw [cH (show c.Kind>8 by omega)]
   simp only [Bool.or_true,cond_true,vaB]
   rw [cI h1]
   simp [A9,Da]
 ·rw [cH (show c.Kind<1 by omega)]
  simp only [Bool.true_or,cond_true,vaB]
  rw [cI h0]
  simp [A9,Da]
def tkI (c:Ac):Int:=bif (c.Kind==8)&&vaB c then E8 c.Numbers else 0
def tkS:List Ac->Int
 | []=>0
 | c::l=>tkI c+tkS l
theorem Sw (c:Ac):0<=tkI c/\tkI c<=60:=by
 unfold tkI
 refine cE (P:=λ x=>0<=x/\x<=60) (λ h=>?_) λ _=>by omega
 simp only [ae,beq_iff_eq] at h
 have:=((Fs c).1 h.2).tick h.1
 omega
theorem Ns:∀ l:List Ac,0<=tkS l/\tkS l<=60*(l.length:Int)
 | []=>by simp [tkS]
 | c::l=>by
  have h1:=Sw c
  have h2:=Ns l
  simp only [tkS,aR]
  omega
theorem Ja:∀ l m:List Ac,tkS (l++m)=tkS l+tkS m
 | [],m=>by simp [tkS]
 | c::l,m=>by
  have:=Ja l m
  simp only [tkS,bL,this]
  omega
theorem K2:∀ (l:List Ac) (k:Nat) (z:Int),0<=z->z+60*(l.length:Int)<=1000000000->foldI I1 l k z=some (.next (z+tkS l))
 | [],_,z,_,_=>by simp [foldI,tkS]
 | c :: l, k, z, h0, h1 => by
  simp only [aR] at h1
  have ht:=Sw c
  have e:I1 k c z=some (.next (z+tkI c)):=by
   unfold I1
   by_cases hk:c.Kind=8
   ·have e1:(c.Kind==8)=true:=by simpa using hk
    unfold tkI at ht ⊢
    rw [e1] at ht ⊢
    rw [Pt]
    simp only [A9,Da,beq_self_eq_true,bC,cond_true,ap,Bool.true_and] at ht ⊢
    cases hv:vaB c with
    | false=>simp
    | true=>
     rw [hv] at ht
     simp only [cond_true] at ht ⊢
     have hl:=((Fs c).1 hv).len
     rw [hk] at hl
     obtain⟨n,hn⟩:=List.length_eq_one_iff.1 (show c.Numbers.length=1 from hl)
     rw [hn] at ht ⊢
     have eg:getI [n] 0=some n:=rfl
     rw [eg]
     simp only [ap]
     have:E8 [n]=n:=rfl
     rw [this] at ht ⊢
     rw [Bv (by omega)]
   ·have e1:(c.Kind==8)=false:=by simpa using hk
    unfold tkI
    rw [e1]
    simp [A9,Da]
  unfold foldI
  rw [e]
  simp only
  rw [K2 l (k+1) (z+tkI c) (by omega) (by omega)]
  simp only [tkS,Int.add_assoc]
theorem Uv {l:List Ac} (h:l.length<=1000):F25 l=some (tkS l):=by
 unfold F25
 rw [K2 l 0 0 (by omega) (by omega)]
 simp [andThen]
theorem Ur {l:List Ac} (h:l.length<=9223372036854775807):F16 l=some (l.any λ c=>!vaB c):=by
 have h1:∀ c,F30 c=some (!vaB c):=λ c=>by
  unfold F30
  rw [Pt];rfl
 unfold F16 Np Nn
 rw [S5 (λ c=>!vaB c) (λ i x=>by
  unfold Kv
  rw [h1];rfl) l h]
 simp only [ap]
 rw [Ve]
theorem Yb {s:Af} (hs:B_ s) (n:Nat) (hn:n<=10):Ok (whileN Lv 1152921504606846976 ((n:Int),s.L,s.At,([]:List Int)))
  (Hc (λ z=>B_ ⟨z.2.1,z.2.2.1⟩/\z.2.2.2.length=n/\∀ x,x∈z.2.2.2 -> -1000000000<=x/\x<=1000000000) λ _=>False):=by
 refine cd (λ z=>B_ ⟨z.2.1,z.2.2.1⟩/\0<=z.1/\z.1<=10/\z.1+(z.2.2.2.length:Int)=n/\∀ x,x∈z.2.2.2 -> -1000000000<=x/\x<=1000000000) (λ z=>z.1.toNat) _ _ ⟨hs,by omega,by omega,by simp,by simp⟩ (by omega) ?_
 rintro⟨k,L,A,out⟩ ⟨h1,h2,h3,h4,h5⟩
 simp only at h1 h2 h3 h4 h5 ⊢
 unfold Lv
 refine bX (λ h6=>?_) λ h6=>?_
 ·simp only [cF] at h6
  refine (Q0 h1 _ (by simp) (by simp)).bind λ y hy=>(bW (by simp;omega)).bind λ z hz=>?_
  subst hz
  rw [Bv (by omega)]
  refine ch ⟨⟨hy.1,by show 0<=k-1;omega,by show k-1<=10;omega,by simp;omega,λ x hx=>?_⟩,by show (k-1).toNat<k.toNat;omega⟩
  simp only [az,bp] at hx
  rcases hx with hx | hx
  ·exact h5 x hx
  ·subst hx
   have:=hy.2
   simp at this
   omega
 ·simp only [cG] at h6
  exact cx ⟨h1,by show out.length=n;omega,h5⟩
theorem R5 {s:Af} (hs:B_ s):Ok (F15 s) λ y=>B_ y.2/\Va y.1:=by
 unfold F15
 refine (Vr hs 1 8 (by omega) (by omega) (by omega)).bind λ y hy=>?_
 obtain⟨hs1,h1,h2⟩:=hy
 have hk:getI ([0,3,2,2,7,4,1,1,1]:List Int) y.1=some (C_ y.1:Int):=by
  rcases D_ h1 h2 with h | h | h | h | h | h | h | h <;> rw [h] <;> rfl
 have hn:C_ y.1<=10:=by
  rcases D_ h1 h2 with h | h | h | h | h | h | h | h <;> rw [h] <;> decide
 rw [hk]
 simp only [ap]
 refine (Yb hs1 _ hn).andThen (λ z hz=>?_) λ v hv=>hv.elim
 obtain⟨hs2,hl,hin⟩:=hz
 refine bX (λ h=>?_) λ h=>?_
 ·simp only [beq_iff_eq] at h
  have hl1:z.2.2.2.length=1:=by rw [hl,h];rfl
  obtain⟨n,hn⟩:=List.length_eq_one_iff.1 hl1
  refine (Q0 hs2 _ (by simp) (by simp)).bind λ p hp=>?_
  rw [hn]
  refine (cn (by omega) (by simp)).bind λ _ _=>(cA (by omega) (by simp)).bind λ q hq=>?_
  subst hq
  have:=hp.2
  simp at this
  refine bU ⟨hp.1,by show 1<=y.1;omega,by show y.1<=8;omega,?_,λ x hx=>?_,λ _=>?_⟩
  ·show 1=C_ y.1
   rw [h];rfl
  ·have hx':x=p.1:=by simpa using hx
   omega
  ·show 1<=p.1/\p.1<=60
   omega
 ·have h':y.1≠8:=by simpa using h
  exact bU ⟨hs2,by show 1<=y.1;omega,by show y.1<=8;omega,hl,hin,λ q=>absurd q h'⟩
theorem Qe {s:Af} (hs:B_ s) (n:Int) (h0:0<=n) (h1:n<=1000):Ok (F8 s n) λ y=>B_ y.2/\(∀ c,c∈y.1->Va c)/\(y.1.length:Int)<=n:=by
 unfold F8
 rw [Bv (by omega)]
 refine (Nm hs _ (by omega) (by omega)).bind λ y hy=>?_
 obtain⟨hs1,h2,h3⟩:=hy
 refine Ok.andThen (A:=λ z=>B_ ⟨z.2.1,z.2.2.1⟩/\(∀ c,c∈z.2.2.2->Va c)/\(z.2.2.2.length:Int)<=n) (B:=λ _=>False) ?_ (λ z hz=>bU ⟨hz.1,hz.2.1,hz.2.2⟩) λ v hv=>hv.elim
 refine cd (λ z=>B_ ⟨z.2.1,z.2.2.1⟩/\0<=z.1/\z.1<=1000/\z.1+(z.2.2.2.length:Int)<=n/\∀ c,c∈z.2.2.2->Va c) (λ z=>z.1.toNat) _ _ ⟨hs1,by show 0<=y.1;omega,by show y.1<=1000;omega,by show y.1+((0:Nat):Int)<=n;omega,by simp⟩ (by show y.1.toNat<_;omega) ?_
 rintro⟨k,L,A,out⟩ ⟨h4,h5,h6,h7,h8⟩
 simp only at h4 h5 h6 h7 h8 ⊢
 unfold Sp
 refine bX (λ h9=>?_) λ h9=>?_
 ·simp only [cF] at h9
  refine (R5 h4).bind λ c hc=>(bW (by simp;omega)).bind λ z hz=>?_
  subst hz
  rw [Bv (by omega)]
  refine ch ⟨⟨hc.1,by show 0<=k-1;omega,by show k-1<=1000;omega,by simp;omega,λ x hx=>?_⟩,by show (k-1).toNat<k.toNat;omega⟩
  simp only [az,bp] at hx
  rcases hx with hx | hx
  ·exact h8 x hx
  ·subst hx;exact hc.2
 ·exact cx ⟨h4,h8,by show (out.length:Int)<=n;omega⟩
set_option linter.unusedVariables false
def in0:Ad:=⟨⟨⟨0,0⟩,⟨0,0⟩,⟨0,0⟩⟩,0,[],[],[],0,[]⟩
def sp0 (t:Int):Ab:=⟨t,⟨⟨0,0⟩,⟨0,0⟩,⟨0,0⟩⟩,0,in0,[]⟩
def nuI (l:List Int) (i:Nat):Int:=l[i]?.getD 0
def Nh (t:Int) (s:Am):Am:=⟨s.Reference,⟨t,s.Fix.X,s.Fix.Y,s.Fix.Error⟩⟩
def atT (x:Ab):Int:=w64 (w64 (x.time+1)+(x.out.length:Int))
def tick1 (x:Ab):Ab:=⟨x.time,x.weather,x.heading,in0,x.out++[⟨x.weather,x.heading,x.next.Sights.map (Nh (atT x)),x.next.Acts,x.next.Faults,x.next.Request,x.next.Seen⟩]⟩
def tickN:Nat->Ab->Ab
 | 0,x=>x
 | n+1,x=>tickN n (tick1 x)
def Zp (k:Int) (n:List Int) (x:Ab):Ab:=
 if k=1 then ⟨x.time,x.weather,x.heading,⟨x.next.Weather,x.next.Heading,x.next.Sights,x.next.Acts++[⟨nuI n 0,nuI n 1,nuI n 2⟩],x.next.Faults,x.next.Request,x.next.Seen⟩,x.out⟩
 else if k=2 then ⟨x.time,x.weather,x.heading,⟨x.next.Weather,x.next.Heading,x.next.Sights,x.next.Acts,x.next.Faults++[⟨0,1,⟨nuI n 0,nuI n 1⟩⟩],x.next.Request,x.next.Seen⟩,x.out⟩
 else if k=3 then ⟨x.time,x.weather,x.heading,⟨x.next.Weather,x.next.Heading,x.next.Sights,x.next.Acts,x.next.Faults++[⟨0,2,⟨nuI n 0,nuI n 1⟩⟩],x.next.Request,x.next.Seen⟩,x.out⟩
 else if k=4 then ⟨x.time,⟨⟨nuI n 0,nuI n 1⟩,⟨nuI n 2,nuI n 3⟩,⟨nuI n 4,nuI n 5⟩⟩,nuI n 6,x.next,x.out⟩
 else if k=5 then ⟨x.time,x.weather,x.heading,⟨x.next.Weather,x.next.Heading,x.next.Sights++[⟨nuI n 0,⟨0,nuI n 1,nuI n 2,nuI n 3⟩⟩],x.next.Acts,x.next.Faults,x.next.Request,x.next.Seen⟩,x.out⟩
 else if k=6 then ⟨x.time,x.weather,x.heading,⟨x.next.Weather,x.next.Heading,x.next.Sights,x.next.Acts,x.next.Faults,nuI n 0,x.next.Seen⟩,x.out⟩
 else if k=7 then ⟨x.time,x.weather,x.heading,⟨x.next.Weather,x.next.Heading,x.next.Sights,x.next.Acts,x.next.Faults,x.next.Request,x.next.Seen++[nuI n 0]⟩,x.out⟩
 else tickN (nuI n 0).toNat x
def Fz (x:Ab) (c:Ac):Ab:=Zp c.Kind c.Numbers x
structure InS (M:Nat) (y:Ad):Prop where
 si:y.Sights.length<=M
 ac:y.Acts.length<=M
 fa:y.Faults.length<=M
 se:y.Seen.length<=M
structure SpS (k m:Nat) (x:Ab):Prop where
 nx:InS k x.next
 ol:x.out.length<=m
 ou:∀ y,y∈x.out->InS k y
theorem Pr {α:Type} {l:List α} {x:α} {k:Nat} (h:l.length<=k):(l++[x]).length<=k+1:=by rw [aK,aP];omega
theorem InS.le {a b:Nat} {y:Ad} (h:InS a y) (hl:a<=b):InS b y:=⟨aB h.si hl,aB h.ac hl,aB h.fa hl,aB h.se hl⟩
theorem InS.zero (k:Nat):InS k in0:=⟨aG _,aG _,aG _,aG _⟩
theorem SpS.le {a b m m':Nat} {x:Ab} (h:SpS a m x) (hl:a<=b) (hm:m<=m'):SpS b m' x:=⟨h.nx.le hl,aB h.ol hm,λ y hy=>(h.ou y hy).le hl⟩
theorem SpS.tick1 {k m:Nat} {x:Ab} (h:SpS k m x):SpS k (m+1) (tick1 x):=by
 refine⟨InS.zero k,?_,λ y hy=>?_⟩
 ·show (x.out++[_]).length<=m+1
  have:=h.ol
  rw [aK,aP];omega
 ·have hy':y∈x.out++[_]:=hy
  rcases az.1 hy' with q | q
  ·exact h.ou y q
  ·simp only [bp] at q
   subst q
   exact⟨by show (List.map _ _).length<=k;rw [aF];exact h.nx.si,h.nx.ac,h.nx.fa,h.nx.se⟩
theorem SpS.tickN {k:Nat}:∀ (n:Nat) {m:Nat} {x:Ab},SpS k m x->SpS k (m+n) (tickN n x)
 | 0,_,_,h=>h
 | n+1,m,x,h=>by
  have:=SpS.tickN n h.tick1
  unfold Go.Proofs.YtaplakgdkkmpfaaDoor.tickN
  rw [show m+(n+1)=m+1+n from by omega];exact this
theorem Ms:∀ (n:Nat) (x:Ab),(tickN n x).out.length=x.out.length+n
 | 0,_=>rfl
 | n+1,x=>by
  unfold tickN
  rw [Ms n]
  show (x.out++[_]).length+n=_
  rw [aK,aP];omega
def tkN (c:Ac):Nat:=if c.Kind=8 then (E8 c.Numbers).toNat else 0
theorem Va.tk {c:Ac} (h:Va c):(tkN c:Int)=tkI c:=by
 unfold tkN tkI
 rw [(Fs c).2 h]
 by_cases hk:c.Kind=8
 ·have:=h.tick hk
  rw [if_pos hk,hk]
  simp only [beq_self_eq_true,Bool.and_self,cond_true]
  omega
 ·rw [if_neg hk]
  have:(c.Kind==8)=false:=by simpa using hk
  rw [this];rfl
theorem S6 {k m:Nat} {x:Ab} (h:SpS k m x) (c:Ac) (hv:Va c):SpS (k+1) (m+tkN c) (Fz x c)/\(Fz x c).out.length=x.out.length+tkN c:=by
 obtain⟨⟨h1,h2,h3,h4⟩,h5,h6⟩:=h
 have h6':∀ y,y∈x.out->InS (k+1) y:=λ y hy=>(h6 y hy).le (Nat.le_succ k)
 have e:=D_ hv.k0 hv.k1
 unfold Fz tkN
 generalize c.Kind=K at e ⊢
 rcases e with rfl | rfl | rfl | rfl | rfl | rfl | rfl | rfl
 ·exact⟨⟨⟨aA h1,Pr h2,aA h3,aA h4⟩,h5,h6'⟩,rfl⟩
 ·exact⟨⟨⟨aA h1,aA h2,Pr h3,aA h4⟩,h5,h6'⟩,rfl⟩
 ·exact⟨⟨⟨aA h1,aA h2,Pr h3,aA h4⟩,h5,h6'⟩,rfl⟩
 ·exact⟨⟨⟨aA h1,aA h2,aA h3,aA h4⟩,h5,h6'⟩,rfl⟩
 ·exact⟨⟨⟨Pr h1,aA h2,aA h3,aA h4⟩,h5,h6'⟩,rfl⟩
 ·exact⟨⟨⟨aA h1,aA h2,aA h3,aA h4⟩,h5,h6'⟩,rfl⟩
 ·exact⟨⟨⟨aA h1,aA h2,aA h3,Pr h4⟩,h5,h6'⟩,rfl⟩
 ·exact⟨SpS.le (SpS.tickN _ ⟨⟨h1,h2,h3,h4⟩,h5,h6⟩) (Nat.le_succ k) (ai _),Ms _ _⟩
def Cu (x:Ab) (l:List Ac):Ab:=l.foldl Fz x
def Hg:List Ac->Nat
 | []=>0
 | c::l=>tkN c+Hg l
theorem Jb:∀ {l:List Ac},(∀ c,c∈l->Va c)->(Hg l:Int)=tkS l
 | [],_=>rfl
 | c::l,h=>by
  have h1:=(h c ak).tk
  have h2:=Jb λ d hd=>h d (aj c hd)
  simp only [Hg,tkS]
  omega
theorem N4:∀ {l:List Ac} {k m:Nat} {x:Ab},(∀ c,c∈l->Va c)->SpS k m x->SpS (k+l.length) (m+Hg l) (Cu x l)/\(Cu x l).out.length=x.out.length+Hg l
 | [],_,_,_,_,h=>⟨h,rfl⟩
 | c::l,k,m,x,hv,h=>by
  obtain⟨h1,h2⟩:=S6 h c (hv c ak)
  obtain⟨h3,h4⟩:=N4 (l:=l) (λ d hd=>hv d (aj c hd)) h1
  refine⟨?_,?_⟩
  ·show SpS _ _ (Cu (Fz x c) l)
   exact h3.le (by simp only [aR];omega) (by simp only [Hg];omega)
  ·show (Cu (Fz x c) l).out.length=_
   rw [h4,h2];simp only [Hg];omega
def Fe (i:Int) (y:Ad) (o:List Ad):Sg2:=(i,y.Weather.Wind.From,y.Weather.Wind.Speed,y.Weather.Current.From,y.Weather.Current.Speed,y.Weather.Wave.From,y.Weather.Wave.Speed,y.Heading,y.Request,y.Sights,y.Acts,y.Faults,y.Seen,o)
def Ev (x:Ab):Sg3:=(x.time,x.weather.Wind.From,x.weather.Wind.Speed,x.weather.Current.From,x.weather.Current.Speed,x.weather.Wave.From,x.weather.Wave.Speed,x.heading,x.next.Weather.Wind.From,x.next.Weather.Wind.Speed,x.next.Weather.Current.From,x.next.Weather.Current.Speed,x.next.Weather.Wave.From,x.next.Weather.Wave.Speed,x.next.Heading,x.next.Request,x.next.Sights,x.next.Acts,x.next.Faults,x.next.Seen,x.out)
theorem Cv {l:List Int} {i:Nat} {k:Int} (hk:k=(i:Int)) (h:i<l.length):getI l k=some (nuI l i):=by
 subst hk
 unfold getI nuI
 rw [cH (by omega)]
 simp only [cond_true,bh]
 rw [al h];rfl
theorem Q3 (x:Ab) (i:Int) (y:Ad) (o:List Ad) (hl:y.Sights.length<=1000000000) :
  Ok (whileN (Hy x (Fe i y o)) 1152921504606846976 (0,y.Sights)) (Hc (λ z=>z.2=y.Sights.map (Nh (w64 (w64 (x.time+1)+(o.length:Int))))) λ _=>False):=by
 generalize hT:Nh (w64 (w64 (x.time+1)+(o.length:Int)))=T
 refine cd (λ z=>∃ k:Nat,k<=y.Sights.length/\z.1=(k:Int)/\z.2=(y.Sights.take k).map T++y.Sights.drop k) (λ z=>y.Sights.length-z.1.toNat) _ _ ⟨0,aG _,rfl,by simp⟩ (by show y.Sights.length-_<_;omega) ?_
 rintro⟨a,S⟩ ⟨k,hk,h1,h2⟩
 simp only at h1 h2
 subst h1 h2
 unfold Hy
 have hc:Qx (Fe i y o) ((k:Int),(y.Sights.take k).map T++y.Sights.drop k)=decide ((k:Int)<(y.Sights.length:Int)):=rfl
 rw [hc]
 refine bX (λ h=>?_) λ h=>?_
 ·simp only [cF] at h
  have hlt:k<y.Sights.length:=by omega
  have hS:((y.Sights.take k).map T++y.Sights.drop k).length=y.Sights.length:=by simp;omega
  have hg:((y.Sights.take k).map T++y.Sights.drop k)[k]? = some y.Sights[k]:=by
   rw [aC (by rw [aF,aD];exact Nat.min_le_left _ _),aF,aD,bm hk,Nat.sub_self,ay,bn,al hlt]
  refine (cn (by show (0:Int)<=(k:Int);omega) (by show (k:Int)<_;rw [hS];omega)).bind λ s hs=>?_
  have hs':s=y.Sights[k]:=by
   have:((y.Sights.take k).map T++y.Sights.drop k)[(k:Int).toNat]? = some s:=hs
   rw [bh,hg] at this
   exact (aO this).symm
  subst hs'
  refine (cA (by show (0:Int)<=(k:Int);omega) (by show (k:Int)<_;rw [hS];omega)).bind λ z hz=>?_
  subst hz
  have ew:w64 ((k:Int)+1)=((k+1:Nat):Int):=by rw [Bv (by omega)];omega
  show Ok (some (Ctl.next (w64 ((k:Int)+1),_))) _
  rw [ew]
  refine ch ⟨⟨k+1,by omega,rfl,?_⟩,by show y.Sights.length-((k+1:Nat):Int).toNat<y.Sights.length-(k:Int).toNat;omega⟩
  show (((y.Sights.take k).map T++y.Sights.drop k).set (k:Int).toNat _)=_
  rw [bh,List.take_succ_eq_append_getElem hlt,List.map_append,bg,List.drop_eq_getElem_cons hlt]
  rw [List.set_append_right _ _ (by rw [aF,aD];exact Nat.min_le_left _ _)]
  simp only [aF,aD,bm hk,Nat.sub_self,aY]
  congr 1
  show _::_=[T y.Sights[k]]++_
  rw [←hT];rfl
 ·simp only [cG] at h
  have:k=y.Sights.length:=by omega
  refine cx ?_
  show _=_
  rw [this];simp
theorem Sx (x:Ab) (n i:Int) (y:Ad) (o:List Ad) (hl:y.Sights.length<=1000000000) (ho:o.length<=1000000000) (h0:0<=i) (h1:i<n) (h2:n<=1000000000) :
  C9 x n (Fe i y o)=some (.next (Fe (i+1) in0 (o++[⟨x.weather,x.heading,y.Sights.map (Nh (w64 (w64 (x.time+1)+(o.length:Int)))),y.Acts,y.Faults,y.Request,y.Seen⟩]))):=by
 refine Ok.eq ?_
 unfold C9
 refine bX (λ h=>?_) λ h=>?_
 ·refine (Q3 x i y o hl).andThen (λ z hz=>?_) λ v hv=>hv.elim
  refine (bW (by show (o.length+1)*_<=_;omega)).bind λ q hq=>?_
  subst hq
  refine bU ?_
  rw [hz]
  show Ctl.next (w64 (i+1),_)=_
  rw [Bv (by omega)]
  rfl
 ·exact absurd h1 (of_decide_eq_false h)
theorem Mr (x:Ab) (n:Int) (h2:n<=1000000000) (hs:x.next.Sights.length<=1000000000):∀ (k:Nat) (i:Int) (z:Ab) (fuel:Nat),z.time=x.time->z.weather=x.weather->z.heading=x.heading->z.next.Sights.length<=1000000000->z.out.length+k<=1000000000->0<=i->i+k=n->k<fuel ->
  whileN (C9 x n) fuel (Fe i z.next z.out)=some (.next (Fe n (tickN k z).next (tickN k z).out))
 | k,_,_,0,_,_,_,_,_,_,_,h=>absurd h (Nat.not_lt_zero _)
 | 0,i,z,fuel+1,e1,e2,e3,h3,h4,h5,h6,_=>by
  unfold whileN
  have:i=n:=by omega
  subst this
  have e:C9 x i (Fe i z.next z.out)=some (.brk (Fe i z.next z.out)):=by
   unfold C9
   have:decide ((Fe i z.next z.out).1<i)=false:=cI (by show ¬(i<i);omega)
   rw [this];rfl
  rw [e];rfl
 | k+1,i,z,fuel+1,e1,e2,e3,h3,h4,h5,h6,h7=>by
  unfold whileN
  have ih:=Mr x n h2 hs k (i+1) (tick1 z) fuel e1 e2 e3 (by show (0:Nat)<=_;omega) (by show (z.out++[_]).length+k<=_;rw [aK,aP];omega) (by omega) (by omega) (by omega)
  have e0:C9 x n (Fe i z.next z.out)=some (.next (Fe (i+1) (tick1 z).next (tick1 z).out)):=by
   rw [Sx x n i z.next z.out h3 (by omega) h5 (by omega) h2]
   unfold tick1 atT
   rw [e1,e2,e3]
  rw [e0]
  exact ih
theorem Ww (x:Ab) (l:List Int) (hl:0<l.length) (h0:0<=nuI l 0) (h1:nuI l 0<=1000000) (hs:x.next.Sights.length<=1000000) (ho:x.out.length<=1000000):Hz x l=some (tickN (nuI l 0).toNat x):=by
 unfold Hz
 rw [Cv (k:=0) (i:=0) rfl hl]
 simp only [ap]
 have:=Mr x (nuI l 0) (by omega) (by omega) (nuI l 0).toNat 0 x 1152921504606846976 rfl rfl rfl (by omega) (by omega) (by omega) (by omega) (by omega)
 have e:whileN (C9 x (nuI l 0)) 1152921504606846976 (0,x.next.Weather.Wind.From,x.next.Weather.Wind.Speed,x.next.Weather.Current.From,x.next.Weather.Current.Speed,x.next.Weather.Wave.From,x.next.Weather.Wave.Speed,x.next.Heading,x.next.Request,x.next.Sights,x.next.Acts,x.next.Faults,x.next.Seen,x.out)=some (.next (Fe (nuI l 0) (tickN (nuI l 0).toNat x).next (tickN (nuI l 0).toNat x).out)):=this
 rw [e]
 simp only [andThen,ah]
 have ht:∀ (n:Nat) (z:Ab),(tickN n z).time=z.time/\(tickN n z).weather=z.weather/\(tickN n z).heading=z.heading:=by
  intro n
  induction n with
  | zero=>exact λ z=>⟨rfl,rfl,rfl⟩
  | succ n ih=>exact λ z=>ih (tick1 z)
 obtain⟨q1,q2,q3⟩:=ht (nuI l 0).toNat x
 rw [←q1,←q2,←q3]
 rfl
theorem X6 (k n:Nat) (c:Ac) (x:Ab) (hv:Va c) (hx:SpS 1000 1000 x):Hb n c (Ev x)=some (.next (Ev (Fz x c))):=by
 obtain⟨⟨h1,h2,h3,h4⟩,h5,h6⟩:=hx
 have hl:=hv.len
 have ht:=hv.tick
 unfold Hb
 rw [Qr,cI (by have:=hv.k0;omega),cI (by have:=hv.k1;omega)]
 simp only [Bool.or_self,cond_false]
 rw [Oq hv.k0 hv.k1]
 simp only [ap]
 have e:=D_ hv.k0 hv.k1
 unfold Fz
 obtain⟨K,l⟩:=c
 simp only at hl e ht ⊢
 rcases e with rfl | rfl | rfl | rfl | rfl | rfl | rfl | rfl
 ·have hl':l.length=3:=hl
  show ((Ju x l).bind λ y=>some (Ctl.next (Ev y)))=_
  unfold Ju
  rw [Cv (k:=0) (i:=0) rfl (by omega),Cv (k:=1) (i:=1) rfl (by omega),Cv (k:=2) (i:=2) rfl (by omega)]
  simp only [ap]
  rw [(bW (by simp only [aP];omega)).eq]
  rfl
 ·have hl':l.length=2:=hl
  show ((Jt x l).bind λ y=>some (Ctl.next (Ev y)))=_
  unfold Jt Js
  rw [Cv (k:=0) (i:=0) rfl (by omega),Cv (k:=1) (i:=1) rfl (by omega)]
  simp only [ap]
  rw [(bW (by simp only [aP];omega)).eq]
  rfl
 ·have hl':l.length=2:=hl
  show ((Jr x l).bind λ y=>some (Ctl.next (Ev y)))=_
  unfold Jr Js
  rw [Cv (k:=0) (i:=0) rfl (by omega),Cv (k:=1) (i:=1) rfl (by omega)]
  simp only [ap]
  rw [(bW (by simp only [aP];omega)).eq]
  rfl
 ·have hl':l.length=7:=hl
  show ((Jq x l).bind λ y=>some (Ctl.next (Ev y)))=_
  unfold Jq
  rw [Cv (k:=0) (i:=0) rfl (by omega),Cv (k:=1) (i:=1) rfl (by omega),Cv (k:=2) (i:=2) rfl (by omega),Cv (k:=3) (i:=3) rfl (by omega),Cv (k:=4) (i:=4) rfl (by omega),Cv (k:=5) (i:=5) rfl (by omega),Cv (k:=6) (i:=6) rfl (by omega)]
  rfl
 ·have hl':l.length=4:=hl
  show ((Jp x l).bind λ y=>some (Ctl.next (Ev y)))=_
  unfold Jp
  rw [Cv (k:=0) (i:=0) rfl (by omega),Cv (k:=1) (i:=1) rfl (by omega),Cv (k:=2) (i:=2) rfl (by omega),Cv (k:=3) (i:=3) rfl (by omega)]
  simp only [ap]
  rw [(bW (by simp only [aP];omega)).eq]
  rfl
 ·have hl':l.length=1:=hl
  show ((Jo x l).bind λ y=>some (Ctl.next (Ev y)))=_
  unfold Jo
  rw [Cv (k:=0) (i:=0) rfl (by omega)]
  rfl
 ·have hl':l.length=1:=hl
  show ((Jn x l).bind λ y=>some (Ctl.next (Ev y)))=_
  unfold Jn
  rw [Cv (k:=0) (i:=0) rfl (by omega)]
  simp only [ap]
  rw [(bW (by simp only [aP];omega)).eq]
  rfl
 ·have hl':l.length=1:=hl
  have ht':1<=nuI l 0/\nuI l 0<=60:=ht rfl
  show ((Hz x l).bind λ y=>some (Ctl.next (Ev y)))=_
  rw [Ww x l (by omega) (by omega) (by omega) (by omega) (by omega)]
  rfl
theorem Qj:∀ (l:List Ac) (i k m:Nat) (x:Ab),(∀ c,c∈l->Va c)->SpS k m x->k+l.length<=1000->m+Hg l<=1000->foldI Hb l i (Ev x)=some (.next (Ev (Cu x l)))
 | [],_,_,_,_,_,_,_,_=>rfl
 | c::l,i,k,m,x,hv,hx,hk,hm=>by
  simp only [aR] at hk
  simp only [Hg] at hm
  unfold foldI
  rw [X6 k i c x (hv c ak) (hx.le (by omega) (by omega))]
  exact Qj l (i+1) (k+1) (m+tkN c) (Fz x c) (λ d hd=>hv d (aj c hd)) (S6 hx c (hv c ak)).1 (by omega) (by omega)
def inP (l:List Ac) (t:Int):List Ad×Int:=
 if 80<l.length\/60<tkS l then ([],2) else if (l.any λ c=>!vaB c)=true then ([],74) else if t<0\/2147483648<t then ([],1) else ((Cu (sp0 t) l).out,0)
theorem Q5 (t:Int):SpS 0 0 (sp0 t):=⟨InS.zero 0,ai _,λ y hy=>by simp [sp0] at hy⟩
theorem T8 {l:List Ac} (h:(l.any λ c=>!vaB c)=false):∀ c,c∈l->Va c:=by
 intro c hc
 rw [List.any_eq_false] at h
 have:=h c hc
 refine (Fs c).1 ?_
 cases hv:vaB c with
 | true=>rfl
 | false=>rw [hv] at this;simp at this
theorem Na (l:List Ac) (t:Int) (hl:l.length<=1000000):F13 l t=some (inP l t):=by
 unfold F13 inP
 by_cases h1:80<l.length
 ·have e:decide ((l.length:Int)>80)=true:=by simp;omega
  have ec:∀ y,Lq l y=true:=λ y=>by unfold Lq;rw [e];rfl
  rw [if_pos (.inl h1),e]
  simp only [A9,Da,ec]
  rfl
 ·have e:decide ((l.length:Int)>80)=false:=by simp;omega
  have ec:∀ y,Lq l y=decide (y>60):=λ y=>by unfold Lq;rw [e];rfl
  rw [e,Uv (by omega)]
  simp only [A9,Da,ec,beq_self_eq_true,bC,cond_true,ap]
  by_cases h2:60<tkS l
  ·rw [cH h2,if_pos (.inr h2)];rfl
  ·rw [cI h2, if_neg (λ q => q.elim h1 h2), Ur (by omega)]
   simp only [cond_false,ap]
   cases h3:(l.any λ c=>!vaB c) with
   | true=>rw [if_pos rfl];rfl
   | false=>
    rw [if_neg (by simp)]
    simp only [cond_false]
    have ed:Wp t=(decide (t<0) || decide (t>2147483648)):=rfl
    rw [ed]
    by_cases h4:t<0
    ·rw [cH h4,if_pos (.inl h4)];rfl
    ·by_cases h5:2147483648<t
     ·rw [cH h5,if_pos (.inr h5)];simp
     ·rw [cI h4,cI h5,if_neg (λ q=>q.elim h4 h5)]
      simp only [Bool.or_self,cond_false]
      have hv:=T8 h3
      have hn:=Jb hv
      have:=Qj l 0 0 0 (sp0 t) hv (Q5 t) (by omega) (by omega)
      have e2:foldI Hb l 0 (t,0,0,0,0,0,0,0,0,0,0,0,0,0,0,0,([]:List Am),([]:List Bm),([]:List A1),([]:List Int),([]:List Ad))=some (.next (Ev (Cu (sp0 t) l))):=this
      rw [e2]
      rfl
theorem Zh (l:List Ac) (t:Int):(inP l t).1.length<=1000/\∀ y,y∈(inP l t).1->InS 1000 y:=by
 unfold inP
 split
 ·exact⟨aG _,by simp⟩
 ·rename_i h1
  split
  ·exact⟨aG _,by simp⟩
  ·rename_i h2
   split
   ·exact⟨aG _,by simp⟩
   ·have hv:=T8 (by simpa using h2)
    have hn:=Jb hv
    have h3:=(N4 hv (Q5 t)).1
    refine⟨?_,λ y hy=>(h3.ou y hy).le (by omega)⟩
    have:=h3.ol
    show (Cu (sp0 t) l).out.length<=1000
    omega
set_option linter.unusedVariables false
theorem Sv {ρ:Type} {f:Int->Option (Ctl Int ρ)} (n:Nat) (hc:∀ k:Nat,k<n->f (k:Int)=some (.next ((k+1:Nat):Int))) (he:f (n:Int)=some (.brk (n:Int))):∀ (fuel k:Nat),k<=n->n-k<fuel->whileN f fuel (k:Int)=some (.next (n:Int))
 | 0,_,_,h=>absurd h (Nat.not_lt_zero _)
 | fuel+1,k,hk,hf=>by
  unfold whileN
  by_cases h:k<n
  ·rw [hc k h]
   exact Sv n hc he fuel (k+1) h (by omega)
  ·have:k=n:=by omega
   subst this
   rw [he]
theorem I9 {ρ:Type} {f:Int->Option (Ctl Int ρ)} (n:Nat) (hn:n<=1000000) (hc:∀ k:Nat,k<n->f (k:Int)=some (.next ((k+1:Nat):Int))) (he:f (n:Int)=some (.brk (n:Int))):whileN f 1152921504606846976 0=some (.next (n:Int)):=
 Sv n hc he 1152921504606846976 0 (aG n) (by omega)
theorem Oo {α:Type} {l:List α} {k:Nat} (h:k<l.length):getI l (k:Int)=some l[k]:=by
 unfold getI
 rw [cH (by omega)]
 simp only [cond_true,bh]
 exact al h
theorem Q1 {k:Nat} (h:k<=1000000):w64 ((k:Int)+1)=((k+1:Nat):Int):=by rw [Bv (by omega)];omega
theorem P3 (y:Ad) (h:y.Sights.length<=1000000):whileN (I5 y y) 1152921504606846976 0=some (.next (y.Sights.length:Int)):=by
 refine I9 _ h (λ k hk=>?_) ?_
 ·unfold I5
  have e:Pl y (k:Int)=true:=cH (by omega)
  rw [e,Oo hk]
  simp only [cond_true,ap]
  have e2:Pk y.Sights[k] y.Sights[k]=false:=by simp [Pk]
  rw [e2,Q1 (by omega)];rfl
 ·unfold I5
  have e:Pl y (y.Sights.length:Int)=false:=cI (by omega)
  rw [e];rfl
theorem T_ (y:Ad) (h:y.Acts.length<=1000000):whileN (I4 y y) 1152921504606846976 0=some (.next (y.Acts.length:Int)):=by
 refine I9 _ h (λ k hk=>?_) ?_
 ·unfold I4
  have e:Pj y (k:Int)=true:=cH (by omega)
  rw [e,Oo hk]
  simp only [cond_true,ap]
  have e2:Pi y.Acts[k] y.Acts[k]=false:=by simp [Pi]
  rw [e2,Q1 (by omega)];rfl
 ·unfold I4
  have e:Pj y (y.Acts.length:Int)=false:=cI (by omega)
  rw [e];rfl
theorem P8 (y:Ad) (h:y.Faults.length<=1000000):whileN (I3 y y) 1152921504606846976 0=some (.next (y.Faults.length:Int)):=by
 refine I9 _ h (λ k hk=>?_) ?_
 ·unfold I3
  have e:Ph y (k:Int)=true:=cH (by omega)
  rw [e,Oo hk]
  simp only [cond_true,ap]
  have e2:Pf y.Faults[k] y.Faults[k]=false:=by simp [Pf]
  rw [e2,Q1 (by omega)];rfl
 ·unfold I3
  have e:Ph y (y.Faults.length:Int)=false:=cI (by omega)
  rw [e];rfl
theorem S4 (y:Ad) (h:y.Seen.length<=1000000):whileN (I2 y y) 1152921504606846976 0=some (.next (y.Seen.length:Int)):=by
 refine I9 _ h (λ k hk=>?_) ?_
 ·unfold I2
  have e:Pe y (k:Int)=true:=cH (by omega)
  rw [e,Oo hk]
  simp only [cond_true,ap]
  have e2:(y.Seen[k] != y.Seen[k])=false:=by simp
  rw [e2,Q1 (by omega)];rfl
 ·unfold I2
  have e:Pe y (y.Seen.length:Int)=false:=cI (by omega)
  rw [e];rfl
theorem Vu (a:List Ad) (h:a.length<=1000/\∀ y,y∈a->InS 1000 y):F14 a a=some true:=by
 unfold F14
 have e:((a.length:Int) != (a.length:Int))=false:=by simp
 rw [e]
 simp only [cond_false]
 rw [Ps a 0 λ j y hj=>?_]
 ·rfl
 ·have hlt:=(aa.1 hj).1
  have hs:=h.2 y (aq hj)
  unfold Pz
  rw [aS,Yk (by omega),Oo hlt]
  simp only [ap]
  have ey:a[j]=y:=(aa.1 hj).2
  rw [ey]
  have e2:Pm y y=false:=by simp [Pm]
  rw [e2,P3 y (by have:=hs.si;omega),T_ y (by have:=hs.ac;omega),P8 y (by have:=hs.fa;omega),S4 y (by have:=hs.se;omega)]
  rfl
set_option linter.unusedVariables false
theorem Sn (l:List Ac) (t:Int) (hl:l.length<=1000000):Nq l t=some (inP l t):=Na l t hl
theorem Qk:F6=some true:=by decide +kernel
theorem To {l:List Ac} {t:Int} (hv:∀ c,c∈l->Va c) (hl:l.length<=80) (ht:tkS l<=60) (h0:0<=t) (h1:t<=2147483648):inP l t=((Cu (sp0 t) l).out,0):=by
 unfold inP
 have e:(l.any λ c=>!vaB c)=false:=by
  rw [List.any_eq_false]
  intro c hc
  rw [(Fs c).2 (hv c hc)];simp
 rw [if_neg (by omega),if_neg (by rw [e];simp),if_neg (by omega)]
theorem V1:∀ (l:List Ac) (x:Ab),(∀ c,c∈l->Va c/\c.Kind≠8)->(Cu x l).out=x.out/\tkS l=0
 | [],_,_=>⟨rfl,rfl⟩
 | c::l,x,h=>by
  obtain⟨hv,hk⟩:=h c ak
  obtain⟨h1,h2⟩:=V1 l (Fz x c) λ d hd=>h d (aj c hd)
  have e:=D_ hv.k0 hv.k1
  refine⟨h1.trans ?_,?_⟩
  ·unfold Fz
   generalize c.Kind=K at e hk ⊢
   rcases e with rfl | rfl | rfl | rfl | rfl | rfl | rfl | rfl
   all_goals first | rfl | exact absurd rfl hk
  ·unfold tkS tkI
   have:(c.Kind==8)=false:=by simpa using hk
   rw [this,h2];rfl
structure Y2 (k:Nat) (z:Sg1):Prop where
 src:B_ ⟨z.2.2.1,z.2.2.2.1⟩
 va:∀ c,c∈z.2.2.2.2->Va c
 len:z.2.2.2.2.length=k
 sum:z.1=tkS z.2.2.2.2
 few:tkS z.2.2.2.2<=4*(k:Int)
 la0:0<=z.2.1
 la1:z.2.1<=k
 qu:∀ c,c∈z.2.2.2.2.drop z.2.1.toNat->c.Kind≠8
theorem counts_ok (x0:List Int):F4 x0=some true:=by
 unfold F4
 cases hl:decide ((x0.length:Int)>600) with
 | true=>simp only [cond_true];rw [Qk];rfl
 | false=>
  simp only [cond_false]
  refine Ok.eq ?_
  refine (Yz x0).bind λ s hs=>(Qe hs 10 (by omega) (by omega)).bind λ y hy=>?_
  obtain⟨hs1,hv,hn⟩:=hy
  refine Ok.andThen (A:=Y2 y.1.length) (B:=λ _=>False) ?_ (λ z hz=>?_) λ v hv=>hv.elim
  ·refine cD Y2 ⟨hs1,by simp,rfl,rfl,by simp [tkS],by simp,by simp,by simp⟩ (λ j c z hj hz=>?_) λ z hz=>hz
   have hc:=hv c (aq hj)
   have hj':=(aa.1 hj).1
   obtain⟨a1,a2,a3,a4,a5,a6,a7,a8⟩:=hz
   have ht:=Ns z.2.2.2.2
   unfold Sq
   refine bX (λ h=>?_) λ h=>?_
   ·have hk:c.Kind=8:=by simpa using h
    refine (Nm a1 4 (by omega) (by omega)).bind λ p hp=>?_
    have ew:w64 (1+p.1)=1+p.1:=Bv (by omega)
    rw [ew]
    have eg:getI [1+p.1] 0=some (1+p.1):=rfl
    rw [eg]
    simp only [ap]
    refine (bW (by simp only [aP,a3];omega)).bind λ q hq=>?_
    subst hq
    have hva:Va (⟨c.Kind,[1+p.1]⟩:Ac):=by
     refine⟨hc.k0,hc.k1,by show 1=C_ c.Kind;rw [hk];rfl,λ n hn=>?_,λ _=>?_⟩
     ·have:n=1+p.1:=by simpa using hn
      omega
     ·show 1<=1+p.1/\1+p.1<=60
      omega
    have htk:tkI (⟨c.Kind,[1+p.1]⟩:Ac)=1+p.1:=by
     unfold tkI
     rw [(Fs _).2 hva]
     show (bif (c.Kind==8)&&true then 1+p.1 else 0)=_
     rw [hk];rfl
    have hsum:tkS (z.2.2.2.2++[(⟨c.Kind,[1+p.1]⟩:Ac)])=tkS z.2.2.2.2+(1+p.1):=by
     rw [Ja]
     show _+(tkI _+0)=_
     rw [htk];omega
    have el:((z.2.2.2.2.length:Int)+1)=((j+1:Nat):Int):=by rw [a3];omega
    rw [el,Bv (n:=((j+1:Nat):Int)) (by omega),Bv (n:=z.1+(1+p.1)) (by rw [a4];omega)]
    refine ch ⟨hp.1,λ d hd=>?_,?_,?_,?_,?_,?_,?_⟩
    ·rcases az.1 hd with q | q
     ·exact a2 d q
     ·rw [bp.1 q];exact hva
    ·show (z.2.2.2.2++[_]).length=j+1
     rw [aK,aP,a3]
    ·show z.1+(1+p.1)=tkS (z.2.2.2.2++[_])
     rw [hsum,a4]
    ·show tkS (z.2.2.2.2++[_])<=4*((j+1:Nat):Int)
     rw [hsum];omega
    ·show 0<=((j+1:Nat):Int)
     omega
    ·exact Int.le_refl _
    ·intro d hd
     replace hd:d∈(z.2.2.2.2++[(⟨c.Kind,[1+p.1]⟩:Ac)]).drop ((j+1:Nat):Int).toNat:=hd
     rw [bh,List.drop_eq_nil_of_le (by rw [aK,aP,a3];exact ai _)] at hd
     simp at hd
   ·have hk:c.Kind≠8:=by simpa using h
    refine (bW (by simp only [aP,a3];omega)).bind λ q hq=>?_
    subst hq
    have htk:tkI c=0:=by
     unfold tkI
     have:(c.Kind==8)=false:=by simpa using hk
     rw [this];rfl
    have hsum:tkS (z.2.2.2.2++[c])=tkS z.2.2.2.2:=by
     rw [Ja]
     show _+(tkI _+0)=_
     rw [htk];omega
    refine ch ⟨a1,λ d hd=>?_,?_,?_,?_,?_,?_,?_⟩
    ·rcases az.1 hd with q | q
     ·exact a2 d q
     ·rw [bp.1 q];exact hc
    ·show (z.2.2.2.2++[_]).length=j+1
     rw [aK,aP,a3]
    ·show z.1=tkS (z.2.2.2.2++[_])
     rw [hsum,a4]
    ·show tkS (z.2.2.2.2++[_])<=4*((j+1:Nat):Int)
     rw [hsum];omega
    ·exact a6
    ·show z.2.1<=((j+1:Nat):Int)
     omega
    ·intro d hd
     replace hd:d∈(z.2.2.2.2++[c]).drop z.2.1.toNat:=hd
     rw [List.drop_append_of_le_length (by rw [a3];omega)] at hd
     rcases az.1 hd with q | q
     ·exact a8 d q
     ·rw [bp.1 q];exact hk
  ·obtain⟨a1,a2,a3,a4,a5,a6,a7,a8⟩:=hz
   have ht:=Ns z.2.2.2.2
   have hva:=a2
   have hsplit:z.2.2.2.2.take z.2.1.toNat++z.2.2.2.2.drop z.2.1.toNat=z.2.2.2.2:=List.take_append_drop _ _
   have hq:=V1 (z.2.2.2.2.drop z.2.1.toNat) (Cu (sp0 3) (z.2.2.2.2.take z.2.1.toNat)) λ c hc=>⟨a2 c (bO hc),a8 c hc⟩
   have h1:inP z.2.2.2.2 3=((Cu (sp0 3) z.2.2.2.2).out,0):=To a2 (by omega) (by omega) (by omega) (by omega)
   have h2:inP (z.2.2.2.2.take z.2.1.toNat) 3=((Cu (sp0 3) (z.2.2.2.2.take z.2.1.toNat)).out,0):=by
    refine To (λ c hc=>a2 c (bf hc)) ?_ ?_ (by omega) (by omega)
    ·rw [aD];omega
    ·have:=Ja (z.2.2.2.2.take z.2.1.toNat) (z.2.2.2.2.drop z.2.1.toNat)
     rw [hsplit,hq.2] at this
     omega
   have h3:(Cu (sp0 3) z.2.2.2.2).out=(Cu (sp0 3) (z.2.2.2.2.take z.2.1.toNat)).out:=by
    have:Cu (sp0 3) z.2.2.2.2=Cu (Cu (sp0 3) (z.2.2.2.2.take z.2.1.toNat)) (z.2.2.2.2.drop z.2.1.toNat):=by
     unfold Cu
     rw [←List.foldl_append,hsplit]
    rw [this,hq.1]
   have h4:((Cu (sp0 3) z.2.2.2.2).out.length:Int)=z.1:=by
    have q1:=(N4 hva (Q5 3)).2
    have q2:=Jb hva
    rw [q1,a4,←q2]
    show (((0:Nat)+_:Nat):Int)=_
    omega
   rw [Sn _ 3 (by omega),h1]
   simp only [ap]
   refine (Ok.cutI (by omega) (by omega) (by omega)).bind λ c hc=>?_
   have hc':c=z.2.2.2.2.take z.2.1.toNat:=by
    rw [hc];simp
   rw [hc',Na _ 3 (by rw [aD];omega),h2,←h3]
   simp only [ap]
   have hb:=Zh z.2.2.2.2 3
   rw [h1] at hb
   rw [Vu _ hb,Qk]
   have e4:(((Cu (sp0 3) z.2.2.2.2).out.length:Int)==z.1)=true:=by rw [h4];simp
   rw [e4]
   exact⟨true,rfl,rfl⟩
end Go.Proofs.YtaplakgdkkmpfaaDoor
