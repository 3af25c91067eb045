import Derived.Test.YtaplakgdkkmpfaaGreatDoorMo
import Derived.Test.YtaplakgdkkmpfaaGreatDoorHo
import Derived.Lib.AtoiTie
namespace Go.Proofs.YtaplakgdkkmpfaaGreatDoor
open Go.SL
set_option linter.unusedVariables false
theorem Mr {x n:Int} (h:0<n):-n<Int.tmod x n/\Int.tmod x n<n:=by
 have h1:=Int.tmod_lt_of_pos x h
 have h2:=Int.lt_tmod_of_pos x h
 exact⟨h2,h1⟩
theorem Tf {x n:Int} (h:0<n) (h0:0<=x):0<=Int.tmod x n/\Int.tmod x n<n:=⟨Int.tmod_nonneg n h0,(Mr h).2⟩
structure B_ (s:Ad):Prop where
 lo:0<=s.At
 hi:s.At<=s.L.length
 len:s.L.length<=600
def InR (n r:Int):Prop:=(1<=n->0<=r/\r<n)/\(n<1->r=0)
theorem Sf (x n:Int) (h:n<=4611686018427387904):Ok (F18 x n) (InR n):=by
 unfold F18
 refine cm (λ h1=>?_) λ h1=>?_
 ·simp only [cR] at h1
  exact cb ⟨λ h2=>by omega,λ _=>rfl⟩
 ·simp only [cS] at h1
  refine (Ok.nzI (by omega)).bind λ _ _=>(Ok.nzI (by omega)).bind λ _ _=>cb ⟨λ _=>?_,λ h2=>by omega⟩
  have h2:=Mr (x:=x) (n:=n) (by omega)
  rw [A_ (by omega)]
  exact Tf (by omega) (by omega)
theorem yO {s:Ad} (hs:B_ s) (n:Int) (h:n<=4611686018427387904):Ok (F8 s n) λ y=>B_ y.2/\InR n y.1:=by
 obtain⟨h1,h2,h3⟩:=hs
 unfold F8
 refine cm (λ h4=>?_) λ h4=>?_
 ·exact cb ⟨⟨h1,h2,h3⟩,λ h5=>⟨by simp,by show (0:Int)<n;omega⟩,λ _=>rfl⟩
 ·simp only [cS] at h4
  have e:w64 (s.At+1)=s.At+1:=A_ (by omega)
  rw [e,A_ (n:=s.At+1-1) (by omega)]
  refine (ct (by omega) (by omega)).bind λ x _=>(Sf x n h).bind λ r hr=>cb ⟨⟨?_,?_,h3⟩,hr⟩
  ·show 0<=s.At+1;omega
  ·show s.At+1<=(s.L.length:Int);omega
theorem Py {s:Ad} (hs:B_ s) (n:Int) (h0:1<=n) (h:n<=4611686018427387904):Ok (F8 s n) λ y=>B_ y.2/\0<=y.1/\y.1<n:=
 (yO hs n h).mono λ _ h=>⟨h.1,h.2.1 h0⟩
theorem Zc {s:Ad} (hs:B_ s) (lo hi:Int) (h:lo<=hi) (h0:-1000000000000<=lo) (h1:hi<=1000000000000):Ok (F9 s lo hi) λ y=>B_ y.2/\lo<=y.1/\y.1<=hi:=by
 unfold F9
 have e:w64 (w64 (hi-lo)+1)=hi-lo+1:=by rw [A_ (n:=hi-lo) (by omega),A_ (by omega)]
 rw [e]
 refine (Py hs _ (by omega) (by omega)).bind λ y hy=>cb ⟨hy.1,?_⟩
 have:=hy.2
 show lo<=w64 (lo+y.1)/\w64 (lo+y.1)<=hi
 rw [A_ (by omega)]
 omega
theorem Tx {s:Ad} (hs:B_ s) (l:List Int) (h:1<=l.length) (h1:l.length<=1000):Ok (F10 s l) λ y=>B_ y.2/\y.1∈l:=by
 unfold F10
 refine (Py hs _ (by omega) (by omega)).bind λ y hy=>?_
 have:=hy.2
 refine (ct (by omega) (by omega)).bind λ x hx=>cb ⟨hy.1,aq hx⟩
theorem uY (l:List Int):Ok (F6 l) B_:=by
 unfold F6
 refine (Ok.cutI (by omega) (by omega) (by omega)).bind λ y hy=>cb ⟨by simp,by simp,?_⟩
 subst hy
 simp only [bi,aB]
 omega
def inB (n:Int):Bool:=decide (-1000000000<=n)&&decide (n<=1000000000)
def Bu (k:Int):Nat:=([0,3,2,2,7,4,1,1,1]:List Nat)[k.toNat]?.getD 0
def H1 (l:List Int):Int:=l[0]?.getD 0
def vaB (c:Aa):Bool:=decide (1<=c.Kind)&&(decide (c.Kind<=8)&&(c.Numbers.length==Bu c.Kind&&(c.Numbers.all inB&&(c.Kind != 8 || (decide (1<=H1 c.Numbers)&&decide (H1 c.Numbers<=60))))))
structure Va (c:Aa):Prop where
 k0:1<=c.Kind
 k1:c.Kind<=8
 len:c.Numbers.length=Bu c.Kind
 inr:∀ n,n∈c.Numbers -> -1000000000<=n/\n<=1000000000
 tick:c.Kind=8->1<=H1 c.Numbers/\H1 c.Numbers<=60
theorem Gb (c:Aa):vaB c=true↔Va c:=by
 unfold vaB
 constructor
 ·intro h
  simp only [af,aR,cR,aM,inB,bne_iff_ne,ne_eq,beq_iff_eq] at h
  obtain⟨a,b,d,e,f⟩:=h
  exact⟨a,b,d,e,λ hk=>f.resolve_left λ q=>q hk⟩
 ·rintro⟨a,b,d,e,f⟩
  simp only [af,aR,cR,aM,inB,bne_iff_ne,ne_eq,beq_iff_eq]
  refine⟨a,b,d,e,?_⟩
  by_cases hk:c.Kind=8
  ·exact .inr (f hk)
  ·exact .inl hk
theorem K_:∀ (l:List Int) (k:Nat),foldI (Kk 1000000000) l k ()=bif l.all inB then some (.next ()) else some (.ret false)
 | [],_=>rfl
 | n::l,k=>by
  unfold foldI
  have e:Kk 1000000000 k n ()=bif inB n then some (.next ()) else some (.ret false):=by
   unfold Kk Zw inB
   have:w64 (0-1000000000) = -1000000000:=A_ (by omega)
   rw [this]
   have q1:decide (n < -1000000000) = !decide (-1000000000<=n):=by
    by_cases h:-1000000000<=n
    ·rw [cT h,cU (by omega)];rfl
    ·rw [cU h,cT (by omega)];rfl
   have q2:decide (n>1000000000) = !decide (n<=1000000000):=by
    by_cases h:n<=1000000000
    ·rw [cT h,cU (by omega)];rfl
    ·rw [cU h,cT (by omega)];rfl
   rw [q1,q2]
   cases decide (-1000000000<=n) <;> cases decide (n<=1000000000) <;> rfl
  rw [e,List.all_cons]
  cases inB n with
  | true=>simp only [cond_true,bm];exact K_ l (k+1)
  | false=>rfl
theorem Xl (l:List Int):F30 1000000000 l=some (l.all inB):=by
 unfold F30
 rw [K_]
 cases l.all inB with
 | true=>rfl
 | false=>rfl
theorem C6 {k:Int} (h0:1<=k) (h1:k<=8):k=1\/k=2\/k=3\/k=4\/k=5\/k=6\/k=7\/k=8:=by omega
def N_ (k:Int):As:=(F44)[(k-1).toNat]?.getD default
theorem Q8 {k:Int} (h0:1<=k) (h1:k<=8):getI F44 (w64 (k-1))=some (N_ k):=by
 rcases C6 h0 h1 with rfl | rfl | rfl | rfl | rfl | rfl | rfl | rfl <;> rfl
theorem Yy {k:Int} (h0:1<=k) (h1:k<=8):(N_ k).numbers=(Bu k:Int):=by
 rcases C6 h0 h1 with rfl | rfl | rfl | rfl | rfl | rfl | rfl | rfl <;> rfl
theorem Tr {k:Int}:I9 k=(decide (k<1) || decide (k>8)):=rfl
theorem Mk (c:Aa):F13 c=some (vaB c):=by
 unfold F13
 rw [Tr,Xl]
 by_cases h0:1<=c.Kind
 ·by_cases h1:c.Kind<=8
  ·rw [cU (by omega), cU (by omega)]
   simp only [Bool.or_self,cond_false]
   rw [Q8 h0 h1]
   simp only [aj,Zy]
   rw [Yy h0 h1]
   unfold vaB
   rw [cT h0,cT h1]
   by_cases hl:c.Numbers.length=Bu c.Kind
   ·have e1:((c.Numbers.length:Int) != (Bu c.Kind:Int))=false:=by rw [hl];simp
    have e2:(c.Numbers.length==Bu c.Kind)=true:=by rw [hl];simp
    rw [e1,e2]
    simp only [An,B0,beq_self_eq_true,aS,cond_true,aj,bn,bm]
    cases ha:c.Numbers.all inB with
    | false=>rfl
    | true=>
     simp only [bv,cond_false,bm]
     by_cases hk:c.Kind=8
     ·have e3:(c.Kind != 8)=false:=by rw [hk];rfl
      rw [e3]
      simp only [beq_self_eq_true,cond_true,bn]
      have hl':c.Numbers.length=1:=by rw [hl,hk];rfl
      obtain⟨n,hn⟩:=List.length_eq_one_iff.1 hl'
      rw [hn]
      have eg:getI [n] 0=some n:=rfl
      rw [eg]
      have:H1 [n]=n:=rfl
      simp only [aj,bm,this]
      by_cases hn1:n>=1
      ·rw [cT hn1];simp
      ·rw [cU hn1];simp
     ·have e3:(c.Kind != 8)=true:=by simpa using hk
      rw [e3]
      simp
   ·have e1:((c.Numbers.length:Int) != (Bu c.Kind:Int))=true:=by simp;omega
    have e2:(c.Numbers.length==Bu c.Kind)=false:=by simp;omega
    rw [e1,e2]
    simp [An,B0]
  ·rw [cT (show c.Kind>8 by omega)]
   simp only [Bool.or_true,cond_true,vaB]
   rw [cU h1]
   simp [An,B0]
 ·rw [cT (show c.Kind<1 by omega)]
  simp only [Bool.true_or,cond_true,vaB]
  rw [cU h0]
  simp [An,B0]
theorem Va.of {c:Aa} (h:Va c):F13 c=some true:=by rw [Mk,(Gb c).2 h]
theorem X9 {l:List Aa} (h:l.length<=9223372036854775807):F24 l=some (l.any λ c=>!vaB c):=by
 have h1:∀ c,F39 c=some (!vaB c):=λ c=>by
  unfold F39
  rw [Mk];rfl
 unfold F24 P3 P0
 rw [V2 (λ c=>!vaB c) (λ i x=>by
  unfold Ml
  rw [h1];rfl) l h]
 simp only [aj]
 rw [Yw]
theorem qW {s:Ad} (hs:B_ s) (n:Nat) (hn:n<=10):Ok (whileN Nv 1152921504606846976 ((n:Int),s.L,s.At,([]:List Int)))
  (G6 (λ z=>B_ ⟨z.2.1,z.2.2.1⟩/\z.2.2.2.length=n/\∀ x,x∈z.2.2.2 -> -1000000000<=x/\x<=1000000000) λ _=>False):=by
 refine cr (λ z=>B_ ⟨z.2.1,z.2.2.1⟩/\0<=z.1/\z.1<=10/\z.1+(z.2.2.2.length:Int)=n/\∀ x,x∈z.2.2.2 -> -1000000000<=x/\x<=1000000000) (λ z=>z.1.toNat) _ _ ⟨hs,by omega,by omega,by simp,by simp⟩ (by omega) ?_
 rintro⟨k,L,A,out⟩ ⟨h1,h2,h3,h4,h5⟩
 simp only at h1 h2 h3 h4 h5 ⊢
 unfold Nv
 refine cm (λ h6=>?_) λ h6=>?_
 ·simp only [cR] at h6
  refine (Tx h1 _ (by simp) (by simp)).bind λ y hy=>(cf (by simp;omega)).bind λ z hz=>?_
  subst hz
  rw [A_ (by omega)]
  refine cC ⟨⟨hy.1,by show 0<=k-1;omega,by show k-1<=10;omega,by simp;omega,λ x hx=>?_⟩,by show (k-1).toNat<k.toNat;omega⟩
  simp only [az,bt] at hx
  rcases hx with hx | hx
  ·exact h5 x hx
  ·subst hx
   have:=hy.2
   simp at this
   omega
 ·simp only [cS] at h6
  exact cK ⟨h1,by show out.length=n;omega,h5⟩
theorem Ux {s:Ad} (hs:B_ s):Ok (F23 s) λ y=>B_ y.2/\Va y.1:=by
 unfold F23
 refine (Zc hs 1 8 (by omega) (by omega) (by omega)).bind λ y hy=>?_
 obtain⟨hs1,h1,h2⟩:=hy
 have hk:getI ([0,3,2,2,7,4,1,1,1]:List Int) y.1=some (Bu y.1:Int):=by
  rcases C6 h1 h2 with h | h | h | h | h | h | h | h <;> rw [h] <;> rfl
 have hn:Bu y.1<=10:=by
  rcases C6 h1 h2 with h | h | h | h | h | h | h | h <;> rw [h] <;> decide
 rw [hk]
 simp only [aj]
 refine (qW hs1 _ hn).andThen (λ z hz=>?_) λ v hv=>hv.elim
 obtain⟨hs2,hl,hin⟩:=hz
 refine cm (λ h=>?_) λ h=>?_
 ·simp only [beq_iff_eq] at h
  have hl1:z.2.2.2.length=1:=by rw [hl,h];rfl
  obtain⟨n,hn⟩:=List.length_eq_one_iff.1 hl1
  refine (Tx hs2 _ (by simp) (by simp)).bind λ p hp=>?_
  rw [hn]
  refine (ct (by omega) (by simp)).bind λ _ _=>(cI (by omega) (by simp)).bind λ q hq=>?_
  subst hq
  have:=hp.2
  simp at this
  refine cb ⟨hp.1,by show 1<=y.1;omega,by show y.1<=8;omega,?_,λ x hx=>?_,λ _=>?_⟩
  ·show 1=Bu y.1
   rw [h];rfl
  ·have hx':x=p.1:=by simpa using hx
   omega
  ·show 1<=p.1/\p.1<=60
   omega
 ·have h':y.1≠8:=by simpa using h
  exact cb ⟨hs2,by show 1<=y.1;omega,by show y.1<=8;omega,hl,hin,λ q=>absurd q h'⟩
theorem S_ {s:Ad} (hs:B_ s) (n:Int) (h0:0<=n) (h1:n<=1000):Ok (F7 s n) λ y=>B_ y.2/\(∀ c,c∈y.1->Va c)/\(y.1.length:Int)<=n:=by
 unfold F7
 rw [A_ (by omega)]
 refine (Py hs _ (by omega) (by omega)).bind λ y hy=>?_
 obtain⟨hs1,h2,h3⟩:=hy
 refine Ok.andThen (A:=λ z=>B_ ⟨z.2.1,z.2.2.1⟩/\(∀ c,c∈z.2.2.2->Va c)/\(z.2.2.2.length:Int)<=n) (B:=λ _=>False) ?_ (λ z hz=>cb ⟨hz.1,hz.2.1,hz.2.2⟩) λ v hv=>hv.elim
 refine cr (λ z=>B_ ⟨z.2.1,z.2.2.1⟩/\0<=z.1/\z.1<=1000/\z.1+(z.2.2.2.length:Int)<=n/\∀ c,c∈z.2.2.2->Va c) (λ z=>z.1.toNat) _ _ ⟨hs1,by show 0<=y.1;omega,by show y.1<=1000;omega,by show y.1+((0:Nat):Int)<=n;omega,by simp⟩ (by show y.1.toNat<_;omega) ?_
 rintro⟨k,L,A,out⟩ ⟨h4,h5,h6,h7,h8⟩
 simp only at h4 h5 h6 h7 h8 ⊢
 unfold Vk
 refine cm (λ h9=>?_) λ h9=>?_
 ·simp only [cR] at h9
  refine (Ux h4).bind λ c hc=>(cf (by simp;omega)).bind λ z hz=>?_
  subst hz
  rw [A_ (by omega)]
  refine cC ⟨⟨hc.1,by show 0<=k-1;omega,by show k-1<=1000;omega,by simp;omega,λ x hx=>?_⟩,by show (k-1).toNat<k.toNat;omega⟩
  simp only [az,bt] at hx
  rcases hx with hx | hx
  ·exact h8 x hx
  ·subst hx;exact hc.2
 ·exact cK ⟨h4,h8,by show (out.length:Int)<=n;omega⟩
set_option linter.unusedVariables false
set_option linter.unusedSimpArgs false
open Go Go.SL
def B2:List UInt8->List (List UInt8)
 | []=>[[]]
 | c::r=>if c=32 then []::B2 r else match B2 r with
  | []=>[[c]]
  | w::ws=>(c::w)::ws
theorem Io:∀ (l:List UInt8),(Lib.indexByte l 32 = -1/\B2 l=[l]/\l.count 32=0) \/
  ∃ i:Nat,Lib.indexByte l 32=i/\i<l.length/\B2 l=l.take i::B2 (l.drop (i+1))/\l.count 32=(l.drop (i+1)).count 32+1
 | []=>.inl ⟨rfl,rfl,rfl⟩
 | c :: r => by
  by_cases hc:c=32
  ·subst hc
   refine .inr ⟨0,?_,by simp,?_,?_⟩
   ·unfold Lib.indexByte;rfl
   ·simp [B2]
   ·simp
  ·have hb:(c==32)=false:=by simpa using hc
   rcases Io r with⟨h1,h2,h3⟩ | ⟨i,h1,h2,h3,h4⟩
   ·refine .inl ⟨?_,?_,?_⟩
    ·unfold Lib.indexByte;rw [hb,h1];rfl
    ·unfold B2;rw [if_neg hc,h2]
    ·rw [List.count_cons_of_ne (by simpa using hc),h3]
   ·refine .inr ⟨i+1,?_,by simp only [ap];omega,?_,?_⟩
    ·unfold Lib.indexByte
     rw [hb,h1]
     have:(((i:Nat):Int) == -1)=false:=by simp
     rw [this];simp
    ·rw [B2,if_neg hc,h3];rfl
    ·rw [List.count_cons_of_ne (by simpa using hc),h4];rfl
theorem Ki (l:List UInt8):(⟨l.toArray⟩:ByteArray).data.toList=l:=rfl
theorem I4 (s:ByteArray) (a b:Nat):(s.extract a b).data.toList=(s.data.toList.drop a).take (b-a):=by
 simp only [ByteArray.data_extract,Array.toList_extract]
theorem Ow:∀ (k:Nat) (s:ByteArray),s.data.toList.count 32=k->(Lib.splitB Cw 0 k s).map (·.data.toList)=B2 s.data.toList
 | 0,s,h=>by
  rcases Io s.data.toList with⟨h1,h2,h3⟩ | ⟨i,h1,h2,h3,h4⟩
  ·rw [h2];rfl
  ·omega
 | k+1,s,h=>by
  rcases Io s.data.toList with⟨h1,h2,h3⟩ | ⟨i,h1,h2,h3,h4⟩
  ·omega
  ·have hix:Lib.indexB s Cw=(i:Int):=by
    show Lib.index s.data.toList [32]=_
    rw [Lib.index_one,h1]
   rw [Lib.splitB_hit Cw 0 k s i hix,aJ,h3,I4]
   have e1:(s.extract (i+Cw.size) s.size).data.toList=s.data.toList.drop (i+1):=by
    rw [I4]
    refine bF ?_
    rw [bi,Lib.size_eq]
    exact ae _
   rw [Ow k _ (by rw [e1];omega),e1]
   simp
theorem Vw (s:ByteArray):(C8 s).map (·.data.toList)=B2 s.data.toList:=by
 unfold C8
 refine Ow _ s ?_
 exact (Lib.count_one 32 s.data.toList).symm
def NoB (b:UInt8) (l:List UInt8):Prop:=∀ c,c∈l->c≠b
theorem Ld:∀ {w:List UInt8} (r:List UInt8),NoB 32 w->B2 (w++32::r)=w::B2 r
 | [],r,_=>by simp [B2]
 | c::w,r,h=>by
  have hc:c≠32:=h c ak
  rw [bq,B2,if_neg hc,Ld r λ d hd=>h d (ai c hd)]
theorem Mw:∀ {w:List UInt8},NoB 32 w->B2 w=[w]
 | [],_=>rfl
 | c::w,h=>by
  have hc:c≠32:=h c ak
  rw [B2,if_neg hc,Mw λ d hd=>h d (ai c hd)]
def Be (ws:List (List UInt8)):List UInt8:=(ws.map (32 :: ·)).flatten
theorem Jn:∀ (ws:List (List UInt8)) {w:List UInt8},NoB 32 w->(∀ x,x∈ws->NoB 32 x)->B2 (w++Be ws)=w::ws
 | [],w,h,_=>by simp [Be,Mw h]
 | x::ws,w,h,h2=>by
  have e:Be (x::ws)=32::(x++Be ws):=by simp [Be]
  rw [e,Ld _ h,Jn ws (h2 x ak) λ y hy=>h2 y (ai x hy)]
def DgB (c:UInt8):Prop:=48<=c.toNat/\c.toNat<=57
theorem Nk {d:Nat} (h:d<10):(UInt8.ofNat (48+d)).toNat=48+d:=by
 rw [UInt8.toNat_ofNat']
 omega
theorem Ew (u:Nat):∀ c,c∈Lib.decDigits u->DgB c:=by
 induction u using Nat.strongRecOn with
 | _ u ih=>
  intro c hc
  rw [Lib.decDigits] at hc
  split at hc
  ·rename_i h
   rw [bt] at hc
   subst hc
   have:=Nk h
   unfold DgB;omega
  ·rename_i h
   rcases az.1 hc with q | q
   ·exact ih (u / 10) (by omega) c q
   ·rw [bt] at q
    subst q
    have:=Nk (d:=u % 10) (by omega)
    unfold DgB;omega
theorem Lr:∀ (l m:List UInt8) (acc:Nat),Lib.decFrom acc (l++m)=(Lib.decFrom acc l).bind λ a=>Lib.decFrom a m
 | [],_,_=>rfl
 | c::l,m,acc=>by
  rw [bq,Lib.decFrom,Lib.decFrom]
  cases Lib.digitVal c with
  | none=>rfl
  | some d=>exact Lr l m _
theorem H7 (u:Nat):Lib.decFrom 0 (Lib.decDigits u)=some u:=by
 induction u using Nat.strongRecOn with
 | _ u ih=>
  rw [Lib.decDigits]
  split
  ·rename_i h
   have:=Nk h
   rw [Lib.decFrom]
   have e:Lib.digitVal (UInt8.ofNat (48+u))=some u:=by
    unfold Lib.digitVal
    rw [this,if_pos (by omega)];congr 1;omega
   rw [e]
   simp [Lib.decFrom]
  ·rename_i h
   rw [Lr,ih (u / 10) (by omega)]
   have:=Nk (d:=u % 10) (by omega)
   simp only [aj]
   rw [Lib.decFrom]
   have e:Lib.digitVal (UInt8.ofNat (48+u % 10))=some (u % 10):=by
    unfold Lib.digitVal
    rw [this,if_pos (by omega)];congr 1;omega
   rw [e]
   simp only [Lib.decFrom,ah]
   omega
theorem Dl (u:Nat):Lib.decDigits u≠[]:=by
 intro h
 have:=Lib.decDigits_length u
 rw [h] at this
 have:=Lib.nDigits_pos u
 simp at *
 omega
theorem Jg (u:Nat):Lib.decNat (Lib.decDigits u)=some u:=by
 unfold Lib.decNat
 have:(Lib.decDigits u).isEmpty=false:=by
  cases h:Lib.decDigits u with
  | nil=>exact absurd h (Dl u)
  | cons _ _=>rfl
 rw [this]
 simp only [Bool.false_eq_true,if_false]
 exact H7 u
theorem Iw:∀ {u:Nat},u<=1000000000->Lib.nDigits u<=10:=by
 intro u h
 by_cases h0:Lib.nDigits u<=10
 ·exact h0
 ·have h1:∀ (k v:Nat),Lib.nDigits v=k+1->1<=v->10 ^ k<=v:=by
   intro k
   induction k with
   | zero=>intro v _ h;simpa using h
   | succ k ih=>
    intro v hv h1
    by_cases hs:v<10
    ·rw [Lib.nDigits_small hs] at hv;omega
    ·rw [Lib.nDigits_big hs] at hv
     have:=ih (v / 10) (by omega) (by omega)
     rw [Nat.pow_succ];omega
  have hu:1<=u:=by
   rcases Nat.eq_zero_or_pos u with e | e
   ·subst e;rw [Lib.nDigits_small (by omega)] at h0;omega
   ·exact e
  obtain⟨k,hk⟩:∃ k,Lib.nDigits u=k+1:=⟨Lib.nDigits u-1,by omega⟩
  have h2:=h1 k u hk hu
  have h3:10 ^ 10<=10 ^ k:=Nat.pow_le_pow_right (by omega) (by omega)
  have:(10:Nat) ^ 10=10000000000:=by decide
  omega
theorem Gt {n:Int} (h:-1000000000<=n/\n<=1000000000):(Lib.itoa n).length<=11:=by
 unfold Lib.itoa
 split
 ·rw [ap,Lib.decDigits_length]
  have:=Iw (u:=n.natAbs) (by omega)
  omega
 ·rw [Lib.decDigits_length]
  have:=Iw (u:=n.toNat) (by omega)
  omega
theorem Xj (n:Int):Lib.atoi (Lib.itoa n)=some n:=by
 unfold Lib.itoa
 split
 ·rename_i h
  unfold Lib.atoi
  simp only [beq_self_eq_true,if_true,Jg,bP,ah]
  omega
 ·rename_i h
  have hd:=Ew n.toNat
  have hn:=Jg n.toNat
  cases hl:Lib.decDigits n.toNat with
  | nil=>exact absurd hl (Dl _)
  | cons c r=>
   rw [hl] at hd hn
   have hc:=hd c ak
   unfold DgB at hc
   unfold Lib.atoi
   have h1:(c==45)=false:=by
    have:c≠45:=λ e=>by subst e;simp at hc
    simpa using this
   have h2:(c==43)=false:=by
    have:c≠43:=λ e=>by subst e;simp at hc
    simpa using this
   simp only [h1,h2,Bool.false_eq_true,if_false,hn,bP,ah]
   omega
theorem R7 {n:Int} (h:-1000000000<=n/\n<=1000000000):Lib.atoiAll (Lib.itoa n) = .ok n:=by
 rw [Lib.atoiAll_short _ (by have:=Gt h;omega),Xj];rfl
theorem Kx (n:Int) (b:UInt8) (hb:b=32\/b=10):NoB b (Lib.itoa n):=by
 have hd:∀ u,NoB b (Lib.decDigits u):=λ u c hc e=>by
  have:=Ew u c hc
  unfold DgB at this
  subst e
  rcases hb with e | e <;> (subst e;simp at this)
 unfold Lib.itoa
 split
 ·intro c hc
  rcases ag.1 hc with q | q
  ·subst q
   rcases hb with e | e <;> subst e <;> decide
  ·exact hd _ c q
 ·exact hd _
theorem Q5 {n:Int} (h:-1000000000<=n/\n<=1000000000):M6 n=some ⟨(Lib.itoa n).toArray⟩:=by
 unfold M6
 rw [cT (by omega),cT (by omega)];rfl
def Dq (k:Int):List UInt8:=kw[(k-1).toNat]?.getD []
def Cg (c:Aa):List UInt8:=Dq c.Kind++Be (c.Numbers.map Lib.itoa)
def A7 (c:Aa):List UInt8:=Cg c++[10]
theorem E3 {k:Int} (h0:1<=k) (h1:k<=8):Gs (Dq k)=k/\(∀ c,c∈Dq k->c≠32/\c≠10)/\(Dq k).length<=7/\(N_ k).word=⟨(Dq k).toArray⟩:=by
 rcases C6 h0 h1 with rfl | rfl | rfl | rfl | rfl | rfl | rfl | rfl <;> exact⟨by decide,by decide,by decide,rfl⟩
theorem Ou:∀ (ns:List Int),(∀ n,n∈ns -> -1000000000<=n/\n<=1000000000)->(Be (ns.map Lib.itoa)).length<=12*ns.length
 | [],_=>by simp [Be]
 | n::ns,h=>by
  have h1:=Gt (h n ak)
  have h2:=Ou ns λ m hm=>h m (ai n hm)
  have e:Be ((n::ns).map Lib.itoa)=32::(Lib.itoa n++Be (ns.map Lib.itoa)):=by simp [Be]
  rw [e]
  simp only [ap,ay]
  omega
theorem P5:∀ (ns:List Int),NoB 10 (Be (ns.map Lib.itoa))
 | [],c,hc=>by simp [Be] at hc
 | n::ns,c,hc=>by
  have e:Be ((n::ns).map Lib.itoa)=32::(Lib.itoa n++Be (ns.map Lib.itoa)):=by simp [Be]
  rw [e] at hc
  rcases ag.1 hc with q | q
  ·subst q;decide
  ·rcases az.1 q with q | q
   ·exact Kx n 10 (.inr rfl) c q
   ·exact P5 ns c q
theorem Fh {k:Int} (h0:1<=k) (h1:k<=8):Bu k<=7:=by
 rcases C6 h0 h1 with rfl | rfl | rfl | rfl | rfl | rfl | rfl | rfl <;> decide
theorem Ja {c:Aa} (h:Va c):NoB 10 (Cg c)/\(Cg c).length<=91:=by
 obtain⟨_,w2,w3,_⟩:=E3 h.k0 h.k1
 have h1:=Ou c.Numbers h.inr
 have h2:=h.len
 have h3:=Fh h.k0 h.k1
 refine⟨λ b hb=>?_,?_⟩
 ·rcases az.1 hb with q | q
  ·exact (w2 b q).2
  ·exact P5 _ b q
 ·unfold Cg
  rw [ay];omega
theorem Sp {c:Aa} (h:Va c):B2 (Cg c)=Dq c.Kind::c.Numbers.map Lib.itoa:=by
 obtain⟨_,w2,w3,_⟩:=E3 h.k0 h.k1
 refine Jn _ (λ b hb=>(w2 b hb).1) λ x hx=>?_
 obtain⟨n,_,rfl⟩:=aK.1 hx
 exact Kx n 32 (.inl rfl)
theorem Mh:∀ (l:List Aa),(∀ c,c∈l->Va c)->((l.map A7).flatten).length<=92*l.length
 | [],_=>by simp
 | c::l,h=>by
  have h1:=(Ja (h c ak)).2
  have h2:=Mh l λ d hd=>h d (ai c hd)
  rw [aJ,bV,ay,ap]
  have:(A7 c).length=(Cg c).length+1:=by simp [A7]
  omega
theorem jL {l:List Aa} (h:l≠[]):(l.map A7).flatten≠[]:=by
 cases l with
 | nil=>exact absurd rfl h
 | cons c l=>simp [A7]
set_option linter.unusedVariables false
set_option linter.unusedSimpArgs false
open Go Go.SL
theorem O0:∀ (ns:List Int) (i:Nat) (z:List ByteArray),(∀ n,n∈ns -> -1000000000<=n/\n<=1000000000)->z.length+ns.length<=1000 ->
  foldI Km ns i z=some (.next (z++ns.map λ n=>(⟨(Lib.itoa n).toArray⟩:ByteArray)))
 | [],_,z,_,_=>by simp [foldI]
 | n::ns,i,z,h,hl=>by
  simp only [ap] at hl
  unfold foldI
  have e:Km i n z=some (.next (z++[⟨(Lib.itoa n).toArray⟩])):=by
   unfold Km F41
   rw [Q5 (h n ak)]
   simp only [aj]
   rw [(cf (by simp only [aG];omega)).eq];rfl
  rw [e]
  simp only
  rw [O0 ns (i+1) _ (λ m hm=>h m (ai n hm)) (by rw [ay,aG];omega)]
  simp
theorem Rw {a b:ByteArray} {m n:Nat} (ha:a.size=m) (hb:b.size=n) (h:m+n<=1000000):B7 a b=1:=by
 unfold B7
 rw [ha,hb,cT (by omega)];rfl
theorem Q4 (b:ByteArray) {m:Nat} (ha:b.size=m) (h:m<=1000):((nzI (B7 b (⟨#[10]⟩:ByteArray))).bind λ u=>some (b++(⟨#[10]⟩:ByteArray)))=some (b++(⟨#[10]⟩:ByteArray)):=by
 rw [Rw (n:=1) ha rfl (by omega)];rfl
theorem Ol {c:Aa} (h:Va c):F26 c=some ⟨(A7 c).toArray⟩:=by
 obtain⟨_,w2,w3,w4⟩:=E3 h.k0 h.k1
 have hb:=(Ja h).2
 have hn:=Fh h.k0 h.k1
 have hl:=h.len
 unfold F26
 rw [Tr,cU (by have:=h.k0;omega),cU (by have:=h.k1;omega)]
 simp only [Bool.or_self,cond_false]
 rw [Q8 h.k0 h.k1]
 simp only [aj]
 rw [w4,O0 c.Numbers 0 _ h.inr (by simp only [aG];omega)]
 simp only [andThen]
 have ej:M5 ([⟨(Dq c.Kind).toArray⟩]++c.Numbers.map λ n=>(⟨(Lib.itoa n).toArray⟩:ByteArray)) ⟨#[32]⟩=Cg c:=by
  unfold M5 Cg
  rw [List.singleton_append,aJ,Lib.join_cons,bH]
  unfold Lib.joinTail Be
  simp only [bH]
  rfl
 have e2:F42 ([⟨(Dq c.Kind).toArray⟩]++c.Numbers.map λ n=>(⟨(Lib.itoa n).toArray⟩:ByteArray)) ⟨#[32]⟩=some ⟨(Cg c).toArray⟩:=by
  unfold F42 Pq
  rw [ej,cT (by rw [ay,aG,aL];omega),cT (by omega)]
  rfl
 obtain⟨b,hb2⟩:∃ b:ByteArray,b=⟨(Cg c).toArray⟩:=⟨_,rfl⟩
 rw [←hb2] at e2
 rw [e2,aj]
 have hz:b.size=(Cg c).length:=by rw [hb2,Lib.size_eq]
 rw [Q4 b hz (by omega),hb2,ah]
 unfold A7
 refine ByteArray.ext ?_
 rw [ByteArray.data_append]
 simp
theorem O3 {c:Aa} (h:Va c):(A7 c).length<=92:=by
 have:=(Ja h).2
 unfold A7
 rw [ay,aG];omega
theorem M2:∀ (ns:List Int) (r:List ByteArray),(∀ n,n∈ns -> -1000000000<=n/\n<=1000000000)->r.map (·.data.toList)=ns.map Lib.itoa->Cy r=some ns
 | [],r,_,h=>by
  cases r with
  | nil=>rfl
  | cons _ _=>simp at h
 | n::ns,r,h,he=>by
  cases r with
  | nil=>simp at he
  | cons b r=>
   simp only [aJ,bQ] at he
   unfold Cy
   rw [he.1,R7 (h n ak)]
   simp only
   rw [M2 ns r (λ m hm=>h m (ai n hm)) he.2]
   rfl
theorem Xd {c:Aa} (h:Va c):Ru ⟨(A7 c).toArray⟩=some c:=by
 have ht:D4 ⟨(A7 c).toArray⟩=⟨(Cg c).toArray⟩:=by
  unfold D4 A7
  rw [Ki]
  unfold Lib.trimSuffix Lib.hasSuffix
  have:([10]:List UInt8).isSuffixOf (Cg c++[10])=true:=by
   rw [List.isSuffixOf_iff_suffix]
   exact List.suffix_append _ _
  rw [if_pos this]
  simp
 unfold Ru
 rw [ht]
 have hw:=Vw ⟨(Cg c).toArray⟩
 rw [Ki,Sp h] at hw
 cases hq:C8 ⟨(Cg c).toArray⟩ with
 | nil=>rw [hq] at hw;simp at hw
 | cons w r=>
  rw [hq] at hw
  simp only [aJ,bQ] at hw
  simp only
  rw [M2 c.Numbers r h.inr hw.2,hw.1,(E3 h.k0 h.k1).1]
  rfl
theorem Ss {c:Aa} (h:Va c):Df F13 F26 ⟨(A7 c).toArray⟩=some (some c):=by
 have hl:=O3 h
 unfold Df
 rw [cT (by rw [Lib.size_eq,Ki];omega),Xd h]
 simp only [cond_true,h.of,Ol h]
 have:((⟨(A7 c).toArray⟩:ByteArray).toList==(⟨(A7 c).toArray⟩:ByteArray).toList)=true:=by simp
 rw [this];rfl
theorem Sr {s:ByteArray} (hs:s.size<=1000000):∃ p,Df F13 F26 s=some p/\∀ c,p=some c↔Va c/\A7 c=s.data.toList:=by
 have hd:∀ c,Va c->A7 c=s.data.toList->Df F13 F26 s=some (some c):=λ c hv he=>by
  have:s=⟨(A7 c).toArray⟩:=by rw [he]
  rw [this];exact Ss hv
 have key:∃ p,Df F13 F26 s=some p/\∀ c,p=some c->Va c/\A7 c=s.data.toList:=by
  unfold Df
  rw [cT hs]
  simp only [cond_true]
  cases hc:Ru s with
  | none=>exact⟨none,rfl,by simp⟩
  | some c=>
   simp only [Mk]
   cases hv:vaB c with
   | false=>exact⟨none,rfl,by simp⟩
   | true=>
    have hva:=(Gb c).1 hv
    simp only [Ol hva]
    refine⟨_,rfl,λ d hd=>?_⟩
    cases hb:(⟨(A7 c).toArray⟩:ByteArray).toList==s.toList with
    | false=>rw [hb] at hd;cases hd
    | true=>
     rw [hb] at hd
     simp only [cond_true,ah] at hd
     subst hd
     refine⟨hva,?_⟩
     have:=eq_of_beq hb
     rw [ByteArray.toList_eq,ByteArray.toList_eq] at this
     exact this
 obtain⟨p,hp,hk⟩:=key
 refine⟨p,hp,λ c=>⟨hk c,λ hq=>?_⟩⟩
 have:=hd c hq.1 hq.2
 rw [hp] at this
 exact aP this
theorem Ls:∀ (l:List Aa),(∀ c,c∈l->Va c)->Cr F26 l=some (l.map A7).flatten
 | [],_=>rfl
 | c::l,h=>by
  unfold Cr
  rw [Ol (h c ak)]
  simp only
  rw [Ls l λ d hd=>h d (ai c hd)]
  rfl
def foP (l:List Aa):ByteArray×Int:=if 80<l.length then (⟨#[]⟩,2) else if (l.any λ c=>!vaB c)=true then (⟨#[]⟩,74) else (⟨((l.map A7).flatten).toArray⟩,0)
theorem uP {l:List Aa} (h:(l.any λ c=>!vaB c)=false):∀ c,c∈l->Va c:=by
 intro c hc
 rw [List.any_eq_false] at h
 have:=h c hc
 refine (Gb c).1 ?_
 cases hv:vaB c with
 | true=>rfl
 | false=>rw [hv] at this;simp at this
theorem X4 (l:List Aa) (hl:l.length<=9223372036854775807):F11 l=some (foP l):=by
 unfold F11 H3 foP
 by_cases h1:80<l.length
 ·rw [cT h1,if_pos h1];rfl
 ·rw [cU h1, if_neg h1, X9 hl]
  simp only [cond_false]
  cases h2:(l.any λ c=>!vaB c) with
  | true=>rw [if_pos rfl]
  | false=>
   have hv:=uP h2
   have hc:=Mh l hv
   rw [if_neg (by simp),Ls l hv]
   simp only
   have e:(decide (((l.map A7).flatten).length<=1000000)&&(l.isEmpty || !((l.map A7).flatten).isEmpty))=true:=by
    rw [cT (by omega)]
    cases l with
    | nil=>rfl
    | cons c l=>
     cases hq:((List.map A7 (c::l)).flatten) with
     | nil=>exact absurd hq (jL (by simp))
     | cons _ _=>rfl
   rw [e];rfl
theorem uB {l:List Aa} (h:∀ c,c∈l->Va c) (hl:l.length<=80):foP l=(⟨((l.map A7).flatten).toArray⟩,0):=by
 unfold foP
 have e:(l.any λ c=>!vaB c)=false:=by
  rw [List.any_eq_false]
  intro c hc
  rw [(Gb c).2 (h c hc)];simp
 rw [if_neg (by omega),if_neg (by rw [e];simp)]
set_option linter.unusedVariables false
theorem Nx {ρ:Type} {f:Int->Option (Ctl Int ρ)} (n:Nat) (hc:∀ k:Nat,k<n->f (k:Int)=some (.next ((k+1:Nat):Int))) (he:f (n:Int)=some (.brk (n:Int))):∀ (fuel k:Nat),k<=n->n-k<fuel->whileN f fuel (k:Int)=some (.next (n:Int))
 | 0,_,_,h=>absurd h (bI _)
 | fuel+1,k,hk,hf=>by
  unfold whileN
  by_cases h:k<n
  ·rw [hc k h]
   exact Nx n hc he fuel (k+1) h (by omega)
  ·have:k=n:=by omega
   subst this
   rw [he]
theorem M8 {α:Type} {l:List α} {k:Nat} (h:k<l.length):getI l (k:Int)=some l[k]:=by
 unfold getI
 rw [cT (by omega)]
 simp only [cond_true,bW]
 exact am h
theorem Xn (a:List Aa) (h:a.length<=1000000) (hn:∀ c,c∈a->c.Numbers.length<=1000000):F22 a a=some true:=by
 unfold F22
 have e:((a.length:Int) != (a.length:Int))=false:=by simp
 rw [e]
 simp only [cond_false]
 rw [R9 a 0 λ j y hj=>?_]
 ·rfl
 ·have hlt:=(aa.1 hj).1
  have ey:a[j]=y:=(aa.1 hj).2
  have hl:=hn y (aq hj)
  have eg:getI a (cnt 0 j)=some y:=by rw [Y2 (by omega),M8 hlt,ey]
  unfold Sl
  rw [aQ,eg]
  simp only [aj]
  have e1:(y.Kind != y.Kind)=false:=by simp
  rw [e1]
  simp only [An,B0,beq_self_eq_true,aS,cond_true,aj]
  have e2:U0 y y y=false:=by simp [U0]
  rw [e2]
  simp only [cond_false]
  have ew:whileN (Kn a j y) 1152921504606846976 0=some (.next (y.Numbers.length:Int)):=by
   refine Nx y.Numbers.length (λ k hk=>?_) ?_ 1152921504606846976 0 (ba _) (by omega)
   ·unfold Kn
    have e:Uz y (k:Int)=true:=cT (by omega)
    rw [e,M8 hk,eg]
    simp only [cond_true,aj]
    rw [M8 hk]
    simp only [aj]
    have e3:(y.Numbers[k] != y.Numbers[k])=false:=by simp
    rw [e3,A_ (by omega)];rfl
   ·unfold Kn
    have e:Uz y (y.Numbers.length:Int)=false:=cU (by omega)
    rw [e];rfl
  rw [ew];rfl
theorem qD {a:List Aa} (h:a.length<=1000) (hv:∀ c,c∈a->Va c):F22 a a=some true:=
 Xn a (by omega) λ c hc=>by
  have:=(hv c hc).len
  have:=Fh (hv c hc).k0 (hv c hc).k1
  omega
set_option linter.unusedVariables false
set_option linter.unusedSimpArgs false
open Go Go.SL
theorem Ji:∀ (l:List Int) (k:Nat),foldI Kp l k ()=bif l.all inB then some (.next ()) else some (.ret false)
 | [],_=>rfl
 | n::l,k=>by
  unfold foldI
  have e:Kp k n ()=bif inB n then some (.next ()) else some (.ret false):=by
   unfold Kp Zx inB
   have q1:decide (n < -1000000000) = !decide (-1000000000<=n):=by
    by_cases h:-1000000000<=n
    ·rw [cT h,cU (by omega)];rfl
    ·rw [cU h,cT (by omega)];rfl
   have q2:decide (n>1000000000) = !decide (n<=1000000000):=by
    by_cases h:n<=1000000000
    ·rw [cT h,cU (by omega)];rfl
    ·rw [cU h,cT (by omega)];rfl
   rw [q1,q2]
   cases decide (-1000000000<=n) <;> cases decide (n<=1000000000) <;> rfl
  rw [e,List.all_cons]
  cases inB n with
  | true=>simp only [cond_true,bm];exact Ji l (k+1)
  | false=>rfl
theorem Z9 {k:Int} (h0:1<=k) (h1:k<=8):getI ([F31.e0,F31.e1,F31.e2,F31.e3,F31.e4,F31.e5,F31.e6,F31.e7]:List Int) (w64 (k-1))=some (Bu k:Int):=by
 rcases C6 h0 h1 with rfl | rfl | rfl | rfl | rfl | rfl | rfl | rfl <;> rfl
theorem Pk (c:Aa):F14 c=some (vaB c):=by
 unfold F14
 rw [Ji]
 by_cases h0:1<=c.Kind
 ·by_cases h1:c.Kind<=8
  ·rw [cU (show ¬ c.Kind < 1 by omega), cU (show ¬ c.Kind > 8 by omega), Z9 h0 h1]
   simp only [An,B0,Bool.or_self,beq_self_eq_true,aS,cond_true,aj]
   have ec:I_ c (Bu c.Kind)=((c.Numbers.length:Int) != (Bu c.Kind:Int)):=by
    unfold I_
    rw [cU (show ¬c.Kind<1 by omega),cU (show ¬c.Kind>8 by omega)];rfl
   rw [ec]
   unfold vaB
   rw [cT h0,cT h1]
   by_cases hl:c.Numbers.length=Bu c.Kind
   ·have e1:((c.Numbers.length:Int) != (Bu c.Kind:Int))=false:=by rw [hl];simp
    have e2:(c.Numbers.length==Bu c.Kind)=true:=by rw [hl];simp
    rw [e1,e2]
    simp only [cond_false,bm]
    cases ha:c.Numbers.all inB with
    | false=>rfl
    | true=>
     simp only [cond_true,andThen,bm]
     by_cases hk:c.Kind=8
     ·have e3:(c.Kind != 8)=false:=by rw [hk];rfl
      rw [e3]
      simp only [beq_self_eq_true,cond_true,bn]
      have hl':c.Numbers.length=1:=by rw [hl,hk];rfl
      obtain⟨n,hn⟩:=List.length_eq_one_iff.1 hl'
      rw [hn]
      have eg:getI [n] 0=some n:=rfl
      rw [eg]
      have:H1 [n]=n:=rfl
      simp only [aj,bm,this]
      by_cases hn1:n>=1
      ·rw [cT hn1];simp
      ·rw [cU hn1];simp
     ·have e3:(c.Kind != 8)=true:=by simpa using hk
      rw [e3]
      simp
   ·have e1:((c.Numbers.length:Int) != (Bu c.Kind:Int))=true:=by simp;omega
    have e2:(c.Numbers.length==Bu c.Kind)=false:=by simp;omega
    rw [e1,e2]
    simp
  ·have ec:∀ y,I_ c y=true:=λ y=>by
    unfold I_
    rw [cT (show c.Kind>8 by omega)];simp
   rw [cT (show c.Kind>8 by omega)]
   simp only [vaB,ec]
   rw [cU h1]
   simp [An,B0]
 ·have ec:∀ y,I_ c y=true:=λ y=>by
   unfold I_
   rw [cT (show c.Kind<1 by omega)];simp
  rw [cT (show c.Kind<1 by omega)]
  simp only [vaB,ec]
  rw [cU h0]
  simp [An,B0]
theorem R6 (a b:List UInt8):(⟨a.toArray⟩:ByteArray)++(⟨b.toArray⟩:ByteArray)=⟨(a++b).toArray⟩:=by
 refine ByteArray.ext ?_
 rw [ByteArray.data_append]
 simp
theorem K7 (a:List UInt8):(⟨a.toArray⟩:ByteArray).size=a.length:=by rw [Lib.size_eq]
theorem Xe {a b:ByteArray} {m n:Nat} (ha:a.size=m) (hb:b.size=n) (h:m+n<=1000000):nzI (B7 a b)=some ():=by
 rw [Rw ha hb h];rfl
theorem Rv {α:Type} {a b:ByteArray} {m n:Nat} (ha:a.size=m) (hb:b.size=n) (h:m+n<=1000000) (f:Unit->Option α):(nzI (B7 a b)).bind f=f ():=by
 rw [Xe ha hb h,aj]
theorem T8 (n:Int) (i:Nat) (acc:List UInt8) (hn:-1000000000<=n/\n<=1000000000) (ha:acc.length<=100000) :
  Kl i n ⟨acc.toArray⟩=some (.next (⟨(acc++32::Lib.itoa n).toArray⟩:ByteArray)):=by
 have hl:=Gt hn
 unfold Kl F41
 obtain⟨b,hb⟩:∃ b:ByteArray,b=⟨(Lib.itoa n).toArray⟩:=⟨_,rfl⟩
 have hbs:b.size=(Lib.itoa n).length:=by rw [hb,K7]
 rw [Q5 hn,←hb,aj]
 obtain⟨s,hs⟩:∃ s:ByteArray,s=⟨#[32]⟩:=⟨_,rfl⟩
 obtain⟨a,ha2⟩:∃ a:ByteArray,a=⟨acc.toArray⟩:=⟨_,rfl⟩
 have hss:s.size=1:=by rw [hs];rfl
 have has:a.size=acc.length:=by rw [ha2,K7]
 rw [←hs,←ha2,Rv hss hbs (by omega),Rv has (show (s++b).size=1+(Lib.itoa n).length by rw [ByteArray.size_append,hss,hbs]) (by omega)]
 have e1:s++b=⟨(32::Lib.itoa n).toArray⟩:=by
  rw [hs,hb];exact R6 [32] (Lib.itoa n)
 rw [e1,ha2,R6]
theorem M1:∀ (ns:List Int) (i:Nat) (acc:List UInt8),(∀ n,n∈ns -> -1000000000<=n/\n<=1000000000)->acc.length+12*ns.length<=100000 ->
  foldI Kl ns i (⟨acc.toArray⟩:ByteArray)=some (.next (⟨(acc++Be (ns.map Lib.itoa)).toArray⟩:ByteArray))
 | [],_,acc,_,_=>by simp [foldI,Be]
 | n::ns,i,acc,h,hl=>by
  have hn:=h n ak
  have h1:=Gt hn
  simp only [ap] at hl
  unfold foldI
  rw [T8 n i acc hn (by omega)]
  simp only
  rw [M1 ns (i+1) _ (λ m hm=>h m (ai n hm)) (by rw [ay,ap];omega)]
  simp [Be]
theorem Ym {k:Int} (h0:1<=k) (h1:k<=8):getI ([F43.e0,F43.e1,F43.e2,F43.e3,F43.e4,F43.e5,F43.e6,F43.e7]:List ByteArray) (w64 (k-1))=some ⟨(Dq k).toArray⟩:=by
 rcases C6 h0 h1 with rfl | rfl | rfl | rfl | rfl | rfl | rfl | rfl <;> rfl
theorem Bn {σ τ ρ:Type} (s:σ) (g:τ->Option ρ) (f:σ->Option ρ):andThen (some (.next s)) g f=f s:=rfl
theorem Sg {c:Aa} (h:Va c):F28 c=some ⟨(A7 c).toArray⟩:=by
 obtain⟨_,w2,w3,w4⟩:=E3 h.k0 h.k1
 have hb:=(Ja h).2
 have hn:=Fh h.k0 h.k1
 have hl:=h.len
 unfold F28
 rw [Ym h.k0 h.k1,aj,M1 c.Numbers 0 _ h.inr (by omega),Bn]
 have e:Dq c.Kind++Be (c.Numbers.map Lib.itoa)=Cg c:=rfl
 rw [e]
 obtain⟨b,hb2⟩:∃ b:ByteArray,b=⟨(Cg c).toArray⟩:=⟨_,rfl⟩
 have hz:b.size=(Cg c).length:=by rw [hb2,K7]
 rw [←hb2,Q4 b hz (by omega),hb2]
 exact congrArg some (R6 (Cg c) [10])
set_option linter.unusedVariables false
set_option linter.unusedSimpArgs false
open Go Go.SL
theorem H_ (x:ByteArray) (i:Nat):Bl x (i:Int)=x.data.toList[i]?:=by
 unfold Bl
 rw [cT (by omega)]
 simp
theorem Fa (x:ByteArray):Bl x 0=x.data.toList[0]?:=H_ x 0
theorem Ns {k:Nat} {lo hi:Int} (h0:0<=lo) (h1:lo<=hi) (h2:hi<=k):bndI k lo hi=some ():=by
 obtain⟨u,h,_⟩:=Ok.bndI h0 h1 h2
 exact h
theorem Il (c:UInt8) (k:UInt8) (n:Int) (hk:(k.toNat:Int)=n):((c.toNat:Int)==n)=(c==k):=by
 subst hk
 by_cases h:c=k
 ·subst h;simp
 ·have h1:(c==k)=false:=by simpa using h
  have h2:c.toNat≠k.toNat:=λ e=>h (UInt8.toNat_inj.1 e)
  rw [h1]
  simp only [beq_eq_false_iff_ne,ne_eq]
  omega
theorem A4 (x:ByteArray):x.size=x.data.toList.length:=by rw [Lib.size_eq]
theorem vX {x:ByteArray} {l:List UInt8} (h:x.data.toList=l):x=⟨l.toArray⟩:=by
 subst h;rfl
theorem Eo (x y:ByteArray):(x.toList==y.toList)=(x.data.toList==y.data.toList):=by rw [ByteArray.toList_eq,ByteArray.toList_eq]
theorem Kd {l:List UInt8} {i:Nat} {c:UInt8} {r:List UInt8} (h:l.drop i=c::r):l[i]? = some c/\l.drop (i+1)=r/\i<l.length:=by
 have h1:l[i]? = some c:=by
  have:=congrArg (·[0]?) h
  simpa using this
 refine⟨h1,?_,(aa.1 h1).1⟩
 have:=congrArg List.tail h
 rw [List.tail_drop] at this
 exact this
theorem L5 {l:List UInt8} {f i:Nat} {c:UInt8} (h:l[i]? = some c) (hf:f<=i):(l.take (i+1)).drop f=(l.take i).drop f++[c]:=by
 have hi:=(aa.1 h).1
 rw [List.take_add_one,h,List.drop_append_of_le_length (by rw [aB];omega)]
 rfl
theorem Hr (x:ByteArray) (f i:Nat):(x.extract f i).data.toList=(x.data.toList.take i).drop f:=by
 rw [I4,List.drop_take]
theorem Gy (z:ByteArray) (hz:z.size<=1000000):∀ (k i:Nat) (n:Int) (fuel:Nat),i+k=z.size->k<fuel->∃ r,whileN (Dp z) fuel (n,(i:Int))=some r
 | _,_,_,0,_,h=>absurd h (bI _)
 | k,i,n,fuel+1,h1,h2=>by
  unfold whileN Dp
  by_cases hi:i<z.size
  ·have e1:decide (((i:Nat):Int)<(z.size:Int))=true:=cT (by omega)
   obtain⟨c,hc⟩:∃ c,z.data.toList[i]? = some c:=⟨_,am (by rw [←A4];exact hi)⟩
   simp only
   rw [e1,H_,hc]
   simp only [cond_true,aj]
   have ew:w64 ((i:Int)+1)=((i+1:Nat):Int):=by rw [A_ (by omega)];omega
   obtain⟨k',rfl⟩:∃ k',k=k'+1:=⟨k-1,by omega⟩
   unfold An
   cases B0 [(decide ((c.toNat:Int)<48),false)] with
   | true=>
    simp only [cond_true,aj]
    cases Pr c c with
    | true=>exact⟨_,rfl⟩
    | false=>
     simp only [cond_false]
     rw [ew]
     exact Gy z hz k' (i+1) _ fuel (by omega) (by omega)
   | false=>
    simp only [cond_false,aj]
    cases Pr c default with
    | true=>exact⟨_,rfl⟩
    | false=>
     simp only [cond_false]
     rw [ew]
     exact Gy z hz k' (i+1) _ fuel (by omega) (by omega)
  ·have e1:decide (((i:Nat):Int)<(z.size:Int))=false:=cU (by omega)
   simp only
   rw [e1]
   exact⟨_,rfl⟩
theorem Qw (x:ByteArray) (hx:x.size<=1000000):∃ c z,(An [(!(x.toList==(⟨#[]⟩:ByteArray).toList),true)] (Bl x 0) default)=some c/\Ig x c=some (.next z)/\z.size<=x.size /\
  (x.data.toList=[]->z=x)/\∀ b r,x.data.toList=b::r->c=b/\z.data.toList=bif b==45 then r else b::r:=by
 cases hl:x.data.toList with
 | nil=>
  have he:(x.toList==(⟨#[]⟩:ByteArray).toList)=true:=by rw [Eo,hl];rfl
  refine⟨default,x,?_,?_,ae _,λ _=>rfl,(λ b r h=>by cases h)⟩
  ·rw [he];rfl
  ·unfold Ig Ps
   rw [he];rfl
 | cons b r=>
  have he:(x.toList==(⟨#[]⟩:ByteArray).toList)=false:=by rw [Eo,hl];rfl
  have hs:x.size=r.length+1:=by rw [A4,hl];rfl
  have h0:Bl x 0=some b:=by rw [Fa,hl];rfl
  cases hb:b==45 with
  | true=>
   refine⟨b,x.extract 1 x.size,?_,?_,?_,(λ h=>by cases h),λ b' r' h=>?_⟩
   ·rw [he,h0];rfl
   ·unfold Ig Ps
    rw [he,Il b 45 45 rfl,hb]
    simp only [Bool.not_false,Bool.and_self,cond_true]
    rw [Ns (by omega) (by omega) (Int.le_refl _)]
    simp
   ·rw [A4,Hr,hl,hs];simp
   ·cases h
    refine⟨rfl,?_⟩
    rw [hb,Hr,hl,hs];simp
  | false=>
   refine⟨b,x,?_,?_,ae _,(λ h=>by cases h),λ b' r' h=>?_⟩
   ·rw [he,h0];rfl
   ·unfold Ig Ps
    rw [he,Il b 45 45 rfl,hb];rfl
   ·cases h
    refine⟨rfl,?_⟩
    rw [hb,hl];rfl
theorem Se (x:ByteArray) (hx:x.size<=1000000):∃ p,F51 x=some p:=by
 unfold F51
 obtain⟨c,z,h1,h2,h3,h4,h5⟩:=Qw x hx
 rw [h1,aj,h2]
 simp only [andThen]
 have hg:∃ y,(An [(((decide ((z.size:Int)<1)) || (decide ((z.size:Int)>10))),false)] (Bl z 0) default)=some y:=by
  unfold An
  cases hb:(((decide ((z.size:Int)<1)) || (decide ((z.size:Int)>10)))) with
  | true=>exact⟨_,rfl⟩
  | false=>
   simp only [bX,cS] at hb
   refine⟨z.data.toList[0]'(by rw [←A4];omega),?_⟩
   show Bl z 0=_
   rw [Fa,am]
 obtain⟨y,hy⟩:=hg
 rw [hy,aj]
 cases hc:K5 x z y with
 | true=>exact⟨_,rfl⟩
 | false=>
  simp only [cond_false]
  obtain⟨r,hr⟩:=Gy z (by omega) z.size 0 0 1152921504606846976 (by omega) (by omega)
  have hr':whileN (Dp z) 1152921504606846976 (0,0)=some r:=hr
  rw [hr']
  have hx0:1<=x.size:=by
   unfold K5 at hc
   simp only [bX,cS] at hc
   omega
  obtain⟨b,hb⟩:∃ b,Bl x 0=some b:=⟨x.data.toList[0]'(by rw [←A4];omega),by rw [Fa,am]⟩
  have fin:∀ v:Int,∃ p,((Bl x 0).bind λ y17=>bif ((y17.toNat:Int)==45) then some (w64 (0-v),true) else some (v,true))=some p:=λ v=>by
   rw [hb,aj]
   cases ((b.toNat:Int)==45) with
   | true=>exact⟨_,rfl⟩
   | false=>exact⟨_,rfl⟩
  cases r with
  | next s=>exact fin s.1
  | brk s=>exact fin s.1
  | ret v=>exact⟨_,rfl⟩
theorem Nl:∀ {l:List UInt8} {acc v:Nat},Lib.decFrom acc l=some v->acc<=v
 | [],acc,v,h=>by simp [Lib.decFrom] at h;omega
 | c::l,acc,v,h=>by
  unfold Lib.decFrom at h
  split at h
  ·have:=Nl h;omega
  ·cases h
theorem Z3:∀ d:Nat,d<10->IntKind.wrap .u8 (d:Int)=(d:Int):=by decide
theorem Nj (z:ByteArray) (hz:z.size<=1000000):∀ (l:List UInt8) (i acc v:Nat) (fuel:Nat),z.data.toList.drop i=l->i+l.length=z.size->(∀ c,c∈l->DgB c)->Lib.decFrom acc l=some v->v<=1000000000->l.length<fuel ->
  whileN (Dp z) fuel ((acc:Int),(i:Int))=some (.next ((v:Int),(z.size:Int)))
 | _,_,_,_,0,_,_,_,_,_,h=>absurd h (bI _)
 | [],i,acc,v,fuel+1,hl,hi,_,hv,_,_=>by
  simp [Lib.decFrom] at hv
  simp at hi
  subst hv
  unfold whileN Dp
  have e1:decide (((i:Nat):Int)<(z.size:Int))=false:=cU (by omega)
  simp only
  rw [e1,hi];rfl
 | c::l,i,acc,v,fuel+1,hl,hi,hd,hv,hv1,hf=>by
  obtain⟨h1,h2,h3⟩:=Kd hl
  simp only [ap] at hi hf
  have hc:=hd c ak
  unfold DgB at hc
  have e1:decide (((i:Nat):Int)<(z.size:Int))=true:=cT (by omega)
  have ew:w64 ((i:Int)+1)=((i+1:Nat):Int):=by rw [A_ (by omega)];omega
  unfold Lib.decFrom Lib.digitVal at hv
  rw [if_pos hc] at hv
  simp only at hv
  have hge:=Nl hv
  have e2:decide ((c.toNat:Int)<48)=false:=cU (by omega)
  have e3:decide ((c.toNat:Int)>57)=false:=cU (by omega)
  have e4:((c.toNat:Int)-48)=((c.toNat-48:Nat):Int):=by omega
  have e5:=Z3 (c.toNat-48) (by omega)
  have eb:Dp z ((acc:Int),(i:Int))=some (.next (((acc*10+(c.toNat-48):Nat):Int),((i+1:Nat):Int))):=by
   unfold Dp Pr
   simp only
   rw [e1,H_,h1]
   simp only [cond_true,aj]
   rw [e2]
   simp only [An,B0,beq_self_eq_true,aS,cond_true,aj]
   rw [e3,e4,e5,ew]
   simp only [Bool.or_self,cond_false]
   have q1:w64 (10*(acc:Int))=((10*acc:Nat):Int):=by rw [A_ (by omega)];omega
   have q2:w64 (((c.toNat-48:Nat):Int))=((c.toNat-48:Nat):Int):=A_ (by omega)
   rw [q1,q2]
   have q3:w64 (((10*acc:Nat):Int)+((c.toNat-48:Nat):Int))=((acc*10+(c.toNat-48):Nat):Int):=by rw [A_ (by omega)];omega
   rw [q3]
  unfold whileN
  rw [eb]
  exact Nj z hz l (i+1) _ v fuel h2 (by omega) (λ d hd'=>hd d (ai c hd')) hv hv1 (by omega)
theorem Sz:∀ (u:Nat) (c:UInt8) (r:List UInt8),Lib.decDigits u=c::r->c=48->u=0:=by
 intro u
 induction u using Nat.strongRecOn with
 | _ u ih=>
  intro c r h hc
  rw [Lib.decDigits] at h
  split at h
  ·rename_i hu
   simp only [bQ] at h
   have:=Nk hu
   rw [h.1,hc] at this
   simp at this
   omega
  ·rename_i hu
   cases hq:Lib.decDigits (u / 10) with
   | nil=>exact absurd hq (Dl _)
   | cons d s=>
    rw [hq,bq,bQ] at h
    have:=ih (u / 10) (by omega) d s hq (h.1.trans hc)
    omega
theorem Uv {u:Nat} (h:u<=1000000000):1<=(Lib.decDigits u).length/\(Lib.decDigits u).length<=10:=by
 rw [Lib.decDigits_length]
 exact⟨Lib.nDigits_pos u,Iw h⟩
theorem Td {n:Int} (h:-1000000000<=n/\n<=1000000000) {x:ByteArray} (hx:x.data.toList=Lib.itoa n):F51 x=some (n,true):=by
 have hlen:=Gt h
 have hsz:x.size=(Lib.itoa n).length:=by rw [A4,hx]
 unfold F51
 obtain⟨c,z,h1,h2,h3,h4,h5⟩:=Qw x (by omega)
 rw [h1,aj,h2]
 simp only [andThen]
 have key:∀ (u:Nat),u<=1000000000->z.data.toList=Lib.decDigits u->(u=0->x.data.toList=[48])->(∃ b,Bl x 0=some b/\(bif ((b.toNat:Int)==45) then some (w64 (0-(u:Int)),true) else some ((u:Int),true))=some (n,true)) ->
   ((An [(((decide ((z.size:Int)<1)) || (decide ((z.size:Int)>10))),false)] (Bl z 0) default).bind λ y6=>bif (K5 x z y6) then some (0,false) else andThen (whileN (Dp z) 1152921504606846976 (0,0)) some λ z1=>(Bl x 0).bind λ y17=>bif ((y17.toNat:Int)==45) then some (w64 (0-z1.1),true) else some (z1.1,true))=some (n,true):=by
  intro u hu hzl hu0 ⟨b,hb,hfin⟩
  obtain⟨l1,l2⟩:=Uv hu
  have hzs:z.size=(Lib.decDigits u).length:=by rw [A4,hzl]
  have e1:decide ((z.size:Int)<1)=false:=cU (by omega)
  have e2:decide ((z.size:Int)>10)=false:=cU (by omega)
  obtain⟨d,r,hdr⟩:∃ d r,Lib.decDigits u=d::r:=by
   cases hq:Lib.decDigits u with
   | nil=>exact absurd hq (Dl _)
   | cons d r=>exact⟨d,r,rfl⟩
  have h0:Bl z 0=some d:=by rw [Fa,hzl,hdr];rfl
  rw [e1,e2,h0]
  simp only [Bool.or_self,An,B0,beq_self_eq_true,aS,cond_true,aj]
  have ec:K5 x z d=false:=by
   unfold K5
   rw [e1,e2,Il d 48 48 rfl,Eo]
   cases hd:d==48 with
   | false=>rfl
   | true=>
    have:=hu0 (Sz u d r hdr (by simpa using hd))
    rw [this];rfl
  rw [ec]
  simp only [cond_false]
  have hw:=Nj z (by omega) (Lib.decDigits u) 0 0 u 1152921504606846976 (by rw [hzl];rfl) (by omega) (Ew u) (H7 u) hu (by omega)
  have hw':whileN (Dp z) 1152921504606846976 (0,0)=some (.next ((u:Int),(z.size:Int))):=hw
  rw [hw',Bn,hb,aj]
  exact hfin
 unfold Lib.itoa at hx
 by_cases hn:n<0
 ·rw [if_pos hn] at hx
  obtain⟨rfl,hz⟩:=h5 _ _ hx
  refine key n.natAbs (by omega) (by rw [hz];rfl) (λ e=>by omega) ⟨45,by rw [Fa,hx];rfl,?_⟩
  have e:w64 (0-(n.natAbs:Int))=n:=by rw [A_ (by omega)];omega
  rw [e];rfl
 ·rw [if_neg hn] at hx
  obtain⟨d,r,hdr⟩:∃ d r,Lib.decDigits n.toNat=d::r:=by
   cases hq:Lib.decDigits n.toNat with
   | nil=>exact absurd hq (Dl _)
   | cons d r=>exact⟨d,r,rfl⟩
  have hd:=Ew n.toNat d (by rw [hdr];exact ak)
  have hd45:(d==45)=false:=by
   unfold DgB at hd
   have:d≠45:=λ e=>by subst e;simp at hd
   simpa using this
  obtain⟨rfl,hz⟩:=h5 d r (hx.trans hdr)
  rw [hd45] at hz
  refine key n.toNat (by omega) (hz.trans hdr.symm) (λ e=>?_) ⟨c,by rw [Fa,hx,hdr];rfl,?_⟩
  ·rw [hx,e];rw [Lib.decDigits];rfl
  ·rw [Il c 45 45 rfl,hd45]
   have e:((n.toNat:Nat):Int)=n:=by omega
   rw [e];rfl
def Gm (c:UInt8):Bool:=c==32 || c==10
def C7:List UInt8->List UInt8->List (List UInt8)
 | _,[]=>[]
 | cur,c::l=>bif Gm c then cur::C7 [] l else C7 (cur++[c]) l
theorem Ii (x:ByteArray) (hx:x.size<=1000000):∀ (r:List UInt8) (f i:Nat) (W:List ByteArray) (fuel:Nat),x.data.toList.drop i=r->i+r.length=x.size->f<=i->W.length<=i->r.length<fuel ->
  ∃ (f':Nat) (W':List ByteArray),whileN (G3 x) fuel ((f:Int),(i:Int),W)=some (.next ((f':Int),(x.size:Int),W'))/\W'.length<=x.size/\W'.map (·.data.toList)=W.map (·.data.toList)++C7 ((x.data.toList.take i).drop f) r
 | _,_,_,_,0,_,_,_,_,h=>absurd h (bI _)
 | [],f,i,W,fuel+1,hl,hi,hf,hW,_=>by
  simp at hi
  subst hi
  refine⟨f,W,?_,by omega,by simp [C7]⟩
  unfold whileN G3
  have e1:decide (((x.size:Nat):Int)<(x.size:Int))=false:=cU (by omega)
  simp only
  rw [e1];rfl
 | c::r,f,i,W,fuel+1,hl,hi,hf,hW,hfu=>by
  obtain⟨h1,h2,h3⟩:=Kd hl
  simp only [ap] at hi hfu
  have e1:decide (((i:Nat):Int)<(x.size:Int))=true:=cT (by omega)
  have ew:w64 ((i:Int)+1)=((i+1:Nat):Int):=by rw [A_ (by omega)];omega
  have eb:G3 x ((f:Int),(i:Int),W)=bif Gm c then some (.next (((i+1:Nat):Int),((i+1:Nat):Int),W++[x.extract f i])) else some (.next ((f:Int),((i+1:Nat):Int),W)):=by
   unfold G3 Zv Gm
   simp only
   rw [e1,H_,h1]
   simp only [cond_true,aj]
   rw [Il c 32 32 rfl,ew,Ns (by omega) (by omega) (by omega),(cf (by simp only [aG];omega)).eq]
   cases hc:c==32 with
   | true=>rfl
   | false=>
    simp only [An,B0,beq_self_eq_true,aS,cond_true,aj]
    rw [Il c 10 10 rfl]
    cases c==10 <;> rfl
  unfold whileN
  rw [eb]
  unfold C7
  cases hc:Gm c with
  | true=>
   simp only [cond_true]
   obtain⟨f',W',q1,q2,q3⟩:=Ii x hx r (i+1) (i+1) (W++[x.extract f i]) fuel h2 (by omega) (ae _) (by rw [ay,aG];omega) (by omega)
   refine⟨f',W',q1,q2,?_⟩
   rw [q3,bO,aJ,List.map_nil,Hr,aY]
   have e0:(x.data.toList.take (i+1)).drop (i+1)=[]:=ca (by rw [aB];exact Nat.min_le_left _ _)
   rw [e0];rfl
  | false=>
   simp only [cond_false]
   obtain⟨f',W',q1,q2,q3⟩:=Ii x hx r f (i+1) W fuel h2 (by omega) (by omega) (by omega) (by omega)
   exact⟨f',W',q1,q2,by rw [q3,L5 h1 hf]⟩
def D5:List UInt8->List UInt8->List (List UInt8)
 | cur,[]=>bif cur.isEmpty then [] else [cur]
 | cur,c::l=>bif c==10 then (cur++[c])::D5 [] l else D5 (cur++[c]) l
theorem L_:∀ (l cur:List UInt8),D5 cur l=bif cur.isEmpty then Aq l else match Aq l with
  | []=>[cur]
  | h::t=>(cur++h)::t
 | [],[]=>rfl
 | [],c::cur=>rfl
 | d::l,cur=>by
  unfold D5
  rw [Dz]
  cases hd:d==10 with
  | true=>
   simp only [cond_true]
   rw [L_ l []]
   cases cur <;> rfl
  | false=>
   simp only [cond_false]
   rw [L_ l (cur++[d])]
   have e:(cur++[d]).isEmpty=false:=by cases cur <;> rfl
   rw [e]
   simp only [cond_false]
   cases Aq l with
   | nil=>cases cur <;> rfl
   | cons h t=>cases cur <;> simp
theorem Ix (x:ByteArray) (hx:x.size<=1000000):∀ (r:List UInt8) (f i:Nat) (W:List ByteArray) (fuel:Nat),x.data.toList.drop i=r->i+r.length=x.size->f<=i->W.length<=i->r.length<fuel ->
  ∃ (f':Nat) (W':List ByteArray),whileN (G5 x) fuel ((f:Int),(i:Int),W)=some (.next ((f':Int),(x.size:Int),W'))/\W'.length<=x.size/\f'<=x.size /\
   W'.map (·.data.toList)++D5 (x.data.toList.drop f') []=W.map (·.data.toList)++D5 ((x.data.toList.take i).drop f) r
 | _,_,_,_,0,_,_,_,_,h=>absurd h (bI _)
 | [],f,i,W,fuel+1,hl,hi,hf,hW,_=>by
  simp at hi
  subst hi
  refine⟨f,W,?_,by omega,hf,by rw [bF (by rw [A4];exact ae _)]⟩
  unfold whileN G5
  have e1:decide (((x.size:Nat):Int)<(x.size:Int))=false:=cU (by omega)
  simp only
  rw [e1];rfl
 | c::r,f,i,W,fuel+1,hl,hi,hf,hW,hfu=>by
  obtain⟨h1,h2,h3⟩:=Kd hl
  simp only [ap] at hi hfu
  have e1:decide (((i:Nat):Int)<(x.size:Int))=true:=cT (by omega)
  have ew:w64 ((i:Int)+1)=((i+1:Nat):Int):=by rw [A_ (by omega)];omega
  have eb:G5 x ((f:Int),(i:Int),W)=bif c==10 then some (.next (((i+1:Nat):Int),((i+1:Nat):Int),W++[x.extract f (i+1)])) else some (.next ((f:Int),((i+1:Nat):Int),W)):=by
   unfold G5
   simp only
   rw [e1,H_,h1]
   simp only [cond_true,aj]
   rw [Il c 10 10 rfl,ew,Ns (by omega) (by omega) (by omega)]
   simp only [aj]
   rw [(cf (by simp only [aG];omega)).eq]
   cases c==10 <;> rfl
  unfold whileN
  rw [eb]
  unfold D5
  cases hc:c==10 with
  | true=>
   simp only [cond_true]
   obtain⟨f',W',q1,q2,q2b,q3⟩:=Ix x hx r (i+1) (i+1) (W++[x.extract f (i+1)]) fuel h2 (by omega) (ae _) (by rw [ay,aG];omega) (by omega)
   refine⟨f',W',q1,q2,q2b,?_⟩
   have:D5 (x.data.toList.drop f') []=(bif (x.data.toList.drop f').isEmpty then [] else [x.data.toList.drop f']):=rfl
   rw [←this,q3,bO,aJ,List.map_nil,Hr,aY,L5 h1 hf]
   have e0:(x.data.toList.take (i+1)).drop (i+1)=[]:=ca (by rw [aB];exact Nat.min_le_left _ _)
   rw [e0];simp
  | false=>
   simp only [cond_false]
   obtain⟨f',W',q1,q2,q2b,q3⟩:=Ix x hx r f (i+1) W fuel h2 (by omega) (by omega) (by omega) (by omega)
   refine⟨f',W',q1,q2,q2b,?_⟩
   have:D5 (x.data.toList.drop f') []=(bif (x.data.toList.drop f').isEmpty then [] else [x.data.toList.drop f']):=rfl
   rw [←this,q3,L5 h1 hf]
set_option linter.unusedVariables false
set_option linter.unusedSimpArgs false
open Go Go.SL
def nmW:List ByteArray:=[F43.e0,F43.e1,F43.e2,F43.e3,F43.e4,F43.e5,F43.e6,F43.e7]
def nmI (i:Nat):ByteArray:=nmW[i]?.getD default
def kR (w:ByteArray):Nat->Int
 | 0=>0
 | i+1=>bif (nmI i).toList==w.toList then ((i+1:Nat):Int) else kR w i
theorem Ue {z0:Int×Int×List ByteArray} {w:ByteArray} {ws:List ByteArray} (hz:z0.2.2=w::ws) {i:Nat} (hi:i<8):Ft z0 ((i:Int),kR w i)=some (.next (((i+1:Nat):Int),kR w (i+1))):=by
 unfold Ft
 have e1:decide ((i:Int)<8)=true:=cT (by omega)
 have e2:getI ([F43.e0,F43.e1,F43.e2,F43.e3,F43.e4,F43.e5,F43.e6,F43.e7]:List ByteArray) (i:Int)=some (nmI i):=by
  show getI nmW (i:Int)=some (nmI i)
  have hl:i<nmW.length:=hi
  rw [M8 hl]
  unfold nmI
  rw [am hl];rfl
 have e3:getI z0.2.2 0=some w:=by rw [hz];rfl
 have ew:w64 ((i:Int)+1)=((i+1:Nat):Int):=by rw [A_ (by omega)];omega
 simp only
 rw [e1,e2,e3,ew]
 simp only [cond_true,aj]
 show _=some (Ctl.next (((i+1:Nat):Int),bif (nmI i).toList==w.toList then ((i+1:Nat):Int) else kR w i))
 cases (nmI i).toList==w.toList <;> rfl
theorem Iz {z0:Int×Int×List ByteArray} {w:ByteArray} {ws:List ByteArray} (hz:z0.2.2=w::ws):∀ (k i:Nat) (fuel:Nat),i+k=8->k<fuel->whileN (Ft z0) fuel ((i:Int),kR w i)=some (.next (8,kR w 8))
 | _,_,0,_,h=>absurd h (bI _)
 | 0,i,fuel+1,hi,_=>by
  have:i=8:=by omega
  subst this
  unfold whileN Ft
  rfl
 | k+1,i,fuel+1,hi,hf=>by
  unfold whileN
  rw [Ue hz (by omega)]
  exact Iz hz k (i+1) fuel (by omega) (by omega)
theorem jE {k:Int} (h0:1<=k) (h1:k<=8):kR ⟨(Dq k).toArray⟩ 8=k:=by
 rcases C6 h0 h1 with rfl | rfl | rfl | rfl | rfl | rfl | rfl | rfl <;> decide +kernel
theorem Ll:∀ (ws:List ByteArray) (ns:List Int) (i:Nat) (z:List Int),ws.map (·.data.toList)=ns.map Lib.itoa->(∀ n,n∈ns -> -1000000000<=n/\n<=1000000000)->z.length+ns.length<=1000 ->
  foldI G2 ws i z=some (.next (z++ns))
 | [],[],_,z,_,_,_=>by simp [foldI]
 | [],_::_,_,_,h,_,_=>by simp at h
 | _::_,[],_,_,h,_,_=>by simp at h
 | w::ws,n::ns,i,z,h,hn,hl=>by
  simp only [aJ,bQ] at h
  simp only [ap] at hl
  have e:G2 i w z=some (.next (z++[n])):=by
   unfold G2
   rw [Td (hn n ak) h.1]
   simp only [aj,bv,cond_false]
   rw [(cf (by simp only [aG];omega)).eq];rfl
  unfold foldI
  rw [e]
  simp only
  rw [Ll ws ns (i+1) _ h.2 (λ m hm=>hn m (ai n hm)) (by rw [ay,aG];omega)]
  simp
theorem Sv {ws:List ByteArray} (hs:∀ w,w∈ws->w.size<=1000000) (hl:ws.length<=1000000):Ok (foldI G2 ws 0 ([]:List Int)) (G6 (λ z=>z.length<=1000000) λ v=>v.2=false):=by
 refine cP (λ j z=>z.length=j) rfl (λ j w z hj hz=>?_) λ z hz=>by omega
 have hj':=(aa.1 hj).1
 obtain⟨p,hp⟩:=Se w (hs w (aq hj))
 unfold G2
 rw [hp]
 simp only [aj]
 refine cm (λ h=>Ok.ret rfl) λ h=>?_
 refine (cf (by simp only [aG];omega)).bind λ q hq=>?_
 subst hq
 exact cC (by rw [ay,aG];omega)
theorem I8:∀ (w cur r:List UInt8),(∀ c,c∈w->Gm c=false)->∀ s,Gm s=true->C7 cur (w++s::r)=(cur++w)::C7 [] r
 | [],cur,r,_,s,hs=>by
  rw [bG,C7,hs,List.append_nil];rfl
 | c::w,cur,r,h,s,hs=>by
  rw [bq,C7,h c ak]
  simp only [cond_false]
  rw [I8 w (cur++[c]) r (λ d hd=>h d (ai c hd)) s hs]
  simp
theorem Lp:∀ (ws:List (List UInt8)) (w:List UInt8),(∀ c,c∈w->Gm c=false)->(∀ x,x∈ws->∀ c,c∈x->Gm c=false)->C7 [] (w++Be ws++[10])=w::ws
 | [],w,h,_=>by
  have e:w++Be []++[10]=w++10::[]:=by simp [Be]
  rw [e,I8 w [] [] h 10 rfl];rfl
 | x::ws,w,h,h2=>by
  have e:w++Be (x::ws)++[10]=w++32::(x++Be ws++[10]):=by simp [Be]
  rw [e,I8 w [] _ h 32 rfl,Lp ws x (h2 x ak) λ y hy=>h2 y (ai x hy)]
  rfl
theorem V1 {c:UInt8} (h1:c≠32) (h2:c≠10):Gm c=false:=by
 unfold Gm
 have e1:(c==32)=false:=by simpa using h1
 have e2:(c==10)=false:=by simpa using h2
 rw [e1,e2];rfl
theorem Ut {c:Aa} (h:Va c):C7 [] (A7 c)=Dq c.Kind::c.Numbers.map Lib.itoa:=by
 refine Lp (c.Numbers.map Lib.itoa) (Dq c.Kind) (λ b hb=>?_) λ x hx b hb=>?_
 ·have:=(E3 h.k0 h.k1).2.1 b hb
  exact V1 this.1 this.2
 ·obtain⟨n,_,rfl⟩:=aK.1 hx
  exact V1 (Kx n 32 (.inl rfl) b hb) (Kx n 10 (.inr rfl) b hb)
theorem Ju {s:ByteArray} (hs:s.size<=1000000):∃ (f:Nat) (W:List ByteArray),whileN (G3 s) 1152921504606846976 (0,0,([]:List ByteArray))=some (.next ((f:Int),(s.size:Int),W))/\W.length<=s.size/\W.map (·.data.toList)=C7 [] s.data.toList:=by
 obtain⟨f,W,h1,h2,h3⟩:=Ii s hs s.data.toList 0 0 [] 1152921504606846976 rfl (by rw [A4];omega) (ae _) (ae _) (by rw [←A4];omega)
 exact⟨f,W,h1,h2,by simpa using h3⟩
theorem Sq {c:Aa} (h:Va c) {s:ByteArray} (he:s.data.toList=A7 c):F37 s=some (c,true):=by
 have hll:=O3 h
 have hsz:s.size<=92:=by rw [A4,he];exact hll
 have hnl:=Fh h.k0 h.k1
 have hl:=h.len
 obtain⟨f,W,h1,h2,h3⟩:=Ju (s:=s) (by omega)
 rw [he,Ut h] at h3
 unfold F37
 rw [h1,Bn]
 cases W with
 | nil=>simp at h3
 | cons w ws=>
  simp only [aJ,bQ] at h3
  have e0:(((w::ws).length:Int)==0)=false:=by
   have:((w::ws).length:Int)≠0:=by simp only [ap];omega
   simpa using this
  simp only
  rw [e0]
  simp only [cond_false]
  have hk:=Iz (z0:=((f:Int),(s.size:Int),w::ws)) (w:=w) (ws:=ws) rfl 8 0 11 rfl (by omega)
  have hk':whileN (Ft ((f:Int),(s.size:Int),w::ws)) 11 (0,0)=some (.next (8,kR w 8)):=hk
  rw [hk',Bn]
  have hw:kR w 8=c.Kind:=by
   rw [vX h3.1];exact jE h.k0 h.k1
  have hc:cutI (w::ws) 1 ((w::ws).length:Int)=some ws:=by
   obtain⟨y,hy,hy2⟩:=Ok.cutI (l:=w::ws) (lo:=1) (hi:=((w::ws).length:Int)) (by omega) (by simp only [ap];omega) (Int.le_refl _)
   rw [hy,hy2]
   simp
  rw [hc,aj,Ll ws c.Numbers 0 [] h3.2 h.inr (by simp only [aZ];omega),Bn,bG]
  simp only
  rw [hw]
  have ec:(⟨c.Kind,c.Numbers⟩:Aa)=c:=rfl
  rw [ec,Pk,(Gb c).2 h]
  simp only [aj,An,B0,beq_self_eq_true,aS,cond_true]
  rw [Sg h]
  simp only [aj]
  have:((⟨(A7 c).toArray⟩:ByteArray).toList==s.toList)=true:=by rw [Eo,he];simp
  rw [this];rfl
theorem Qy {x:ByteArray} {l:List (List UInt8)} {W:List ByteArray} (h:W.map (·.data.toList)=l) (hl:∀ y,y∈l->y.length<=1000000):∀ w,w∈W->w.size<=1000000:=by
 intro w hw
 rw [A4]
 exact hl _ (by rw [←h];exact aK.2 ⟨w,hw,rfl⟩)
theorem Kc:∀ (l cur:List UInt8),∀ y,y∈C7 cur l->y.length<=cur.length+l.length
 | [],_,y,h=>by simp [C7] at h
 | c::l,cur,y,h=>by
  unfold C7 at h
  cases hs:Gm c with
  | true=>
   rw [hs] at h
   simp only [cond_true,ag] at h
   rcases h with h | h
   ·subst h;simp
   ·have:=Kc l [] y h
    have e:([]:List UInt8).length=0:=rfl
    rw [e] at this
    rw [ap]
    omega
  | false=>
   rw [hs] at h
   have:=Kc l (cur++[c]) y h
   rw [ay,aG] at this
   rw [ap]
   omega
theorem Wk {s:ByteArray} (hs:s.size<=1000000):Ok (F37 s) λ p=>p.2=true->Va p.1/\A7 p.1=s.data.toList:=by
 obtain⟨f,W,h1,h2,h3⟩:=Ju hs
 unfold F37
 rw [h1,Bn]
 cases W with
 | nil=>exact cb λ h=>by cases h
 | cons w ws=>
  have e0:(((w::ws).length:Int)==0)=false:=by
   have:((w::ws).length:Int)≠0:=by simp only [ap];omega
   simpa using this
  simp only
  rw [e0]
  simp only [cond_false]
  have hk:=Iz (z0:=((f:Int),(s.size:Int),w::ws)) (w:=w) (ws:=ws) rfl 8 0 11 rfl (by omega)
  have hk':whileN (Ft ((f:Int),(s.size:Int),w::ws)) 11 (0,0)=some (.next (8,kR w 8)):=hk
  rw [hk',Bn]
  have hc:cutI (w::ws) 1 ((w::ws).length:Int)=some ws:=by
   obtain⟨y,hy,hy2⟩:=Ok.cutI (l:=w::ws) (lo:=1) (hi:=((w::ws).length:Int)) (by omega) (by simp only [ap];omega) (Int.le_refl _)
   rw [hy,hy2]
   simp
  rw [hc,aj]
  have hm:=Qy (x:=s) h3 λ y hy=>by
   have:=Kc _ _ y hy
   rw [←A4] at this
   simp only [aZ] at this
   omega
  simp only [ap] at h2
  refine (Sv (λ v hv=>hm v (ai w hv)) (by omega)).andThen (λ z hz=>?_) λ v hv=>cb λ q=>by rw [hv] at q;cases q
  simp only
  rw [Pk]
  simp only [aj]
  cases hv:vaB (⟨kR w 8,z⟩:Aa) with
  | false=>exact cb λ q=>by simp at q
  | true=>
   have hva:=(Gb _).1 hv
   simp only [An,B0,beq_self_eq_true,aS,cond_true]
   rw [Sg hva]
   simp only [aj]
   refine cb λ q=>⟨hva,?_⟩
   simp only [bm] at q
   rw [Eo] at q
   exact eq_of_beq q
theorem qY (x:ByteArray) (hx:x.size<=1000000):∃ (f:Nat) (W L:List ByteArray),whileN (G5 x) 1152921504606846976 (0,0,([]:List ByteArray))=some (.next ((f:Int),(x.size:Int),W))/\Ko x ((f:Int),(x.size:Int),W)=some (.next L)/\L.map (·.data.toList)=Aq x.data.toList:=by
 obtain⟨f,W,h1,h2,h3,h4⟩:=Ix x hx x.data.toList 0 0 [] 1152921504606846976 rfl (by rw [A4];omega) (ae _) (ae _) (by rw [←A4];omega)
 have h5:W.map (·.data.toList)++D5 (x.data.toList.drop f) []=Aq x.data.toList:=by
  rw [h4]
  simp only [List.take_zero,List.drop_nil,List.map_nil,bG]
  rw [L_];rfl
 by_cases hf:f<x.size
 ·refine⟨f,W,W++[x.extract f x.size],h1,?_,?_⟩
  ·unfold Ko
   have e1:decide ((f:Int)<(x.size:Int))=true:=cT (by omega)
   simp only
   rw [e1,Ns (by omega) (by omega) (Int.le_refl _)]
   simp only [cond_true,aj]
   rw [(cf (by simp only [aG];omega)).eq];rfl
  ·rw [←h5,bO,aJ,List.map_nil,Hr,bF (by rw [A4];exact ae _)]
   congr 1
   unfold D5
   cases hd:x.data.toList.drop f with
   | nil=>
    have:=congrArg List.length hd
    rw [bi,←A4] at this
    simp only [aZ] at this
    omega
   | cons c r=>rfl
 ·refine⟨f,W,W,h1,?_,?_⟩
  ·unfold Ko
   have e1:decide ((f:Int)<(x.size:Int))=false:=cU (by omega)
   simp only
   rw [e1];rfl
  ·rw [←h5,ca (by rw [←A4];omega)]
   simp [D5]
theorem Zs:∀ (L:List ByteArray) (k:Nat) (out:List Aa),(∀ s,s∈L->s.size<=1000000)->k+L.length<=1000->out.length<=k->(∀ c,c∈out->Va c) ->
  ∃ r,goP F13 F26 k (L.map (·.data.toList)) out=some r/\andThen (foldI G4 L k out) some (λ z2=>some (z2,0,0))=some r/\(∀ c,c∈r.1->Va c)/\r.1.length<=1000
 | [],k,out,_,hk,ho,hv=>⟨(out,0,0),rfl,rfl,hv,by show out.length<=1000;simp only [aZ] at hk;omega⟩
 | s :: L, k, out, hs, hk, ho, hv => by
  simp only [ap] at hk
  have hsz:=hs s ak
  obtain⟨p,hp,hpk⟩:=Sr hsz
  obtain⟨⟨c,ok⟩,hq,hqk⟩:=Wk hsz
  have es:(⟨s.data.toList.toArray⟩:ByteArray)=s:=rfl
  cases ok with
  | true=>
   obtain⟨hva,hle⟩:=hqk rfl
   have hpe:=(hpk c).2 ⟨hva,hle⟩
   subst hpe
   obtain⟨r,r1,r2,r3,r4⟩:=Zs L (k+1) (out++[c]) (λ t ht=>hs t (ai s ht)) (by omega) (by rw [ay,aG];omega) λ d hd=>by
    rcases az.1 hd with h | h
    ·exact hv d h
    ·rw [bt.1 h];exact hva
   refine⟨r,?_,?_,r3,r4⟩
   ·rw [aJ]
    unfold goP
    rw [es,hp]
    exact r1
   ·have e:G4 k s out=some (.next (out++[c])):=by
     unfold G4
     rw [hq]
     simp only [aj,bv,cond_false]
     rw [(cf (by simp only [aG];omega)).eq];rfl
    unfold foldI
    rw [e]
    exact r2
  | false=>
   have hpn:p=none:=by
    cases p with
    | none=>rfl
    | some d=>
     obtain⟨hd,hde⟩:=(hpk d).1 rfl
     rw [Sq hd hde.symm] at hq
     cases hq
   subst hpn
   refine⟨([],(k:Int),74),?_,?_,by simp,by simp⟩
   ·rw [aJ]
    unfold goP
    rw [es,hp]
   ·have e:G4 k s out=some (.ret (([]:List Aa),(k:Int),74)):=by
     unfold G4
     rw [hq]
     simp only [aj,Bool.not_false,cond_true]
     rw [Y2 (by omega)]
    unfold foldI
    rw [e];rfl
theorem F2:∀ (l:List UInt8),∀ y,y∈Aq l->y.length<=l.length
 | [],y,h=>by simp [Aq] at h
 | c :: l, y, h => by
  rw [Dz] at h
  cases hc:c==10 with
  | true=>
   rw [hc] at h
   simp only [cond_true,ag] at h
   rcases h with h | h
   ·subst h;simp
   ·have:=F2 l y h
    simp only [ap];omega
  | false=>
   rw [hc] at h
   simp only [cond_false] at h
   cases hq:Aq l with
   | nil=>
    rw [hq] at h
    simp only [bt] at h
    subst h;simp
   | cons a t=>
    rw [hq] at h
    simp only [ag] at h
    rcases h with h | h
    ·have:=F2 l a (by rw [hq];exact ak)
     subst h
     simp only [ap];omega
    ·have:=F2 l y (by rw [hq];exact ai a h)
     simp only [ap];omega
theorem Tc (x:ByteArray) (hx:x.size<=1000000):∃ r,F20 x=some r/\F21 x=some r/\F22 r.1 r.1=some true:=by
 obtain⟨f,W,L,h1,h2,h3⟩:=qY x hx
 have hlen:(Aq x.data.toList).length=L.length:=by rw [←h3,aL]
 unfold F20 Jv F21
 rw [h1,Bn,h2,Bn,cT hx]
 simp only [cond_true]
 by_cases h80:80<L.length
 ·have e1:decide ((L.length:Int)>80)=true:=cT (by omega)
  rw [e1,cT (by omega)]
  exact⟨([],80,2),rfl,rfl,rfl⟩
 ·have e1:decide ((L.length:Int)>80)=false:=cU (by omega)
  rw [e1,cU (by omega)]
  simp only [cond_false]
  obtain⟨r,r1,r2,r3,r4⟩:=Zs L 0 [] (Qy (x:=x) h3 λ y hy=>by
   have:=F2 _ y hy
   rw [←A4] at this
   omega) (by omega) (ae _) (by simp)
  rw [h3] at r1
  exact⟨r,r1,r2,qD r4 r3⟩
set_option linter.unusedVariables false
set_option linter.unusedSimpArgs false
open Go Go.SL
theorem Tj:F5=some true:=by decide +kernel
theorem u8_of (x:Int) (h:(Lit.int .u8 x).wf=true):0<=x/\x<=255:=by
 unfold Lit.wf at h
 simp only [af,cR] at h
 exact h
def Byt (l:List Int):Prop:=∀ n,n∈l->0<=n/\n<=255
theorem Xh (s:ByteArray):Byt (B8 s)/\(B8 s).length=s.size:=by
 refine⟨λ n hn=>?_,by simp [B8]⟩
 unfold B8 at hn
 obtain⟨b,_,rfl⟩:=aK.1 hn
 have:=b.toNat_lt
 omega
theorem Tg {l:List Int} (h:Byt l):Ok (Nz l) λ y=>y.size=l.length:=by
 have e:B8 ⟨(l.map λ n=>UInt8.ofNat n.toNat).toArray⟩=l:=by
  unfold B8
  show ((l.map λ n=>UInt8.ofNat n.toNat).map λ b=>(b.toNat:Int))=l
  rw [bH]
  have:∀ n,n∈l->((λ b:UInt8=>(b.toNat:Int))∘λ n:Int=>UInt8.ofNat n.toNat) n=n:=λ n hn=>by
   have:=h n hn
   show ((UInt8.ofNat n.toNat).toNat:Int)=n
   rw [UInt8.toNat_ofNat']
   omega
  conv=>rhs;rw [←List.map_id l]
  exact List.map_congr_left this
 unfold Nz
 rw [e]
 refine cQ (x:=⟨(l.map λ n=>UInt8.ofNat n.toNat).toArray⟩) (by simp) ?_
 rw [A4]
 simp
theorem Byt.set {l:List Int} (h:Byt l) (k:Nat) {v:Int} (hv:0<=v/\v<=255):Byt (l.set k v):=λ n hn=>by
 rcases bU hn with q | q
 ·exact h n q
 ·subst q;exact hv
theorem K4 {a b:ByteArray} (h:a.size+b.size<=1000000):nzI (B7 a b)=some ():=Xe (m:=a.size) (n:=b.size) rfl rfl h
theorem qX:Byt [102,105,120,32,48,32,45,49,48,32,50,48,32,53,10]:=by
 intro n hn
 simp at hn
 omega
theorem qB {s:Ad} (hs:B_ s) (l:List ByteArray) (h:1<=l.length) (h1:l.length<=1000):Ok (F19 s l) λ y=>B_ y.2/\y.1∈l:=by
 unfold F19
 refine (Py hs _ (by omega) (by omega)).bind λ y hy=>?_
 have:=hy.2
 refine (ct (by omega) (by omega)).bind λ x hx=>cb ⟨hy.1,aq hx⟩
theorem jA {x4:Int} (h:0<=x4/\x4<=255):Ok (whileN (P2 x4) 1152921504606846976 ((⟨#[]⟩:ByteArray),(0:Int))) (G6 (λ z=>z.1.size<=1000) λ _=>False):=by
 refine cr (λ z=>0<=z.2/\z.2<=82/\(z.1.size:Int)=7*z.2) (λ z=>(82-z.2).toNat) _ _ ⟨by simp,by simp,rfl⟩ (by show (82-(0:Int)).toNat<_;omega) ?_
 rintro⟨t,k⟩ ⟨h1,h2,h3⟩
 simp only at h1 h2 h3 ⊢
 unfold P2 uJ
 have ht:=Tf (x:=x4) (n:=4) (by omega) h.1
 rw [A_ (n:=x4) (by omega),A_ (n:=79+Int.tmod x4 4) (by omega)]
 refine cm (λ h4=>?_) λ h4=>?_
 ·simp only [cR] at h4
  rw [K4 (by show t.size+7<=_;omega),A_ (by omega)]
  refine cC ⟨⟨by show 0<=k+1;omega,by show k+1<=82;omega,?_⟩,by show (82-(k+1)).toNat<(82-k).toNat;omega⟩
  show ((t++(⟨#[116,105,99,107,32,49,10]⟩:ByteArray)).size:Int)=7*(k+1)
  rw [ByteArray.size_append]
  show ((t.size+7:Nat):Int)=_
  omega
 ·exact cK (by show t.size<=1000;omega)
theorem Yc {x1:ByteArray} {y8:ByteArray×Int} {z0:ByteArray×Int} {y36 y38:ByteArray} (h:∀ y,y∈[x1,y8.1,(y8.1++x1),y36,y38,z0.1,(z0.1++(⟨#[120]⟩:ByteArray))]->y.size<=1000000) :
  whileN (P1 x1 y8 z0 y36 y38) 10 0=some (.next 7):=by
 refine Nx 7 (λ k hk=>?_) rfl 10 0 (ba 7) (by omega)
 unfold P1
 have e1:decide ((k:Int)<7)=true:=cT (by omega)
 have hl:k<[x1,y8.1,(y8.1++x1),y36,y38,z0.1,(z0.1++(⟨#[120]⟩:ByteArray))].length:=hk
 rw [e1,M8 hl]
 simp only [cond_true,aj]
 obtain⟨r,r1,r2,r3⟩:=Tc _ (h _ (List.getElem_mem hl))
 rw [r1,r2]
 simp only [aj]
 have e2:((r.2.2 != r.2.2) || (r.2.1 != r.2.1))=false:=by simp
 rw [e2]
 simp only [An,B0,beq_self_eq_true,aS,cond_true]
 rw [r3]
 simp only [aj]
 have e3:Y6 r r true=false:=by simp [Y6]
 rw [e3,A_ (by omega)];rfl
theorem parses_ok (x0:List Int) (x1:ByteArray) (x2 x3 x4:Int) (h3:0<=x3/\x3<=255) (h4:0<=x4/\x4<=255):F4 x0 x1 x2 x3 x4=some true:=by
 unfold F4
 cases hl:Y7 x0 x1 with
 | true=>simp only [cond_true];rw [Tj];rfl
 | false=>
  have hx1:x1.size<=200:=by
   unfold Y7 at hl
   simp only [bX,cS] at hl
   omega
  simp only [cond_false]
  refine Ok.eq ?_
  refine (uY x0).bind λ s hs=>(S_ hs 8 (by omega) (by omega)).bind λ y hy=>?_
  obtain⟨hs1,hv,hn⟩:=hy
  rw [X4 y.1 (by omega),uB hv (by omega)]
  rw [aj]
  have hc:=Mh y.1 hv
  obtain⟨X,hX⟩:∃ X:ByteArray,X=⟨((y.1.map A7).flatten).toArray⟩:=⟨_,rfl⟩
  rw [←hX]
  have hXs:X.size<=736:=by rw [hX,K7];omega
  have e0:((0:Int) != 0)=false:=rfl
  rw [e0,cond_false]
  have hts:(X++(⟨#[116,105,99,107,32,49,10]⟩:ByteArray)).size=X.size+7:=by rw [ByteArray.size_append];rfl
  rw [K4 (by show X.size+7<=_;omega)]
  rw [aj]
  obtain⟨b1,b2⟩:=Xh (X++(⟨#[116,105,99,107,32,49,10]⟩:ByteArray))
  have hb:H9 (X++(⟨#[116,105,99,107,32,49,10]⟩:ByteArray))=some (B8 (X++(⟨#[116,105,99,107,32,49,10]⟩:ByteArray))):=by
   unfold H9
   rw [cT (by omega)];rfl
  rw [hb]
  rw [aj]
  generalize B8 (X++(⟨#[116,105,99,107,32,49,10]⟩:ByteArray))=B at b1 b2
  refine (Sf x2 _ (by omega)).bind λ m hm=>?_
  have hm':=hm.1 (by omega)
  refine (ct hm'.1 (by omega)).bind λ _ _=>(cI hm'.1 (by omega)).bind λ odd hodd=>?_
  have ho1:Byt odd:=by rw [hodd];exact b1.set _ h3
  have ho2:odd.length=X.size+7:=by rw [hodd,bR];omega
  refine (Sf x2 _ (by simp)).bind λ k hk=>?_
  have hk':0<=k/\k<15:=hk.1 (by simp)
  refine (qB hs1 _ (by simp) (by simp)).bind λ t ht=>?_
  have hb0:∃ b,Bl t.1 0=some b:=by
   have:=ht.2
   simp only [ag,bN,or_false] at this
   rcases this with e | e | e | e | e <;> rw [e] <;> exact⟨_,rfl⟩
  obtain⟨b,hb0⟩:=hb0
  rw [hb0]
  rw [aj]
  refine (ct hk'.1 (by show k<15;omega)).bind λ _ _=>(cI hk'.1 (by show k<15;omega)).bind λ nine hnine=>?_
  have hn1:Byt nine:=by
   rw [hnine]
   have:=b.toNat_lt
   exact qX.set _ (by omega)
  have hn2:nine.length=15:=by rw [hnine,bR];rfl
  refine (jA h4).andThen (λ z hz=>?_) λ v hv=>hv.elim
  rw [K4 (by show X.size+x1.size<=_;omega)]
  rw [aj]
  refine (Tg ho1).bind λ p hp=>(Tg hn1).bind λ q hq=>?_
  rw [K4 (by show z.1.size+1<=_;omega)]
  rw [aj]
  rw [Yc λ y hy=>?_,Bn,Tj]
  ·exact⟨true,rfl,rfl⟩
  ·simp only [ag,bN,or_false] at hy
   rcases hy with e | e | e | e | e | e | e
   ·rw [e];omega
   ·rw [e];show X.size<=_;omega
   ·rw [e,ByteArray.size_append];show X.size+x1.size<=_;omega
   ·rw [e,hp];omega
   ·rw [e,hq];omega
   ·rw [e];omega
   ·rw [e,ByteArray.size_append];show z.1.size+1<=_;omega
end Go.Proofs.YtaplakgdkkmpfaaGreatDoor
