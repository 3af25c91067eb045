import Derived.Test.YtaplakgdkkmpfaaDoorMo
import Derived.Test.YtaplakgdkkmpfaaDoorHo
import Derived.Lib.AtoiTie
namespace Go.Proofs.YtaplakgdkkmpfaaDoor
open Go.SL
set_option linter.unusedVariables false
theorem Ks {x n:Int} (h:0<n):-n<Int.tmod x n/\Int.tmod x n<n:=by
 have h1:=Int.tmod_lt_of_pos x h
 have h2:=Int.lt_tmod_of_pos x h
 exact⟨h2,h1⟩
theorem Vr {x n:Int} (h:0<n) (h0:0<=x):0<=Int.tmod x n/\Int.tmod x n<n:=⟨Int.tmod_nonneg n h0,(Ks h).2⟩
structure Cg (s:Ad):Prop where
 lo:0<=s.At
 hi:s.At<=s.L.length
 len:s.L.length<=600
def InR (n r:Int):Prop:=(1<=n->0<=r/\r<n)/\(n<1->r=0)
theorem Xx (x n:Int) (h:n<=4611686018427387904):Ok (F24 x n) (InR n):=by
 unfold F24
 refine cf (λ h1=>?_) λ h1=>?_
 ·simp only [cE] at h1
  exact bW ⟨λ h2=>by omega,λ _=>rfl⟩
 ·simp only [cF] at h1
  refine (Ok.nzI (by omega)).bind λ _ _=>(Ok.nzI (by omega)).bind λ _ _=>bW ⟨λ _=>?_,λ h2=>by omega⟩
  have h2:=Ks (x:=x) (n:=n) (by omega)
  rw [C6 (by omega)]
  exact Vr (by omega) (by omega)
theorem Y1 {s:Ad} (hs:Cg s) (n:Int) (h:n<=4611686018427387904):Ok (F12 s n) λ y=>Cg y.2/\InR n y.1:=by
 obtain⟨h1,h2,h3⟩:=hs
 unfold F12
 refine cf (λ h4=>?_) λ h4=>?_
 ·exact bW ⟨⟨h1,h2,h3⟩,λ h5=>⟨by simp,by show (0:Int)<n;omega⟩,λ _=>rfl⟩
 ·simp only [cF] at h4
  have e:w64 (s.At+1)=s.At+1:=C6 (by omega)
  rw [e,C6 (n:=s.At+1-1) (by omega)]
  refine (cu (by omega) (by omega)).bind λ x _=>(Xx x n h).bind λ r hr=>bW ⟨⟨?_,?_,h3⟩,hr⟩
  ·show 0<=s.At+1;omega
  ·show s.At+1<=(s.L.length:Int);omega
theorem Rw {s:Ad} (hs:Cg s) (n:Int) (h0:1<=n) (h:n<=4611686018427387904):Ok (F12 s n) λ y=>Cg y.2/\0<=y.1/\y.1<n:=
 (Y1 hs n h).mono λ _ h=>⟨h.1,h.2.1 h0⟩
theorem U7 {s:Ad} (hs:Cg s) (lo hi:Int) (h:lo<=hi) (h0:-1000000000000<=lo) (h1:hi<=1000000000000):Ok (F27 s lo hi) λ y=>Cg y.2/\lo<=y.1/\y.1<=hi:=by
 unfold F27
 have e:w64 (w64 (hi-lo)+1)=hi-lo+1:=by rw [C6 (n:=hi-lo) (by omega),C6 (by omega)]
 rw [e]
 refine (Rw hs _ (by omega) (by omega)).bind λ y hy=>bW ⟨hy.1,?_⟩
 have:=hy.2
 show lo<=w64 (lo+y.1)/\w64 (lo+y.1)<=hi
 rw [C6 (by omega)]
 omega
theorem Qj {s:Ad} (hs:Cg s) (l:List Int) (h:1<=l.length) (h1:l.length<=1000):Ok (F28 s l) λ y=>Cg y.2/\y.1∈l:=by
 unfold F28
 refine (Rw hs _ (by omega) (by omega)).bind λ y hy=>?_
 have:=hy.2
 refine (cu (by omega) (by omega)).bind λ x hx=>bW ⟨hy.1,ap hx⟩
theorem Xw (l:List Int):Ok (F7 l) Cg:=by
 unfold F7
 refine (Ok.cutI (by omega) (by omega) (by omega)).bind λ y hy=>bW ⟨by simp,by simp,?_⟩
 subst hy
 simp only [bo,aF]
 omega
def inB (n:Int):Bool:=decide (-1000000000<=n)&&decide (n<=1000000000)
def Cx (k:Int):Nat:=([0,3,2,2,7,4,1,1,1]:List Nat)[k.toNat]?.getD 0
def Im (l:List Int):Int:=l[0]?.getD 0
def vaB (c:Aa):Bool:=decide (1<=c.Kind)&&(decide (c.Kind<=8)&&(c.Numbers.length==Cx c.Kind&&(c.Numbers.all inB&&(c.Kind != 8 || (decide (1<=Im c.Numbers)&&decide (Im c.Numbers<=60))))))
structure Va (c:Aa):Prop where
 k0:1<=c.Kind
 k1:c.Kind<=8
 len:c.Numbers.length=Cx c.Kind
 inr:∀ n,n∈c.Numbers -> -1000000000<=n/\n<=1000000000
 tick:c.Kind=8->1<=Im c.Numbers/\Im c.Numbers<=60
theorem Ls (c:Aa):vaB c=true↔Va c:=by
 unfold vaB
 constructor
 ·intro h
  simp only [aa,aK,cE,aE,inB,bne_iff_ne,ne_eq,beq_iff_eq] at h
  obtain⟨a,b,d,e,f⟩:=h
  exact⟨a,b,d,e,λ hk=>f.resolve_left λ q=>q hk⟩
 ·rintro⟨a,b,d,e,f⟩
  simp only [aa,aK,cE,aE,inB,bne_iff_ne,ne_eq,beq_iff_eq]
  refine⟨a,b,d,e,?_⟩
  by_cases hk:c.Kind=8
  ·exact .inr (f hk)
  ·exact .inl hk
theorem Ji:∀ (l:List Int) (k:Nat),Bj (I0 1000000000) l k ()=bif l.all inB then some (.next ()) else some (.ret false)
 | [],_=>rfl
 | n::l,k=>by
  unfold Bj
  have e:I0 1000000000 k n ()=bif inB n then some (.next ()) else some (.ret false):=by
   unfold I0 Vm inB
   have:w64 (0-1000000000) = -1000000000:=C6 (by omega)
   rw [this]
   have q1:decide (n < -1000000000) = !decide (-1000000000<=n):=by
    by_cases h:-1000000000<=n
    ·rw [cG h,cH (by omega)];rfl
    ·rw [cH h,cG (by omega)];rfl
   have q2:decide (n>1000000000) = !decide (n<=1000000000):=by
    by_cases h:n<=1000000000
    ·rw [cG h,cH (by omega)];rfl
    ·rw [cH h,cG (by omega)];rfl
   rw [q1,q2]
   cases decide (-1000000000<=n) <;> cases decide (n<=1000000000) <;> rfl
  rw [e,List.all_cons]
  cases inB n with
  | true=>simp only [cond_true,Bool.true_and];exact Ji l (k+1)
  | false=>rfl
theorem Tq (l:List Int):F43 1000000000 l=some (l.all inB):=by
 unfold F43
 rw [Ji]
 cases l.all inB with
 | true=>rfl
 | false=>rfl
theorem Ej {k:Int} (h0:1<=k) (h1:k<=8):k=1\/k=2\/k=3\/k=4\/k=5\/k=6\/k=7\/k=8:=by omega
def L8 (k:Int):Ao:=(F38)[(k-1).toNat]?.getD default
theorem Og {k:Int} (h0:1<=k) (h1:k<=8):getI F38 (w64 (k-1))=some (L8 k):=by
 rcases Ej h0 h1 with rfl | rfl | rfl | rfl | rfl | rfl | rfl | rfl <;> rfl
theorem Uv {k:Int} (h0:1<=k) (h1:k<=8):(L8 k).numbers=(Cx k:Int):=by
 rcases Ej h0 h1 with rfl | rfl | rfl | rfl | rfl | rfl | rfl | rfl <;> rfl
theorem Qe {k:Int}:Hp k=(decide (k<1) || decide (k>8)):=rfl
theorem O_ (c:Aa):F31 c=some (vaB c):=by
 unfold F31
 rw [Qe,Tq]
 by_cases h0:1<=c.Kind
 ·by_cases h1:c.Kind<=8
  ·rw [cH (by omega), cH (by omega)]
   simp only [Bool.or_self,cond_false]
   rw [Og h0 h1]
   simp only [az,Vn]
   rw [Uv h0 h1]
   unfold vaB
   rw [cG h0,cG h1]
   by_cases hl:c.Numbers.length=Cx c.Kind
   ·have e1:((c.Numbers.length:Int) != (Cx c.Kind:Int))=false:=by rw [hl];simp
    have e2:(c.Numbers.length==Cx c.Kind)=true:=by rw [hl];simp
    rw [e1,e2]
    simp only [Bg,Ed,beq_self_eq_true,bI,cond_true,az,bf,Bool.true_and]
    cases ha:c.Numbers.all inB with
    | false=>rfl
    | true=>
     simp only [bt,cond_false,Bool.true_and]
     by_cases hk:c.Kind=8
     ·have e3:(c.Kind != 8)=false:=by rw [hk];rfl
      rw [e3]
      simp only [beq_self_eq_true,cond_true,bf]
      have hl':c.Numbers.length=1:=by rw [hl,hk];rfl
      obtain⟨n,hn⟩:=List.length_eq_one_iff.1 hl'
      rw [hn]
      have eg:getI [n] 0=some n:=rfl
      rw [eg]
      have:Im [n]=n:=rfl
      simp only [az,Bool.true_and,this]
      by_cases hn1:n>=1
      ·rw [cG hn1];simp
      ·rw [cH hn1];simp
     ·have e3:(c.Kind != 8)=true:=by simpa using hk
      rw [e3]
      simp
   ·have e1:((c.Numbers.length:Int) != (Cx c.Kind:Int))=true:=by simp;omega
    have e2:(c.Numbers.length==Cx c.Kind)=false:=by simp;omega
    rw [e1,e2]
    simp [Bg,Ed]
  ·rw [cG (show c.Kind>8 by omega)]
   simp only [Bool.or_true,cond_true,vaB]
   rw [cH h1]
   simp [Bg,Ed]
 ·rw [cG (show c.Kind<1 by omega)]
  simp only [Bool.true_or,cond_true,vaB]
  rw [cH h0]
  simp [Bg,Ed]
theorem Va.of {c:Aa} (h:Va c):F31 c=some true:=by rw [O_,(Ls c).2 h]
theorem T6 {l:List Aa} (h:l.length<=9223372036854775807):F16 l=some (l.any λ c=>!vaB c):=by
 have h1:∀ c,F30 c=some (!vaB c):=λ c=>by
  unfold F30
  rw [O_];rfl
 unfold F16 Nm Nl
 rw [Sk (λ c=>!vaB c) (λ i x=>by
  unfold Km
  rw [h1];rfl) l h]
 simp only [az]
 rw [Ut]
theorem W8 {s:Ad} (hs:Cg s) (n:Nat) (hn:n<=10):Ok (whileN Lq 1152921504606846976 ((n:Int),s.L,s.At,([]:List Int)))
  (Pl (λ z=>Cg ⟨z.2.1,z.2.2.1⟩/\z.2.2.2.length=n/\∀ x,x∈z.2.2.2 -> -1000000000<=x/\x<=1000000000) λ _=>False):=by
 refine ck (λ z=>Cg ⟨z.2.1,z.2.2.1⟩/\0<=z.1/\z.1<=10/\z.1+(z.2.2.2.length:Int)=n/\∀ x,x∈z.2.2.2 -> -1000000000<=x/\x<=1000000000) (λ z=>z.1.toNat) _ _ ⟨hs,by omega,by omega,by simp,by simp⟩ (by omega) ?_
 rintro⟨k,L,A,out⟩ ⟨h1,h2,h3,h4,h5⟩
 simp only at h1 h2 h3 h4 h5 ⊢
 unfold Lq
 refine cf (λ h6=>?_) λ h6=>?_
 ·simp only [cE] at h6
  refine (Qj h1 _ (by simp) (by simp)).bind λ y hy=>(cv (by simp;omega)).bind λ z hz=>?_
  subst hz
  rw [C6 (by omega)]
  refine cz ⟨⟨hy.1,by show 0<=k-1;omega,by show k-1<=10;omega,by simp;omega,λ x hx=>?_⟩,by show (k-1).toNat<k.toNat;omega⟩
  simp only [ax,bH] at hx
  rcases hx with hx | hx
  ·exact h5 x hx
  ·subst hx
   have:=hy.2
   simp at this
   omega
 ·simp only [cF] at h6
  exact cC ⟨h1,by show out.length=n;omega,h5⟩
theorem Rc {s:Ad} (hs:Cg s):Ok (F15 s) λ y=>Cg y.2/\Va y.1:=by
 unfold F15
 refine (U7 hs 1 8 (by omega) (by omega) (by omega)).bind λ y hy=>?_
 obtain⟨hs1,h1,h2⟩:=hy
 have hk:getI ([0,3,2,2,7,4,1,1,1]:List Int) y.1=some (Cx y.1:Int):=by
  rcases Ej h1 h2 with h | h | h | h | h | h | h | h <;> rw [h] <;> rfl
 have hn:Cx y.1<=10:=by
  rcases Ej h1 h2 with h | h | h | h | h | h | h | h <;> rw [h] <;> decide
 rw [hk]
 simp only [az]
 refine (W8 hs1 _ hn).andThen (λ z hz=>?_) λ v hv=>hv.elim
 obtain⟨hs2,hl,hin⟩:=hz
 refine cf (λ h=>?_) λ h=>?_
 ·simp only [beq_iff_eq] at h
  have hl1:z.2.2.2.length=1:=by rw [hl,h];rfl
  obtain⟨n,hn⟩:=List.length_eq_one_iff.1 hl1
  refine (Qj hs2 _ (by simp) (by simp)).bind λ p hp=>?_
  rw [hn]
  refine (cu (by omega) (by simp)).bind λ _ _=>(cD (by omega) (by simp)).bind λ q hq=>?_
  subst hq
  have:=hp.2
  simp at this
  refine bW ⟨hp.1,by show 1<=y.1;omega,by show y.1<=8;omega,?_,λ x hx=>?_,λ _=>?_⟩
  ·show 1=Cx y.1
   rw [h];rfl
  ·have hx':x=p.1:=by simpa using hx
   omega
  ·show 1<=p.1/\p.1<=60
   omega
 ·have h':y.1≠8:=by simpa using h
  exact bW ⟨hs2,by show 1<=y.1;omega,by show y.1<=8;omega,hl,hin,λ q=>absurd q h'⟩
theorem P0 {s:Ad} (hs:Cg s) (n:Int) (h0:0<=n) (h1:n<=1000):Ok (F8 s n) λ y=>Cg y.2/\(∀ c,c∈y.1->Va c)/\(y.1.length:Int)<=n:=by
 unfold F8
 rw [C6 (by omega)]
 refine (Rw hs _ (by omega) (by omega)).bind λ y hy=>?_
 obtain⟨hs1,h2,h3⟩:=hy
 refine Ok.andThen (A:=λ z=>Cg ⟨z.2.1,z.2.2.1⟩/\(∀ c,c∈z.2.2.2->Va c)/\(z.2.2.2.length:Int)<=n) (B:=λ _=>False) ?_ (λ z hz=>bW ⟨hz.1,hz.2.1,hz.2.2⟩) λ v hv=>hv.elim
 refine ck (λ z=>Cg ⟨z.2.1,z.2.2.1⟩/\0<=z.1/\z.1<=1000/\z.1+(z.2.2.2.length:Int)<=n/\∀ c,c∈z.2.2.2->Va c) (λ z=>z.1.toNat) _ _ ⟨hs1,by show 0<=y.1;omega,by show y.1<=1000;omega,by show y.1+((0:Nat):Int)<=n;omega,by simp⟩ (by show y.1.toNat<_;omega) ?_
 rintro⟨k,L,A,out⟩ ⟨h4,h5,h6,h7,h8⟩
 simp only at h4 h5 h6 h7 h8 ⊢
 unfold Ry
 refine cf (λ h9=>?_) λ h9=>?_
 ·simp only [cE] at h9
  refine (Rc h4).bind λ c hc=>(cv (by simp;omega)).bind λ z hz=>?_
  subst hz
  rw [C6 (by omega)]
  refine cz ⟨⟨hc.1,by show 0<=k-1;omega,by show k-1<=1000;omega,by simp;omega,λ x hx=>?_⟩,by show (k-1).toNat<k.toNat;omega⟩
  simp only [ax,bH] at hx
  rcases hx with hx | hx
  ·exact h8 x hx
  ·subst hx;exact hc.2
 ·exact cC ⟨h4,h8,by show (out.length:Int)<=n;omega⟩
set_option linter.unusedVariables false
set_option linter.unusedSimpArgs false
open Go Go.SL
def Bn:List UInt8->List (List UInt8)
 | []=>[[]]
 | c::r=>if c=32 then []::Bn r else match Bn r with
  | []=>[[c]]
  | w::ws=>(c::w)::ws
theorem Ha:∀ (l:List UInt8),(Lib.indexByte l 32 = -1/\Bn l=[l]/\l.count 32=0) \/
  ∃ i:Nat,Lib.indexByte l 32=i/\i<l.length/\Bn l=l.take i::Bn (l.drop (i+1))/\l.count 32=(l.drop (i+1)).count 32+1
 | []=>.inl ⟨rfl,rfl,rfl⟩
 | c :: r => by
  by_cases hc:c=32
  ·subst hc
   refine .inr ⟨0,?_,by simp,?_,?_⟩
   ·unfold Lib.indexByte;rfl
   ·simp [Bn]
   ·simp
  ·have hb:(c==32)=false:=by simpa using hc
   rcases Ha r with⟨h1,h2,h3⟩ | ⟨i,h1,h2,h3,h4⟩
   ·refine .inl ⟨?_,?_,?_⟩
    ·unfold Lib.indexByte;rw [hb,h1];rfl
    ·unfold Bn;rw [if_neg hc,h2]
    ·rw [List.count_cons_of_ne (by simpa using hc),h3]
   ·refine .inr ⟨i+1,?_,by simp only [aL];omega,?_,?_⟩
    ·unfold Lib.indexByte
     rw [hb,h1]
     have:(((i:Nat):Int) == -1)=false:=by simp
     rw [this];simp
    ·rw [Bn,if_neg hc,h3];rfl
    ·rw [List.count_cons_of_ne (by simpa using hc),h4];rfl
theorem E0 (l:List UInt8):(⟨l.toArray⟩:ByteArray).data.toList=l:=rfl
theorem K8 (s:ByteArray) (a b:Nat):(s.extract a b).data.toList=(s.data.toList.drop a).take (b-a):=by
 simp only [ByteArray.data_extract,Array.toList_extract]
theorem Mq:∀ (k:Nat) (s:ByteArray),s.data.toList.count 32=k->(Lib.splitB Cm 0 k s).map (·.data.toList)=Bn s.data.toList
 | 0,s,h=>by
  rcases Ha s.data.toList with⟨h1,h2,h3⟩ | ⟨i,h1,h2,h3,h4⟩
  ·rw [h2];rfl
  ·omega
 | k+1,s,h=>by
  rcases Ha s.data.toList with⟨h1,h2,h3⟩ | ⟨i,h1,h2,h3,h4⟩
  ·omega
  ·have hix:Lib.indexB s Cm=(i:Int):=by
    show Lib.index s.data.toList [32]=_
    rw [Lib.index_one,h1]
   rw [Lib.splitB_hit Cm 0 k s i hix,aW,h3,K8]
   have e1:(s.extract (i+Cm.size) s.size).data.toList=s.data.toList.drop (i+1):=by
    rw [K8]
    refine bM ?_
    rw [bo,Lib.size_eq]
    exact ai _
   rw [Mq k _ (by rw [e1];omega),e1]
   simp
theorem Se (s:ByteArray):(Cw s).map (·.data.toList)=Bn s.data.toList:=by
 unfold Cw
 refine Mq _ s ?_
 exact (Lib.count_one 32 s.data.toList).symm
def NoB (b:UInt8) (l:List UInt8):Prop:=∀ c,c∈l->c≠b
theorem Jm:∀ {w:List UInt8} (r:List UInt8),NoB 32 w->Bn (w++32::r)=w::Bn r
 | [],r,_=>by simp [Bn]
 | c::w,r,h=>by
  have hc:c≠32:=h c aj
  rw [br,Bn,if_neg hc,Jm r λ d hd=>h d (ah c hd)]
theorem Ku:∀ {w:List UInt8},NoB 32 w->Bn w=[w]
 | [],_=>rfl
 | c::w,h=>by
  have hc:c≠32:=h c aj
  rw [Bn,if_neg hc,Ku λ d hd=>h d (ah c hd)]
def Cj (ws:List (List UInt8)):List UInt8:=(ws.map (32 :: ·)).flatten
theorem H4:∀ (ws:List (List UInt8)) {w:List UInt8},NoB 32 w->(∀ x,x∈ws->NoB 32 x)->Bn (w++Cj ws)=w::ws
 | [],w,h,_=>by simp [Cj,Ku h]
 | x::ws,w,h,h2=>by
  have e:Cj (x::ws)=32::(x++Cj ws):=by simp [Cj]
  rw [e,Jm _ h,H4 ws (h2 x aj) λ y hy=>h2 y (ah x hy)]
theorem Jw:∀ {b:List UInt8} (r:List UInt8),NoB 10 b->Av (b++10::r)=(b++[10])::Av r
 | [],r,_=>by rw [bO,Dk];rfl
 | c::b,r,h=>by
  have hc:(c==10)=false:=by simpa using h c aj
  rw [br,Dk,hc,Jw r λ d hd=>h d (ah c hd)]
  rfl
def DgB (c:UInt8):Prop:=48<=c.toNat/\c.toNat<=57
theorem Nh {d:Nat} (h:d<10):(UInt8.ofNat (48+d)).toNat=48+d:=by
 rw [UInt8.toNat_ofNat']
 omega
theorem Ix (u:Nat):∀ c,c∈Lib.decDigits u->DgB c:=by
 induction u using Nat.strongRecOn with
 | _ u ih=>
  intro c hc
  rw [Lib.decDigits] at hc
  split at hc
  ·rename_i h
   rw [bH] at hc
   subst hc
   have:=Nh h
   unfold DgB;omega
  ·rename_i h
   rcases ax.1 hc with q | q
   ·exact ih (u / 10) (by omega) c q
   ·rw [bH] at q
    subst q
    have:=Nh (d:=u % 10) (by omega)
    unfold DgB;omega
theorem J1:∀ (l m:List UInt8) (acc:Nat),Lib.decFrom acc (l++m)=(Lib.decFrom acc l).bind λ a=>Lib.decFrom a m
 | [],_,_=>rfl
 | c::l,m,acc=>by
  rw [br,Lib.decFrom,Lib.decFrom]
  cases Lib.digitVal c with
  | none=>rfl
  | some d=>exact J1 l m _
theorem Mc (u:Nat):Lib.decFrom 0 (Lib.decDigits u)=some u:=by
 induction u using Nat.strongRecOn with
 | _ u ih=>
  rw [Lib.decDigits]
  split
  ·rename_i h
   have:=Nh h
   rw [Lib.decFrom]
   have e:Lib.digitVal (UInt8.ofNat (48+u))=some u:=by
    unfold Lib.digitVal
    rw [this,if_pos (by omega)];congr 1;omega
   rw [e]
   simp [Lib.decFrom]
  ·rename_i h
   rw [J1,ih (u / 10) (by omega)]
   have:=Nh (d:=u % 10) (by omega)
   simp only [az]
   rw [Lib.decFrom]
   have e:Lib.digitVal (UInt8.ofNat (48+u % 10))=some (u % 10):=by
    unfold Lib.digitVal
    rw [this,if_pos (by omega)];congr 1;omega
   rw [e]
   simp only [Lib.decFrom,ag]
   omega
theorem Iw (u:Nat):Lib.decDigits u≠[]:=by
 intro h
 have:=Lib.decDigits_length u
 rw [h] at this
 have:=Lib.nDigits_pos u
 simp at *
 omega
theorem Hw (u:Nat):Lib.decNat (Lib.decDigits u)=some u:=by
 unfold Lib.decNat
 have:(Lib.decDigits u).isEmpty=false:=by
  cases h:Lib.decDigits u with
  | nil=>exact absurd h (Iw u)
  | cons _ _=>rfl
 rw [this]
 simp only [Bool.false_eq_true,if_false]
 exact Mc u
theorem K1:∀ {u:Nat},u<=1000000000->Lib.nDigits u<=10:=by
 intro u h
 by_cases h0:Lib.nDigits u<=10
 ·exact h0
 ·have h1:∀ (k v:Nat),Lib.nDigits v=k+1->1<=v->10 ^ k<=v:=by
   intro k
   induction k with
   | zero=>intro v _ h;simpa using h
   | succ k ih=>
    intro v hv h1
    by_cases hs:v<10
    ·rw [Lib.nDigits_small hs] at hv;omega
    ·rw [Lib.nDigits_big hs] at hv
     have:=ih (v / 10) (by omega) (by omega)
     rw [Nat.pow_succ];omega
  have hu:1<=u:=by
   rcases Nat.eq_zero_or_pos u with e | e
   ·subst e;rw [Lib.nDigits_small (by omega)] at h0;omega
   ·exact e
  obtain⟨k,hk⟩:∃ k,Lib.nDigits u=k+1:=⟨Lib.nDigits u-1,by omega⟩
  have h2:=h1 k u hk hu
  have h3:10 ^ 10<=10 ^ k:=Nat.pow_le_pow_right (by omega) (by omega)
  have:(10:Nat) ^ 10=10000000000:=by decide
  omega
theorem Od {n:Int} (h:-1000000000<=n/\n<=1000000000):(Lib.itoa n).length<=11:=by
 unfold Lib.itoa
 split
 ·rw [aL,Lib.decDigits_length]
  have:=K1 (u:=n.natAbs) (by omega)
  omega
 ·rw [Lib.decDigits_length]
  have:=K1 (u:=n.toNat) (by omega)
  omega
theorem To (n:Int):Lib.atoi (Lib.itoa n)=some n:=by
 unfold Lib.itoa
 split
 ·rename_i h
  unfold Lib.atoi
  simp only [beq_self_eq_true,if_true,Hw,bC,ag]
  omega
 ·rename_i h
  have hd:=Ix n.toNat
  have hn:=Hw n.toNat
  cases hl:Lib.decDigits n.toNat with
  | nil=>exact absurd hl (Iw _)
  | cons c r=>
   rw [hl] at hd hn
   have hc:=hd c aj
   unfold DgB at hc
   unfold Lib.atoi
   have h1:(c==45)=false:=by
    have:c≠45:=λ e=>by subst e;simp at hc
    simpa using this
   have h2:(c==43)=false:=by
    have:c≠43:=λ e=>by subst e;simp at hc
    simpa using this
   simp only [h1,h2,Bool.false_eq_true,if_false,hn,bC,ag]
   omega
theorem O7 {n:Int} (h:-1000000000<=n/\n<=1000000000):Lib.atoiAll (Lib.itoa n) = .ok n:=by
 rw [Lib.atoiAll_short _ (by have:=Od h;omega),To];rfl
theorem Qd (n:Int) (b:UInt8) (hb:b=32\/b=10):NoB b (Lib.itoa n):=by
 have hd:∀ u,NoB b (Lib.decDigits u):=λ u c hc e=>by
  have:=Ix u c hc
  unfold DgB at this
  subst e
  rcases hb with e | e <;> (subst e;simp at this)
 unfold Lib.itoa
 split
 ·intro c hc
  rcases af.1 hc with q | q
  ·subst q
   rcases hb with e | e <;> subst e <;> decide
  ·exact hd _ c q
 ·exact hd _
theorem Ur {n:Int} (h:-1000000000<=n/\n<=1000000000):K5 n=some ⟨(Lib.itoa n).toArray⟩:=by
 unfold K5
 rw [cG (by omega),cG (by omega)];rfl
def F1 (k:Int):List UInt8:=kw[(k-1).toNat]?.getD []
def Cp (c:Aa):List UInt8:=F1 c.Kind++Cj (c.Numbers.map Lib.itoa)
def A4 (c:Aa):List UInt8:=Cp c++[10]
theorem G8 {k:Int} (h0:1<=k) (h1:k<=8):Fs (F1 k)=k/\(∀ c,c∈F1 k->c≠32/\c≠10)/\(F1 k).length<=7/\(L8 k).word=⟨(F1 k).toArray⟩:=by
 rcases Ej h0 h1 with rfl | rfl | rfl | rfl | rfl | rfl | rfl | rfl <;> exact⟨by decide,by decide,by decide,rfl⟩
theorem Mo:∀ (ns:List Int),(∀ n,n∈ns -> -1000000000<=n/\n<=1000000000)->(Cj (ns.map Lib.itoa)).length<=12*ns.length
 | [],_=>by simp [Cj]
 | n::ns,h=>by
  have h1:=Od (h n aj)
  have h2:=Mo ns λ m hm=>h m (ah n hm)
  have e:Cj ((n::ns).map Lib.itoa)=32::(Lib.itoa n++Cj (ns.map Lib.itoa)):=by simp [Cj]
  rw [e]
  simp only [aL,aI]
  omega
theorem Np:∀ (ns:List Int),NoB 10 (Cj (ns.map Lib.itoa))
 | [],c,hc=>by simp [Cj] at hc
 | n::ns,c,hc=>by
  have e:Cj ((n::ns).map Lib.itoa)=32::(Lib.itoa n++Cj (ns.map Lib.itoa)):=by simp [Cj]
  rw [e] at hc
  rcases af.1 hc with q | q
  ·subst q;decide
  ·rcases ax.1 q with q | q
   ·exact Qd n 10 (.inr rfl) c q
   ·exact Np ns c q
theorem Ic {k:Int} (h0:1<=k) (h1:k<=8):Cx k<=7:=by
 rcases Ej h0 h1 with rfl | rfl | rfl | rfl | rfl | rfl | rfl | rfl <;> decide
theorem Hq {c:Aa} (h:Va c):NoB 10 (Cp c)/\(Cp c).length<=91:=by
 obtain⟨_,w2,w3,_⟩:=G8 h.k0 h.k1
 have h1:=Mo c.Numbers h.inr
 have h2:=h.len
 have h3:=Ic h.k0 h.k1
 refine⟨λ b hb=>?_,?_⟩
 ·rcases ax.1 hb with q | q
  ·exact (w2 b q).2
  ·exact Np _ b q
 ·unfold Cp
  rw [aI];omega
theorem Po {c:Aa} (h:Va c):Bn (Cp c)=F1 c.Kind::c.Numbers.map Lib.itoa:=by
 obtain⟨_,w2,w3,_⟩:=G8 h.k0 h.k1
 refine H4 _ (λ b hb=>(w2 b hb).1) λ x hx=>?_
 obtain⟨n,_,rfl⟩:=aO.1 hx
 exact Qd n 32 (.inl rfl)
theorem Jy:∀ (l:List Aa),(∀ c,c∈l->Va c)->Av (l.map A4).flatten=l.map A4
 | [],_=>rfl
 | c::l,h=>by
  rw [aW,bv]
  have e:A4 c++(l.map A4).flatten=Cp c++10::(l.map A4).flatten:=by simp [A4]
  rw [e,Jw _ (Hq (h c aj)).1,Jy l λ d hd=>h d (ah c hd)]
  rfl
theorem Kj:∀ (l:List Aa),(∀ c,c∈l->Va c)->((l.map A4).flatten).length<=92*l.length
 | [],_=>by simp
 | c::l,h=>by
  have h1:=(Hq (h c aj)).2
  have h2:=Kj l λ d hd=>h d (ah c hd)
  rw [aW,bv,aI,aL]
  have:(A4 c).length=(Cp c).length+1:=by simp [A4]
  omega
theorem V6 {l:List Aa} (h:l≠[]):(l.map A4).flatten≠[]:=by
 cases l with
 | nil=>exact absurd rfl h
 | cons c l=>simp [A4]
set_option linter.unusedVariables false
set_option linter.unusedSimpArgs false
open Go Go.SL
theorem Mu:∀ (ns:List Int) (i:Nat) (z:List ByteArray),(∀ n,n∈ns -> -1000000000<=n/\n<=1000000000)->z.length+ns.length<=1000 ->
  Bj I1 ns i z=some (.next (z++ns.map λ n=>(⟨(Lib.itoa n).toArray⟩:ByteArray)))
 | [],_,z,_,_=>by simp [Bj]
 | n::ns,i,z,h,hl=>by
  simp only [aL] at hl
  unfold Bj
  have e:I1 i n z=some (.next (z++[⟨(Lib.itoa n).toArray⟩])):=by
   unfold I1 F33
   rw [Ur (h n aj)]
   simp only [az]
   rw [(cv (by simp only [bJ];omega)).eq];rfl
  rw [e]
  simp only
  rw [Mu ns (i+1) _ (λ m hm=>h m (ah n hm)) (by rw [aI,bJ];omega)]
  simp
theorem U1 {a b:ByteArray} {m n:Nat} (ha:a.size=m) (hb:b.size=n) (h:m+n<=1000000):Ho a b=1:=by
 unfold Ho
 rw [ha,hb,cG (by omega)];rfl
theorem Um (b:ByteArray) {m:Nat} (ha:b.size=m) (h:m<=1000):((nzI (Ho b (⟨#[10]⟩:ByteArray))).bind λ u=>some (b++(⟨#[10]⟩:ByteArray)))=some (b++(⟨#[10]⟩:ByteArray)):=by
 rw [U1 (n:=1) ha rfl (by omega)];rfl
theorem Qk {c:Aa} (h:Va c):F18 c=some ⟨(A4 c).toArray⟩:=by
 obtain⟨_,w2,w3,w4⟩:=G8 h.k0 h.k1
 have hb:=(Hq h).2
 have hn:=Ic h.k0 h.k1
 have hl:=h.len
 unfold F18
 rw [Qe,cH (by have:=h.k0;omega),cH (by have:=h.k1;omega)]
 simp only [Bool.or_self,cond_false]
 rw [Og h.k0 h.k1]
 simp only [az]
 rw [w4,Mu c.Numbers 0 _ h.inr (by simp only [bJ];omega)]
 simp only [andThen]
 have ej:K4 ([⟨(F1 c.Kind).toArray⟩]++c.Numbers.map λ n=>(⟨(Lib.itoa n).toArray⟩:ByteArray)) ⟨#[32]⟩=Cp c:=by
  unfold K4 Cp
  rw [List.singleton_append,aW,Lib.join_cons,List.map_map]
  unfold Lib.joinTail Cj
  simp only [List.map_map]
  rfl
 have e2:F34 ([⟨(F1 c.Kind).toArray⟩]++c.Numbers.map λ n=>(⟨(Lib.itoa n).toArray⟩:ByteArray)) ⟨#[32]⟩=some ⟨(Cp c).toArray⟩:=by
  unfold F34 Ng
  rw [ej,cG (by rw [aI,bJ,aM];omega),cG (by omega)]
  rfl
 obtain⟨b,hb2⟩:∃ b:ByteArray,b=⟨(Cp c).toArray⟩:=⟨_,rfl⟩
 rw [←hb2] at e2
 rw [e2,az]
 have hz:b.size=(Cp c).length:=by rw [hb2,Lib.size_eq]
 rw [Um b hz (by omega),hb2,ag]
 unfold A4
 refine ByteArray.ext ?_
 rw [ByteArray.data_append]
 simp
theorem S0 {c:Aa} (h:Va c):(A4 c).length<=92:=by
 have:=(Hq h).2
 unfold A4
 rw [aI,bJ];omega
theorem K0:∀ (ns:List Int) (r:List ByteArray),(∀ n,n∈ns -> -1000000000<=n/\n<=1000000000)->r.map (·.data.toList)=ns.map Lib.itoa->Co r=some ns
 | [],r,_,h=>by
  cases r with
  | nil=>rfl
  | cons _ _=>simp at h
 | n::ns,r,h,he=>by
  cases r with
  | nil=>simp at he
  | cons b r=>
   simp only [aW,List.cons.injEq] at he
   unfold Co
   rw [he.1,O7 (h n aj)]
   simp only
   rw [K0 ns r (λ m hm=>h m (ah n hm)) he.2]
   rfl
theorem Tl {c:Aa} (h:Va c):Re ⟨(A4 c).toArray⟩=some c:=by
 have ht:Dn ⟨(A4 c).toArray⟩=⟨(Cp c).toArray⟩:=by
  unfold Dn A4
  rw [E0]
  unfold Lib.trimSuffix Lib.hasSuffix
  have:([10]:List UInt8).isSuffixOf (Cp c++[10])=true:=by
   rw [List.isSuffixOf_iff_suffix]
   exact List.suffix_append _ _
  rw [if_pos this]
  simp
 unfold Re
 rw [ht]
 have hw:=Se ⟨(Cp c).toArray⟩
 rw [E0,Po h] at hw
 cases hq:Cw ⟨(Cp c).toArray⟩ with
 | nil=>rw [hq] at hw;simp at hw
 | cons w r=>
  rw [hq] at hw
  simp only [aW,List.cons.injEq] at hw
  simp only
  rw [K0 c.Numbers r h.inr hw.2,hw.1,(G8 h.k0 h.k1).1]
  rfl
theorem Pp {c:Aa} (h:Va c):Fo F31 F18 ⟨(A4 c).toArray⟩=some (some c):=by
 have hl:=S0 h
 unfold Fo
 rw [cG (by rw [Lib.size_eq,E0];omega),Tl h]
 simp only [cond_true,h.of,Qk h]
 have:((⟨(A4 c).toArray⟩:ByteArray).toList==(⟨(A4 c).toArray⟩:ByteArray).toList)=true:=by simp
 rw [this];rfl
theorem My:∀ (l:List Aa) (k:Nat) (out:List Aa),(∀ c,c∈l->Va c)->goP F31 F18 k (l.map A4) out=some (out++l,0,0)
 | [],_,out,_=>by simp [goP]
 | c::l,k,out,h=>by
  rw [aW]
  unfold goP
  rw [Pp (h c aj)]
  simp only
  rw [My l (k+1) _ λ d hd=>h d (ah c hd)]
  simp
theorem P3 {l:List Aa} (h:∀ c,c∈l->Va c) (hl:l.length<=80):F10 ⟨((l.map A4).flatten).toArray⟩=some (l,0,0):=by
 have hc:=Kj l h
 unfold F10 Ia
 rw [cG (by rw [Lib.size_eq,E0];omega),E0,Jy l h]
 simp only [cond_true]
 rw [cH (by rw [aM];omega)]
 simp only [cond_false]
 rw [My l 0 [] h];rfl
theorem J2:∀ (l:List Aa),(∀ c,c∈l->Va c)->Cf F18 l=some (l.map A4).flatten
 | [],_=>rfl
 | c::l,h=>by
  unfold Cf
  rw [Qk (h c aj)]
  simp only
  rw [J2 l λ d hd=>h d (ah c hd)]
  rfl
def foP (l:List Aa):ByteArray×Int:=if 80<l.length then (⟨#[]⟩,2) else if (l.any λ c=>!vaB c)=true then (⟨#[]⟩,74) else (⟨((l.map A4).flatten).toArray⟩,0)
theorem Xn {l:List Aa} (h:(l.any λ c=>!vaB c)=false):∀ c,c∈l->Va c:=by
 intro c hc
 rw [List.any_eq_false] at h
 have:=h c hc
 refine (Ls c).1 ?_
 cases hv:vaB c with
 | true=>rfl
 | false=>rw [hv] at this;simp at this
theorem T1 (l:List Aa) (hl:l.length<=9223372036854775807):F9 l=some (foP l):=by
 unfold F9 Gx foP
 by_cases h1:80<l.length
 ·rw [cG h1,if_pos h1];rfl
 ·rw [cH h1, if_neg h1, T6 hl]
  simp only [cond_false]
  cases h2:(l.any λ c=>!vaB c) with
  | true=>rw [if_pos rfl]
  | false=>
   have hv:=Xn h2
   have hc:=Kj l hv
   rw [if_neg (by simp),J2 l hv]
   simp only
   have e:(decide (((l.map A4).flatten).length<=1000000)&&(l.isEmpty || !((l.map A4).flatten).isEmpty))=true:=by
    rw [cG (by omega)]
    cases l with
    | nil=>rfl
    | cons c l=>
     cases hq:((List.map A4 (c::l)).flatten) with
     | nil=>exact absurd hq (V6 (by simp))
     | cons _ _=>rfl
   rw [e];rfl
theorem Xa {l:List Aa} (h:∀ c,c∈l->Va c) (hl:l.length<=80):foP l=(⟨((l.map A4).flatten).toArray⟩,0):=by
 unfold foP
 have e:(l.any λ c=>!vaB c)=false:=by
  rw [List.any_eq_false]
  intro c hc
  rw [(Ls c).2 (h c hc)];simp
 rw [if_neg (by omega),if_neg (by rw [e];simp)]
set_option linter.unusedVariables false
theorem P4 {ρ:Type} {f:Int->Option (Ctl Int ρ)} (n:Nat) (hc:∀ k:Nat,k<n->f (k:Int)=some (.next ((k+1:Nat):Int))) (he:f (n:Int)=some (.brk (n:Int))):∀ (fuel k:Nat),k<=n->n-k<fuel->whileN f fuel (k:Int)=some (.next (n:Int))
 | 0,_,_,h=>absurd h (Nat.not_lt_zero _)
 | fuel+1,k,hk,hf=>by
  unfold whileN
  by_cases h:k<n
  ·rw [hc k h]
   exact P4 n hc he fuel (k+1) h (by omega)
  ·have:k=n:=by omega
   subst this
   rw [he]
theorem Q2 {α:Type} {l:List α} {k:Nat} (h:k<l.length):getI l (k:Int)=some l[k]:=by
 unfold getI
 rw [cG (by omega)]
 simp only [cond_true,bN]
 exact am h
theorem Ts (a:List Aa) (h:a.length<=1000000) (hn:∀ c,c∈a->c.Numbers.length<=1000000):F11 a a=some true:=by
 unfold F11
 have e:((a.length:Int) != (a.length:Int))=false:=by simp
 rw [e]
 simp only [cond_false]
 rw [O9 a 0 λ j y hj=>?_]
 ·rfl
 ·have hlt:=(ac.1 hj).1
  have ey:a[j]=y:=(ac.1 hj).2
  have hl:=hn y (ap hj)
  have eg:getI a (cnt 0 j)=some y:=by rw [Xh (by omega),Q2 hlt,ey]
  unfold Pk
  rw [aS,eg]
  simp only [az]
  have e1:(y.Kind != y.Kind)=false:=by simp
  rw [e1]
  simp only [Bg,Ed,beq_self_eq_true,bI,cond_true,az]
  have e2:Ri y y y=false:=by simp [Ri]
  rw [e2]
  simp only [cond_false]
  have ew:whileN (I2 a j y) 1152921504606846976 0=some (.next (y.Numbers.length:Int)):=by
   refine P4 y.Numbers.length (λ k hk=>?_) ?_ 1152921504606846976 0 (bc _) (by omega)
   ·unfold I2
    have e:Rh y (k:Int)=true:=cG (by omega)
    rw [e,Q2 hk,eg]
    simp only [cond_true,az]
    rw [Q2 hk]
    simp only [az]
    have e3:(y.Numbers[k] != y.Numbers[k])=false:=by simp
    rw [e3,C6 (by omega)];rfl
   ·unfold I2
    have e:Rh y (y.Numbers.length:Int)=false:=cH (by omega)
    rw [e];rfl
  rw [ew];rfl
theorem Wl {a:List Aa} (h:a.length<=1000) (hv:∀ c,c∈a->Va c):F11 a a=some true:=
 Ts a (by omega) λ c hc=>by
  have:=(hv c hc).len
  have:=Ic (hv c hc).k0 (hv c hc).k1
  omega
set_option linter.unusedVariables false
theorem P7:F6=some true:=by decide +kernel
theorem back_ok (x0:List Int):F3 x0=some true:=by
 unfold F3
 cases hl:decide ((x0.length:Int)>600) with
 | true=>simp only [cond_true];rw [P7];rfl
 | false=>
  simp only [cond_false]
  refine Ok.eq ?_
  refine (Xw x0).bind λ s hs=>(P0 hs 14 (by omega) (by omega)).bind λ y hy=>?_
  obtain⟨hs1,hv,hn⟩:=hy
  rw [T1 y.1 (by omega),Xa hv (by omega)]
  simp only [az]
  rw [P3 hv (by omega)]
  simp only [az]
  rw [Wl (by omega) hv,P7]
  exact⟨true,rfl,rfl⟩
end Go.Proofs.YtaplakgdkkmpfaaDoor
