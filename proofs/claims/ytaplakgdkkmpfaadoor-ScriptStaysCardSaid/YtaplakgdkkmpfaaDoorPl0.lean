import Derived.Test.YtaplakgdkkmpfaaDoorMo
namespace Go.Proofs.YtaplakgdkkmpfaaDoor
open Go.SL
set_option linter.unusedVariables false
open Go Go.SL
set_option maxRecDepth 1000000
theorem L9 {n:Int} (h:-9223372036854775808<=n/\n<=9223372036854775807):w64 n=n:=IntWalk.i64_in n h
theorem N_:F6=some true:=by decide +kernel
def Sv (q k:Int):Option Bool:=
 (F13 [(⟨4,[1,2,3,4,5,6,7]⟩:Aa),(⟨6,[q]⟩:Aa),(⟨7,[4]⟩:Aa),(⟨1,[1,2,3]⟩:Aa),(⟨8,[k]⟩:Aa)] 9).bind λ y8=>(Bw [(((y8.2 != 0) || ((y8.1.length:Int) != k)),false)] (Ao y8.1 0) default).bind λ y10=>(Bw [((((y8.2 != 0) || ((y8.1.length:Int) != k)) || ((y10.Seen.length:Int) != 1)),false)] (Ao y8.1 0) default).bind λ y12=>bif ((((y8.2 != 0) || ((y8.1.length:Int) != k)) || ((y10.Seen.length:Int) != 1)) || ((y12.Acts.length:Int) != 1)) then some false else andThen (Cx Pt y8.1 0 ()) some λ z0=>some true
theorem Rm:∀ q,q∈[0,1,2,3,4]->∀ k,k∈[2,3,4,5,6,7,8,9,10]->Sv q k=some true:=by decide +kernel
theorem V_ (x0:List Int):∃ q s,(F12 (⟨x0,0⟩:Am) 5)=some (q,s)/\q∈[(0:Int),1,2,3,4]:=by
 unfold F12
 cases x0 with
 | nil=>exact⟨0,_,rfl,by simp⟩
 | cons a r=>
  have h1:decide ((⟨a::r,0⟩:Am).At>=((⟨a::r,0⟩:Am).L.length:Int))=false:=by
   simp
  rw [h1]
  have h2:Ao (a::r) (w64 ((w64 ((0:Int)+1))-1))=some a:=rfl
  simp only [cond_false]
  rw [h2]
  simp only [bg]
  have h3:F24 a 5=some (Int.tmod (w64 ((Int.tmod a 5)+5)) 5):=rfl
  rw [h3]
  refine⟨_,_,rfl,?_⟩
  have h4:-4<=Int.tmod a 5/\Int.tmod a 5<=4:=by
   have q1:=Int.tmod_lt_of_pos a (b:=5) (by decide)
   have q2:=Int.lt_tmod_of_pos a (b:=5) (by decide)
   omega
  have h5:w64 (Int.tmod a 5+5)=Int.tmod a 5+5:=L9 (by omega)
  rw [h5]
  have h6:0<=Int.tmod (Int.tmod a 5+5) 5/\Int.tmod (Int.tmod a 5+5) 5<=4:=by
   rw [Int.tmod_eq_emod_of_nonneg (by omega)]
   omega
  simp only [af,bv,or_false]
  omega
theorem stays_ok (x0:List Int) (x1:Int) (h0:0<=x1) (h1:x1<=255):F5 x0 x1=some true:=by
 unfold F5
 cases hl:decide ((x0.length:Int)>600) with
 | true=>simp only [cond_true];rw [N_];rfl
 | false=>
  simp only [decide_eq_false_iff_not] at hl
  simp only [cond_false]
  have e7:F7 x0=some (⟨x0,0⟩:Am):=by
   unfold F7
   have:Nb x0 0 (min (x0.length:Int) 600)=some x0:=by
    rw [show min (x0.length:Int) 600=x0.length by omega]
    simp [Nb]
   rw [this];rfl
  rw [e7]
  simp only [bg]
  obtain⟨q,s,e,hq⟩:=V_ x0
  rw [e]
  simp only [bg]
  obtain⟨k,hk⟩:∃ k,w64 (2+(Int.tmod (w64 x1) 9))=k:=⟨_,rfl⟩
  have hk2:k∈[(2:Int),3,4,5,6,7,8,9,10]:=by
   rw [←hk,L9 (n:=x1) (by omega)]
   have:0<=Int.tmod x1 9/\Int.tmod x1 9<=8:=by
    rw [Int.tmod_eq_emod_of_nonneg h0]
    omega
   rw [L9 (by omega)]
   simp only [af,bv,or_false]
   omega
  have hc:∀ y8 y10 y12,Sg x1 y8 y10 y12=((((y8.2 != 0) || ((y8.1.length:Int) != k)) || ((y10.Seen.length:Int) != 1)) || ((y12.Acts.length:Int) != 1)):=λ y8 y10 y12=>by unfold Sg;rw [hk]
  simp only [hc]
  rw [hk]
  have:=Rm q hq k hk2
  unfold Sv at this
  rw [N_]
  exact this
theorem u8_of (x:Int) (h:(Lit.int .u8 x).wf=true):0<=x/\x<=255:=by
 unfold Lit.wf at h
 simp only [aa,ch] at h
 exact h
end Go.Proofs.YtaplakgdkkmpfaaDoor
