import Derived.Test.YtaplakgdkkmpfaaGreatDoorSlA
import Derived.Lib.ItoaNum
import Derived.Lib.Join
import Derived.Lib.Bytealg
namespace Go.SL
def M6 (x:Int):Option ByteArray:=bif decide (-9223372036854775808<=x)&&decide (x<=9223372036854775807) then some ⟨(Lib.itoa x).toArray⟩ else none
def M5 (l:List ByteArray) (s:ByteArray):List UInt8:=Lib.join (l.map (·.data.toList)) s.data.toList
def Pq (l:List ByteArray) (s:ByteArray):Option ByteArray:=bif (!l.isEmpty&&decide (l.length<=1000000))&&decide ((M5 l s).length<=140737488355328) then some ⟨(M5 l s).toArray⟩ else none
def Aq:List UInt8->List (List UInt8)
 | []=>[]
 | c::r=>bif c==10 then [c]::Aq r else match Aq r with
  | []=>[[c]]
  | l::ls=>(c::l)::ls
theorem Dz (c:UInt8) (r:List UInt8):Aq (c::r)=bif c==10 then [c]::Aq r else match Aq r with
  | []=>[[c]]
  | l::ls=>(c::l)::ls:=by rw [Aq]
theorem Ln:∀ (l:List UInt8),l≠[]->Lib.indexByte l 10 = -1->Aq l=[l]
 | [],h,_=>absurd rfl h
 | c::r,_,h=>by
  have h1:=Lib.indexByte_ge r 10
  unfold Lib.indexByte at h
  cases hc:c==10 with
  | true=>rw [hc] at h;simp at h
  | false=>
   rw [hc] at h
   simp only [Bool.false_eq_true,if_false] at h
   have h2:Lib.indexByte r 10 = -1:=by
    by_cases h3:(Lib.indexByte r 10 == -1)=true
    ·simpa using h3
    ·rw [if_neg h3] at h;omega
   rw [Dz,hc]
   cases r with
   | nil=>rfl
   | cons d r=>rw [Ln (d::r) (by simp) h2];rfl
theorem Lm:∀ (l:List UInt8) (k:Nat),Lib.indexByte l 10=k->k<l.length/\Aq l=l.take (k+1)::Aq (l.drop (k+1))
 | [],k,h=>by simp [Lib.indexByte] at h
 | c::r,k,h=>by
  have h1:=Lib.indexByte_ge r 10
  unfold Lib.indexByte at h
  rw [Dz]
  cases hc:c==10 with
  | true=>
   rw [hc] at h
   simp at h
   have:k=0:=by omega
   subst this
   simp
  | false=>
   rw [hc] at h
   simp only [Bool.false_eq_true,if_false] at h
   by_cases h3:(Lib.indexByte r 10 == -1)=true
   ·rw [if_pos h3] at h;omega
   ·rw [if_neg h3] at h
    have h4:Lib.indexByte r 10 ≠ -1:=by simpa using h3
    obtain⟨m,hm⟩:∃ m:Nat,Lib.indexByte r 10=m:=⟨(Lib.indexByte r 10).toNat,by omega⟩
    obtain⟨h5,h6⟩:=Lm r m hm
    have:k=m+1:=by omega
    subst this
    rw [h6]
    exact⟨by simp only [ap];omega,rfl⟩
end Go.SL
