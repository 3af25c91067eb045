import Derived.Test.YtpdbkiafikdgpaaGreatDoorSlA
import Derived.Lib.ItoaNum
namespace Go.SL
def Ek:List Int->List UInt8
 | []=>[]
 | x::r=>Lib.itoa x++r.flatMap λ y=>32::Lib.itoa y
def E4 (ns:List Int):List UInt8:=Ek ns++[10]
theorem Anq {ns:List Int} {k:Nat} {x:Int} (h:ns[k]? = some x):Ek (ns.take (k+1))=Ek (ns.take k)++((if k=0 then [] else [32])++Lib.itoa x):=by
 cases ns with
 | nil=>simp at h
 | cons y r=>
  cases k with
  | zero=>simp at h;subst h;simp [Ek]
  | succ k=>
   simp at h
   have e:r.take (k+1)=r.take k++[x]:=by rw [cd,h];rfl
   simp [Ek,e]
theorem Afx (ns:List Int) (k:Nat):(Ek (ns.take k)).length<=(Ek ns).length:=by
 cases ns with
 | nil=>simp
 | cons y r=>
  cases k with
  | zero=>simp [Ek]
  | succ k=>
   have h:∀ (l:List Int) (k:Nat),((l.take k).flatMap λ y=>32::Lib.itoa y).length<=(l.flatMap λ y=>32::Lib.itoa y).length:=λ l=>by
    induction l with
    | nil=>intro k;simp
    | cons z l ih=>
     intro k
     cases k with
     | zero=>simp
     | succ k=>have:=ih k;simp only [List.take_succ_cons,List.flatMap_cons,aA];omega
   have:=h r k
   simp only [List.take_succ_cons,Ek,aA];omega
def Dq (x:Bool):Int:=if x then 1 else 0
def B_ (l:List (List Int)):List UInt8:=l.flatMap E4
theorem Iq (a b:List (List Int)):B_ (a++b)=B_ a++B_ b:=by unfold B_;rw [List.flatMap_append]
theorem Ip (x:List Int):B_ [x]=E4 x:=by unfold B_;simp
def On (l:List (List Int)):Option ByteArray:=
 bif (l.all λ x=>decide (x.length<=1000000)&&x.all λ y=>decide (-9223372036854775808<=y)&&decide (y<=9223372036854775807))&&decide ((B_ l).length<=70368744177664) then some ⟨(B_ l).toArray⟩ else none
theorem Ary {l:List (List Int)} {r:ByteArray} (h:On l=some r):r=⟨(B_ l).toArray⟩/\(∀ x,x∈l->x.length<=1000000/\∀ y,y∈x -> -9223372036854775808<=y/\y<=9223372036854775807)/\(B_ l).length<=70368744177664:=by
 unfold On at h
 cases hc:(l.all λ x=>decide (x.length<=1000000)&&x.all λ y=>decide (-9223372036854775808<=y)&&decide (y<=9223372036854775807))&&decide ((B_ l).length<=70368744177664) with
 | false=>rw [hc] at h;cases h
 | true=>
  rw [hc] at h
  simp only [ae,aT,dA] at hc
  exact⟨(bH h).symm,hc.1,hc.2⟩
theorem Arz {l:List (List Int)} (h1:∀ x,x∈l->x.length<=1000000/\∀ y,y∈x -> -9223372036854775808<=y/\y<=9223372036854775807) (h2:(B_ l).length<=70368744177664):On l=some ⟨(B_ l).toArray⟩:=by
 unfold On
 have:((l.all λ x=>decide (x.length<=1000000)&&x.all λ y=>decide (-9223372036854775808<=y)&&decide (y<=9223372036854775807))&&decide ((B_ l).length<=70368744177664))=true:=by
  simp only [ae,aT,dA]
  exact⟨h1,h2⟩
 rw [this];rfl
end Go.SL
