import Derived.Test.YtpdbkiafikdgpaaGreatDoorSlA
import Derived.Lib.ItoaNum
namespace Go.SL
def Dn:List Int->List UInt8
 | []=>[]
 | x::r=>Lib.itoa x++r.flatMap λ y=>32::Lib.itoa y
def Cy (ns:List Int):List UInt8:=Dn ns++[10]
theorem Aof {ns:List Int} {k:Nat} {x:Int} (h:ns[k]? = some x):Dn (ns.take (k+1))=Dn (ns.take k)++((if k=0 then [] else [32])++Lib.itoa x):=by
 cases ns with
 | nil=>simp at h
 | cons y r=>
  cases k with
  | zero=>simp at h;subst h;simp [Dn]
  | succ k=>
   simp at h
   have e:r.take (k+1)=r.take k++[x]:=by rw [ce,h];rfl
   simp [Dn,e]
theorem Aga (ns:List Int) (k:Nat):(Dn (ns.take k)).length<=(Dn ns).length:=by
 cases ns with
 | nil=>simp
 | cons y r=>
  cases k with
  | zero=>simp [Dn]
  | succ k=>
   have h:∀ (l:List Int) (k:Nat),((l.take k).flatMap λ y=>32::Lib.itoa y).length<=(l.flatMap λ y=>32::Lib.itoa y).length:=λ l=>by
    induction l with
    | nil=>intro k;simp
    | cons z l ih=>
     intro k
     cases k with
     | zero=>simp
     | succ k=>have:=ih k;simp only [List.take_succ_cons,cK,aA];omega
   have:=h r k
   simp only [List.take_succ_cons,Dn,aA];omega
def Du (x:Bool):Int:=if x then 1 else 0
def Bz (l:List (List Int)):List UInt8:=l.flatMap Cy
theorem Iu (a b:List (List Int)):Bz (a++b)=Bz a++Bz b:=by unfold Bz;rw [List.flatMap_append]
theorem Is (x:List Int):Bz [x]=Cy x:=by unfold Bz;simp
def O2 (l:List (List Int)):Option ByteArray:=
 bif (l.all λ x=>decide (x.length<=1000000)&&x.all λ y=>decide (-9223372036854775808<=y)&&decide (y<=9223372036854775807))&&decide ((Bz l).length<=70368744177664) then some ⟨(Bz l).toArray⟩ else none
theorem As3 {l:List (List Int)} {r:ByteArray} (h:O2 l=some r):r=⟨(Bz l).toArray⟩/\(∀ x,x∈l->x.length<=1000000/\∀ y,y∈x -> -9223372036854775808<=y/\y<=9223372036854775807)/\(Bz l).length<=70368744177664:=by
 unfold O2 at h
 cases hc:(l.all λ x=>decide (x.length<=1000000)&&x.all λ y=>decide (-9223372036854775808<=y)&&decide (y<=9223372036854775807))&&decide ((Bz l).length<=70368744177664) with
 | false=>rw [hc] at h;cases h
 | true=>
  rw [hc] at h
  simp only [ae,aT,dF] at hc
  exact⟨(bN h).symm,hc.1,hc.2⟩
theorem As4 {l:List (List Int)} (h1:∀ x,x∈l->x.length<=1000000/\∀ y,y∈x -> -9223372036854775808<=y/\y<=9223372036854775807) (h2:(Bz l).length<=70368744177664):O2 l=some ⟨(Bz l).toArray⟩:=by
 unfold O2
 have:((l.all λ x=>decide (x.length<=1000000)&&x.all λ y=>decide (-9223372036854775808<=y)&&decide (y<=9223372036854775807))&&decide ((Bz l).length<=70368744177664))=true:=by
  simp only [ae,aT,dF]
  exact⟨h1,h2⟩
 rw [this];rfl
end Go.SL
