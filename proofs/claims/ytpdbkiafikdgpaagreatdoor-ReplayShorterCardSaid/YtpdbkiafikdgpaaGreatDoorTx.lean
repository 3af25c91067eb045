import Derived.Test.YtpdbkiafikdgpaaGreatDoorSlA
import Derived.Lib.ItoaNum
namespace Go.SL
def Ek:List Int->List UInt8
 | []=>[]
 | x::r=>Lib.itoa x++r.flatMap λ y=>32::Lib.itoa y
def E3 (ns:List Int):List UInt8:=Ek ns++[10]
theorem Ano {ns:List Int} {k:Nat} {x:Int} (h:ns[k]? = some x):Ek (ns.take (k+1))=Ek (ns.take k)++((if k=0 then [] else [32])++Lib.itoa x):=by
 cases ns with
 | nil=>simp at h
 | cons y r=>
  cases k with
  | zero=>simp at h;subst h;simp [Ek]
  | succ k=>
   simp at h
   have e:r.take (k+1)=r.take k++[x]:=by rw [bZ,h];rfl
   simp [Ek,e]
theorem Afv (ns:List Int) (k:Nat):(Ek (ns.take k)).length<=(Ek ns).length:=by
 cases ns with
 | nil=>simp
 | cons y r=>
  cases k with
  | zero=>simp [Ek]
  | succ k=>
   have h:∀ (l:List Int) (k:Nat),((l.take k).flatMap λ y=>32::Lib.itoa y).length<=(l.flatMap λ y=>32::Lib.itoa y).length:=λ l=>by
    induction l with
    | nil=>intro k;simp
    | cons z l ih=>
     intro k
     cases k with
     | zero=>simp
     | succ k=>have:=ih k;simp only [List.take_succ_cons,List.flatMap_cons,aA];omega
   have:=h r k
   simp only [List.take_succ_cons,Ek,aA];omega
def Dq (x:Bool):Int:=if x then 1 else 0
def Ca (l:List (List Int)):List UInt8:=l.flatMap E3
theorem Ip (a b:List (List Int)):Ca (a++b)=Ca a++Ca b:=by unfold Ca;rw [List.flatMap_append]
theorem Io (x:List Int):Ca [x]=E3 x:=by unfold Ca;simp
def Oo (l:List (List Int)):Option ByteArray:=
 bif (l.all λ x=>decide (x.length<=1000000)&&x.all λ y=>decide (-9223372036854775808<=y)&&decide (y<=9223372036854775807))&&decide ((Ca l).length<=70368744177664) then some ⟨(Ca l).toArray⟩ else none
theorem Arx {l:List (List Int)} {r:ByteArray} (h:Oo l=some r):r=⟨(Ca l).toArray⟩/\(∀ x,x∈l->x.length<=1000000/\∀ y,y∈x -> -9223372036854775808<=y/\y<=9223372036854775807)/\(Ca l).length<=70368744177664:=by
 unfold Oo at h
 cases hc:(l.all λ x=>decide (x.length<=1000000)&&x.all λ y=>decide (-9223372036854775808<=y)&&decide (y<=9223372036854775807))&&decide ((Ca l).length<=70368744177664) with
 | false=>rw [hc] at h;cases h
 | true=>
  rw [hc] at h
  simp only [ae,aT,dA] at hc
  exact⟨(bH h).symm,hc.1,hc.2⟩
theorem Ary {l:List (List Int)} (h1:∀ x,x∈l->x.length<=1000000/\∀ y,y∈x -> -9223372036854775808<=y/\y<=9223372036854775807) (h2:(Ca l).length<=70368744177664):Oo l=some ⟨(Ca l).toArray⟩:=by
 unfold Oo
 have:((l.all λ x=>decide (x.length<=1000000)&&x.all λ y=>decide (-9223372036854775808<=y)&&decide (y<=9223372036854775807))&&decide ((Ca l).length<=70368744177664))=true:=by
  simp only [ae,aT,dA]
  exact⟨h1,h2⟩
 rw [this];rfl
end Go.SL
