import Derived.Test.YtpdbkiafikdgpaaGreatDoorSlA
import Derived.Lib.ItoaNum
namespace Go.SL
def Cu:List Int->List UInt8
 | []=>[]
 | x::r=>Lib.itoa x++r.flatMap λ y=>32::Lib.itoa y
def Ca (ns:List Int):List UInt8:=Cu ns++[10]
theorem Aa2 {ns:List Int} {k:Nat} {x:Int} (h:ns[k]? = some x):Cu (ns.take (k+1))=Cu (ns.take k)++((if k=0 then [] else [32])++Lib.itoa x):=by
 cases ns with
 | nil=>simp at h
 | cons y r=>
  cases k with
  | zero=>simp at h;subst h;simp [Cu]
  | succ k=>
   simp at h
   have e:r.take (k+1)=r.take k++[x]:=by rw [bN,h];rfl
   simp [Cu,e]
theorem Yq (ns:List Int) (k:Nat):(Cu (ns.take k)).length<=(Cu ns).length:=by
 cases ns with
 | nil=>simp
 | cons y r=>
  cases k with
  | zero=>simp [Cu]
  | succ k=>
   have h:∀ (l:List Int) (k:Nat),((l.take k).flatMap λ y=>32::Lib.itoa y).length<=(l.flatMap λ y=>32::Lib.itoa y).length:=λ l=>by
    induction l with
    | nil=>intro k;simp
    | cons z l ih=>
     intro k
     cases k with
     | zero=>simp
     | succ k=>have:=ih k;simp only [List.take_succ_cons,bZ,au];omega
   have:=h r k
   simp only [List.take_succ_cons,Cu,au];omega
def Cm (x:Bool):Int:=if x then 1 else 0
def Bk (l:List (List Int)):List UInt8:=l.flatMap Ca
theorem Fp (a b:List (List Int)):Bk (a++b)=Bk a++Bk b:=by unfold Bk;rw [List.flatMap_append]
theorem Fo (x:List Int):Bk [x]=Ca x:=by unfold Bk;simp
def Jc (l:List (List Int)):Option ByteArray:=
 bif (l.all λ x=>decide (x.length<=1000000)&&x.all λ y=>decide (-9223372036854775808<=y)&&decide (y<=9223372036854775807))&&decide ((Bk l).length<=70368744177664) then some ⟨(Bk l).toArray⟩ else none
theorem Afb {l:List (List Int)} {r:ByteArray} (h:Jc l=some r):r=⟨(Bk l).toArray⟩/\(∀ x,x∈l->x.length<=1000000/\∀ y,y∈x -> -9223372036854775808<=y/\y<=9223372036854775807)/\(Bk l).length<=70368744177664:=by
 unfold Jc at h
 cases hc:(l.all λ x=>decide (x.length<=1000000)&&x.all λ y=>decide (-9223372036854775808<=y)&&decide (y<=9223372036854775807))&&decide ((Bk l).length<=70368744177664) with
 | false=>rw [hc] at h;cases h
 | true=>
  rw [hc] at h
  simp only [ac,aK,cY] at hc
  exact⟨(bd h).symm,hc.1,hc.2⟩
theorem Afc {l:List (List Int)} (h1:∀ x,x∈l->x.length<=1000000/\∀ y,y∈x -> -9223372036854775808<=y/\y<=9223372036854775807) (h2:(Bk l).length<=70368744177664):Jc l=some ⟨(Bk l).toArray⟩:=by
 unfold Jc
 have:((l.all λ x=>decide (x.length<=1000000)&&x.all λ y=>decide (-9223372036854775808<=y)&&decide (y<=9223372036854775807))&&decide ((Bk l).length<=70368744177664))=true:=by
  simp only [ac,aK,cY]
  exact⟨h1,h2⟩
 rw [this];rfl
end Go.SL
