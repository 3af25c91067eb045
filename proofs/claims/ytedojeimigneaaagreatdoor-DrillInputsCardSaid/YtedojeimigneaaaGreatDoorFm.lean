import Derived.Lib.ItoaNum
import Derived.Lib.Join
import Derived.Test.YtedojeimigneaaaGreatDoorSlJ2
import Derived.Test.YtedojeimigneaaaGreatDoorTy
set_option linter.unusedVariables false
namespace Go.Proofs.YtedojeimigneaaaGreatDoor
open Go Go.SL
def Ajz(x:Int):Option ByteArray:=bif decide (0<=x)&&decide (x<10)then some ⟨#[UInt8.ofNat (48+x.toNat)]⟩ else none
def Ajy(l:List ByteArray)(s:ByteArray):List UInt8:=Lib.join (l.map (·.data.toList)) s.data.toList
def Ajx(l:List ByteArray)(s:ByteArray):Option ByteArray:=bif (!l.isEmpty&&decide (l.length<=1000000))&&decide ((Ajy l s).length<=140737488355328)then some ⟨(Ajy l s).toArray⟩ else none
def Aaq(wi:Int->ez->Option Bool)(l:ez):Option (Ii×Bool):=match wi 1000 l with
 |some true=>match l with
  | [a0,a1,a2,a3,a4,a5,a6,a7,a8,a9,b0,b1]=>some (⟨a0,a1,a2,a3,a4,a5,a6,a7,a8,a9,b0,b1⟩,true)
  |_=>none
 |_=>none
def Qv(i:Int):Int->ez->Bool
 |_,[]=>true
 |b,n::r=>(decide (b<n)&&decide (n<i))&&Qv i n r
def I4(wd:ByteArray->Option Bool):List ByteArray->List Em->Bool
 |_,[]=>true
 |s,x::r=>((match wd x.Name with|some b=>b&&decide (x.Name.size<=100)|none=>false) && !(s.any (· == x.Name))&&(decide (1<=x.Ticks)&&decide (x.Ticks<=600))&&(decide (1<=x.Tries)&&decide (x.Tries<=3))&&Qv (s.length:Int) (-1) x.Needs)&&I4 wd (s++[x.Name]) r
def Aa3(wd:ByteArray->Option Bool)(s:C6):Option Int:=bif (decide (1<=s.Stages.length)&&decide (s.Stages.length<=12))&&I4 wd [] s.Stages then some 0 else none
def A0d(l:List Am)(p:Aa):Option Int:=some (l.foldl (λk f=>bif f.Part.Kind==p.Kind&&f.Part.Number==p.Number then f.Kind else k) 2)
end Go.Proofs.YtedojeimigneaaaGreatDoor
