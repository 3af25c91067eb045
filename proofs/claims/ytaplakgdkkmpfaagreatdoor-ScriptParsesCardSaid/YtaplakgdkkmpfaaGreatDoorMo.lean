import Derived.Test.YtaplakgdkkmpfaaGreatDoorTy
import Derived.Test.YtaplakgdkkmpfaaGreatDoorFo
set_option linter.unusedVariables false
namespace Go.Proofs.YtaplakgdkkmpfaaGreatDoor
open Go.SL
abbrev Sg0:=Int×(List Int)×Int×(List Aa)
abbrev Sg1:=Int×Int×Int×Int×Int×Int×Int×Int×Int×(List Ax)×(List C5)×(List B9)×(List Int)×(List Ai)
abbrev Sg2:=Int×Int×Int×Int×Int×Int×Int×Int×Int×Int×Int×Int×Int×Int×Int×Int×(List Ax)×(List C5)×(List B9)×(List Int)×(List Ai)
def F44:(List As):=
 [(⟨(⟨#[97,99,116]⟩:ByteArray),3,56⟩:As),(⟨(⟨#[98,114,101,97,107]⟩:ByteArray),2,57⟩:As),(⟨(⟨#[109,101,110,100]⟩:ByteArray),2,59⟩:As),(⟨(⟨#[119,101,97,116,104,101,114]⟩:ByteArray),7,60⟩:As),(⟨(⟨#[102,105,120]⟩:ByteArray),4,61⟩:As),(⟨(⟨#[114,101,113,117,101,115,116]⟩:ByteArray),1,62⟩:As),(⟨(⟨#[115,101,101,110]⟩:ByteArray),1,63⟩:As),(⟨(⟨#[116,105,99,107]⟩:ByteArray),1,64⟩:As)]
def I9 (x0:Int):Bool:=((decide (x0<1)) || (decide (x0>(F44.length:Int))))
def F29 (x0:Int):Option As:=
 bif (I9 x0) then none else getI F44 (w64 (x0-1))
def Zw (x0:Int) (a0:Int):Bool:=((decide (a0<(w64 (0-x0)))) || (decide (a0>x0)))
def Kk (x0:Int) (n0:Nat) (a0:Int) (z0:Unit):Option (Ctl Unit Bool):=
 bif (Zw x0 a0) then some (.ret false) else some (.next ())
def F30 (x0:Int) (x1:List Int):Option Bool:=
 andThen (foldI (Kk x0) x1 0 ()) some λ z0=>some true
def Zy (x0:Aa) (y4:As) (y6:Bool):Bool:=(((x0.Numbers.length:Int) != y4.numbers) || (!y6))
def F13 (x0:Aa):Option Bool:=
 bif (I9 x0.Kind) then (An [(true,false)] (F30 1000000000 x0.Numbers) default).bind λ y2=>some false else (getI F44 (w64 (x0.Kind-1))).bind λ y4=>(An [(((x0.Numbers.length:Int) != y4.numbers),false)] (F30 1000000000 x0.Numbers) default).bind λ y6=>bif (Zy x0 y4 y6) then some false else (An [((x0.Kind != 8),false)] (getI x0.Numbers 0) default).bind λ y9=>(An [((x0.Kind != 8),false),(decide (y9>=1),true)] (getI x0.Numbers 0) default).bind λ y11=>some ((x0.Kind != 8) || ((decide (y9>=1))&&(decide (y11<=60))))
def F41 (x0:Int):Option (ByteArray):=M6 x0
def F42 (x0:List ByteArray) (x1:ByteArray):Option (ByteArray):=Pq x0 x1
def X6 (n0:Nat) (a0:Int) (z0:(List ByteArray)):Option (Ctl ((List ByteArray)) Unit):=
 (F41 a0).bind λ y2=>(appI 17 z0 [y2]).bind λ y4=>some (.next y4)
def Km (n1:Nat) (a1:Int) (z1:(List ByteArray)):Option (Ctl ((List ByteArray)) Unit):=
 (F41 a1).bind λ y12=>(appI 17 z1 [y12]).bind λ y14=>some (.next y14)
def F26 (x0:Aa):Option ByteArray:=
 bif (I9 x0.Kind) then andThen (foldI X6 x0.Numbers 0 [ByteArray.empty]) (λ _=>none) λ z0=>(F42 z0 (⟨#[32]⟩:ByteArray)).bind λ y6=>(nzI (B7 y6 (⟨#[10]⟩:ByteArray))).bind λ u9=>some (y6++(⟨#[10]⟩:ByteArray)) else (getI F44 (w64 (x0.Kind-1))).bind λ y10=>andThen (foldI Km x0.Numbers 0 [y10.word]) (λ _=>none) λ z1=>(F42 z1 (⟨#[32]⟩:ByteArray)).bind λ y16=>(nzI (B7 y16 (⟨#[10]⟩:ByteArray))).bind λ u19=>some (y16++(⟨#[10]⟩:ByteArray))
def F20 (x0:ByteArray):Option (List Aa×Int×Int):=Jv F13 F26 x0
def X5 (n0:Nat) (a0:Aa) (z0:Int):Option (Ctl Int Unit):=
 (An [((a0.Kind==8),true)] (F13 a0) default).bind λ y1=>bif ((a0.Kind==8)&&y1) then (getI a0.Numbers 0).bind λ y4=>some (.next (w64 (z0+y4))) else some (.next z0)
def F32 (x0:List Aa):Option Int:=
 andThen (foldI X5 x0 0 0) (λ _=>none) λ z0=>some z0
def F39 (x0:Aa):Option Bool:=
 (F13 x0).bind λ y1=>some (!y1)
def Ml (n0:Nat) (a0:Aa) (z0:Unit):Option (Ctl Unit Int):=
 (F39 a0).bind λ y1=>bif y1 then some (.ret (cnt 0 n0)) else some (.next ())
def P0 (x0:List Aa):Option Int:=
 andThen (foldI Ml x0 0 ()) some λ z0=>some (-1)
def P3 (x0:List Aa):Option Bool:=
 (P0 x0).bind λ y1=>some (decide (y1>=0))
def F24 (x0:List Aa):Option Bool:=
 (P3 x0).bind λ y1=>some y1
def jP (z0:Sg1) (z1:Int×(List Ax)):Bool:=decide (z1.1<(z0.2.2.2.2.2.2.2.2.2.1.length:Int))
def Sj (x0:Ab) (z0:Sg1) (z1:Int×(List Ax)):Option (Ctl (Int×(List Ax)) Unit):=
 bif (jP z0 z1) then (getI z1.2 z1.1).bind λ y5=>(setI z1.2 z1.1 (⟨y5.Reference,(⟨w64 ((w64 (x0.time+1))+(z0.2.2.2.2.2.2.2.2.2.2.2.2.2.length:Int)),y5.Fix.X,y5.Fix.Y,y5.Fix.Error⟩:Ib)⟩:Ax)).bind λ y7=>some (.next (w64 (z1.1+1),y7)) else some (.brk (z1.1,z1.2))
def Sk (x0:Ab) (y1:Int) (z0:Sg1):Option (Ctl (Sg1) Unit):=
 bif decide (z0.1<y1) then andThen (whileN (Sj x0 z0) 1152921504606846976 (0,z0.2.2.2.2.2.2.2.2.2.1)) (λ _=>none) λ z1=>(appI 161 z0.2.2.2.2.2.2.2.2.2.2.2.2.2 [(⟨x0.weather,x0.heading,z1.2,z0.2.2.2.2.2.2.2.2.2.2.1,z0.2.2.2.2.2.2.2.2.2.2.2.1,z0.2.2.2.2.2.2.2.2.1,z0.2.2.2.2.2.2.2.2.2.2.2.2.1⟩:Ai)]).bind λ y9=>some (.next (w64 (z0.1+1),0,0,0,0,0,0,0,0,([]:List Ax),([]:List C5),([]:List B9),([]:List Int),y9)) else some (.brk (z0.1,z0.2.1,z0.2.2.1,z0.2.2.2.1,z0.2.2.2.2.1,z0.2.2.2.2.2.1,z0.2.2.2.2.2.2.1,z0.2.2.2.2.2.2.2.1,z0.2.2.2.2.2.2.2.2.1,z0.2.2.2.2.2.2.2.2.2.1,z0.2.2.2.2.2.2.2.2.2.2.1,z0.2.2.2.2.2.2.2.2.2.2.2.1,z0.2.2.2.2.2.2.2.2.2.2.2.2.1,z0.2.2.2.2.2.2.2.2.2.2.2.2.2))
def Vl (x0:Ab) (x1:List Int):Option Ab:=
 (getI x1 0).bind λ y1=>andThen (whileN (Sk x0 y1) 1152921504606846976 (0,x0.next.Weather.Wind.From,x0.next.Weather.Wind.Speed,x0.next.Weather.Current.From,x0.next.Weather.Current.Speed,x0.next.Weather.Wave.From,x0.next.Weather.Wave.Speed,x0.next.Heading,x0.next.Request,x0.next.Sights,x0.next.Acts,x0.next.Faults,x0.next.Seen,x0.out)) (λ _=>none) λ z0=>some (⟨x0.time,x0.weather,x0.heading,(⟨(⟨(⟨z0.2.1,z0.2.2.1⟩:Ac),(⟨z0.2.2.2.1,z0.2.2.2.2.1⟩:Ac),(⟨z0.2.2.2.2.2.1,z0.2.2.2.2.2.2.1⟩:Ac)⟩:Af),z0.2.2.2.2.2.2.2.1,z0.2.2.2.2.2.2.2.2.2.1,z0.2.2.2.2.2.2.2.2.2.2.1,z0.2.2.2.2.2.2.2.2.2.2.2.1,z0.2.2.2.2.2.2.2.2.1,z0.2.2.2.2.2.2.2.2.2.2.2.2.1⟩:Ai),z0.2.2.2.2.2.2.2.2.2.2.2.2.2⟩:Ab)
def Vm (x0:Ab) (x1:List Int):Option Ab:=
 (getI x1 0).bind λ y1=>(appI 9 x0.next.Seen [y1]).bind λ y3=>some (⟨x0.time,x0.weather,x0.heading,(⟨x0.next.Weather,x0.next.Heading,x0.next.Sights,x0.next.Acts,x0.next.Faults,x0.next.Request,y3⟩:Ai),x0.out⟩:Ab)
def Vn (x0:Ab) (x1:List Int):Option Ab:=
 (getI x1 0).bind λ y1=>some (⟨x0.time,x0.weather,x0.heading,(⟨x0.next.Weather,x0.next.Heading,x0.next.Sights,x0.next.Acts,x0.next.Faults,y1,x0.next.Seen⟩:Ai),x0.out⟩:Ab)
def Vo (x0:Ab) (x1:List Int):Option Ab:=
 (getI x1 0).bind λ y1=>(getI x1 1).bind λ y3=>(getI x1 2).bind λ y5=>(getI x1 3).bind λ y7=>(appI 41 x0.next.Sights [(⟨y1,(⟨0,y3,y5,y7⟩:Ib)⟩:Ax)]).bind λ y9=>some (⟨x0.time,x0.weather,x0.heading,(⟨x0.next.Weather,x0.next.Heading,y9,x0.next.Acts,x0.next.Faults,x0.next.Request,x0.next.Seen⟩:Ai),x0.out⟩:Ab)
def Vp (x0:Ab) (x1:List Int):Option Ab:=
 (getI x1 0).bind λ y1=>(getI x1 1).bind λ y3=>(getI x1 2).bind λ y5=>(getI x1 3).bind λ y7=>(getI x1 4).bind λ y9=>(getI x1 5).bind λ y11=>(getI x1 6).bind λ y13=>some (⟨x0.time,(⟨(⟨y1,y3⟩:Ac),(⟨y5,y7⟩:Ac),(⟨y9,y11⟩:Ac)⟩:Af),y13,x0.next,x0.out⟩:Ab)
def Pz (x0:Ab) (x1:Int) (x2:List Int):Option Ab:=
 (getI x2 0).bind λ y1=>(getI x2 1).bind λ y3=>(appI 33 x0.next.Faults [(⟨0,x1,(⟨y1,y3⟩:Jc)⟩:B9)]).bind λ y5=>some (⟨x0.time,x0.weather,x0.heading,(⟨x0.next.Weather,x0.next.Heading,x0.next.Sights,x0.next.Acts,y5,x0.next.Request,x0.next.Seen⟩:Ai),x0.out⟩:Ab)
def Vq (x0:Ab) (x1:List Int):Option Ab:=
 (Pz x0 2 x1).bind λ y1=>some y1
def Vr (x0:Ab) (x1:List Int):Option Ab:=
 (Pz x0 1 x1).bind λ y1=>some y1
def Vs (x0:Ab) (x1:List Int):Option Ab:=
 (getI x1 0).bind λ y1=>(getI x1 1).bind λ y3=>(getI x1 2).bind λ y5=>(appI 25 x0.next.Acts [(⟨y1,y3,y5⟩:C5)]).bind λ y7=>some (⟨x0.time,x0.weather,x0.heading,(⟨x0.next.Weather,x0.next.Heading,x0.next.Sights,y7,x0.next.Faults,x0.next.Request,x0.next.Seen⟩:Ai),x0.out⟩:Ab)
def yK (x0:List Aa) (y1:Int):Bool:=((decide ((x0.length:Int)>80)) || (decide (y1>60)))
def yJ (x1:Int):Bool:=((decide (x1<0)) || (decide (x1>2147483648)))
def X7 (n0:Nat) (a0:Aa) (z0:Sg2):Option (Ctl (Sg2) Unit):=
 bif (I9 a0.Kind) then none else (getI F44 (w64 (a0.Kind-1))).bind λ y9=>bif (Nat.beq y9.say 56) then (Vs (⟨z0.1,(⟨(⟨z0.2.1,z0.2.2.1⟩:Ac),(⟨z0.2.2.2.1,z0.2.2.2.2.1⟩:Ac),(⟨z0.2.2.2.2.2.1,z0.2.2.2.2.2.2.1⟩:Ac)⟩:Af),z0.2.2.2.2.2.2.2.1,(⟨(⟨(⟨z0.2.2.2.2.2.2.2.2.1,z0.2.2.2.2.2.2.2.2.2.1⟩:Ac),(⟨z0.2.2.2.2.2.2.2.2.2.2.1,z0.2.2.2.2.2.2.2.2.2.2.2.1⟩:Ac),(⟨z0.2.2.2.2.2.2.2.2.2.2.2.2.1,z0.2.2.2.2.2.2.2.2.2.2.2.2.2.1⟩:Ac)⟩:Af),z0.2.2.2.2.2.2.2.2.2.2.2.2.2.2.1,z0.2.2.2.2.2.2.2.2.2.2.2.2.2.2.2.2.1,z0.2.2.2.2.2.2.2.2.2.2.2.2.2.2.2.2.2.1,z0.2.2.2.2.2.2.2.2.2.2.2.2.2.2.2.2.2.2.1,z0.2.2.2.2.2.2.2.2.2.2.2.2.2.2.2.1,z0.2.2.2.2.2.2.2.2.2.2.2.2.2.2.2.2.2.2.2.1⟩:Ai),z0.2.2.2.2.2.2.2.2.2.2.2.2.2.2.2.2.2.2.2.2⟩:Ab) a0.Numbers).bind λ y33=>some (.next (y33.time,y33.weather.Wind.From,y33.weather.Wind.Speed,y33.weather.Current.From,y33.weather.Current.Speed,y33.weather.Wave.From,y33.weather.Wave.Speed,y33.heading,y33.next.Weather.Wind.From,y33.next.Weather.Wind.Speed,y33.next.Weather.Current.From,y33.next.Weather.Current.Speed,y33.next.Weather.Wave.From,y33.next.Weather.Wave.Speed,y33.next.Heading,y33.next.Request,y33.next.Sights,y33.next.Acts,y33.next.Faults,y33.next.Seen,y33.out)) else bif (Nat.beq y9.say 57) then (Vr (⟨z0.1,(⟨(⟨z0.2.1,z0.2.2.1⟩:Ac),(⟨z0.2.2.2.1,z0.2.2.2.2.1⟩:Ac),(⟨z0.2.2.2.2.2.1,z0.2.2.2.2.2.2.1⟩:Ac)⟩:Af),z0.2.2.2.2.2.2.2.1,(⟨(⟨(⟨z0.2.2.2.2.2.2.2.2.1,z0.2.2.2.2.2.2.2.2.2.1⟩:Ac),(⟨z0.2.2.2.2.2.2.2.2.2.2.1,z0.2.2.2.2.2.2.2.2.2.2.2.1⟩:Ac),(⟨z0.2.2.2.2.2.2.2.2.2.2.2.2.1,z0.2.2.2.2.2.2.2.2.2.2.2.2.2.1⟩:Ac)⟩:Af),z0.2.2.2.2.2.2.2.2.2.2.2.2.2.2.1,z0.2.2.2.2.2.2.2.2.2.2.2.2.2.2.2.2.1,z0.2.2.2.2.2.2.2.2.2.2.2.2.2.2.2.2.2.1,z0.2.2.2.2.2.2.2.2.2.2.2.2.2.2.2.2.2.2.1,z0.2.2.2.2.2.2.2.2.2.2.2.2.2.2.2.1,z0.2.2.2.2.2.2.2.2.2.2.2.2.2.2.2.2.2.2.2.1⟩:Ai),z0.2.2.2.2.2.2.2.2.2.2.2.2.2.2.2.2.2.2.2.2⟩:Ab) a0.Numbers).bind λ y30=>some (.next (y30.time,y30.weather.Wind.From,y30.weather.Wind.Speed,y30.weather.Current.From,y30.weather.Current.Speed,y30.weather.Wave.From,y30.weather.Wave.Speed,y30.heading,y30.next.Weather.Wind.From,y30.next.Weather.Wind.Speed,y30.next.Weather.Current.From,y30.next.Weather.Current.Speed,y30.next.Weather.Wave.From,y30.next.Weather.Wave.Speed,y30.next.Heading,y30.next.Request,y30.next.Sights,y30.next.Acts,y30.next.Faults,y30.next.Seen,y30.out)) else bif (Nat.beq y9.say 59) then (Vq (⟨z0.1,(⟨(⟨z0.2.1,z0.2.2.1⟩:Ac),(⟨z0.2.2.2.1,z0.2.2.2.2.1⟩:Ac),(⟨z0.2.2.2.2.2.1,z0.2.2.2.2.2.2.1⟩:Ac)⟩:Af),z0.2.2.2.2.2.2.2.1,(⟨(⟨(⟨z0.2.2.2.2.2.2.2.2.1,z0.2.2.2.2.2.2.2.2.2.1⟩:Ac),(⟨z0.2.2.2.2.2.2.2.2.2.2.1,z0.2.2.2.2.2.2.2.2.2.2.2.1⟩:Ac),(⟨z0.2.2.2.2.2.2.2.2.2.2.2.2.1,z0.2.2.2.2.2.2.2.2.2.2.2.2.2.1⟩:Ac)⟩:Af),z0.2.2.2.2.2.2.2.2.2.2.2.2.2.2.1,z0.2.2.2.2.2.2.2.2.2.2.2.2.2.2.2.2.1,z0.2.2.2.2.2.2.2.2.2.2.2.2.2.2.2.2.2.1,z0.2.2.2.2.2.2.2.2.2.2.2.2.2.2.2.2.2.2.1,z0.2.2.2.2.2.2.2.2.2.2.2.2.2.2.2.1,z0.2.2.2.2.2.2.2.2.2.2.2.2.2.2.2.2.2.2.2.1⟩:Ai),z0.2.2.2.2.2.2.2.2.2.2.2.2.2.2.2.2.2.2.2.2⟩:Ab) a0.Numbers).bind λ y27=>some (.next (y27.time,y27.weather.Wind.From,y27.weather.Wind.Speed,y27.weather.Current.From,y27.weather.Current.Speed,y27.weather.Wave.From,y27.weather.Wave.Speed,y27.heading,y27.next.Weather.Wind.From,y27.next.Weather.Wind.Speed,y27.next.Weather.Current.From,y27.next.Weather.Current.Speed,y27.next.Weather.Wave.From,y27.next.Weather.Wave.Speed,y27.next.Heading,y27.next.Request,y27.next.Sights,y27.next.Acts,y27.next.Faults,y27.next.Seen,y27.out)) else bif (Nat.beq y9.say 60) then (Vp (⟨z0.1,(⟨(⟨z0.2.1,z0.2.2.1⟩:Ac),(⟨z0.2.2.2.1,z0.2.2.2.2.1⟩:Ac),(⟨z0.2.2.2.2.2.1,z0.2.2.2.2.2.2.1⟩:Ac)⟩:Af),z0.2.2.2.2.2.2.2.1,(⟨(⟨(⟨z0.2.2.2.2.2.2.2.2.1,z0.2.2.2.2.2.2.2.2.2.1⟩:Ac),(⟨z0.2.2.2.2.2.2.2.2.2.2.1,z0.2.2.2.2.2.2.2.2.2.2.2.1⟩:Ac),(⟨z0.2.2.2.2.2.2.2.2.2.2.2.2.1,z0.2.2.2.2.2.2.2.2.2.2.2.2.2.1⟩:Ac)⟩:Af),z0.2.2.2.2.2.2.2.2.2.2.2.2.2.2.1,z0.2.2.2.2.2.2.2.2.2.2.2.2.2.2.2.2.1,z0.2.2.2.2.2.2.2.2.2.2.2.2.2.2.2.2.2.1,z0.2.2.2.2.2.2.2.2.2.2.2.2.2.2.2.2.2.2.1,z0.2.2.2.2.2.2.2.2.2.2.2.2.2.2.2.1,z0.2.2.2.2.2.2.2.2.2.2.2.2.2.2.2.2.2.2.2.1⟩:Ai),z0.2.2.2.2.2.2.2.2.2.2.2.2.2.2.2.2.2.2.2.2⟩:Ab) a0.Numbers).bind λ y24=>some (.next (y24.time,y24.weather.Wind.From,y24.weather.Wind.Speed,y24.weather.Current.From,y24.weather.Current.Speed,y24.weather.Wave.From,y24.weather.Wave.Speed,y24.heading,y24.next.Weather.Wind.From,y24.next.Weather.Wind.Speed,y24.next.Weather.Current.From,y24.next.Weather.Current.Speed,y24.next.Weather.Wave.From,y24.next.Weather.Wave.Speed,y24.next.Heading,y24.next.Request,y24.next.Sights,y24.next.Acts,y24.next.Faults,y24.next.Seen,y24.out)) else bif (Nat.beq y9.say 61) then (Vo (⟨z0.1,(⟨(⟨z0.2.1,z0.2.2.1⟩:Ac),(⟨z0.2.2.2.1,z0.2.2.2.2.1⟩:Ac),(⟨z0.2.2.2.2.2.1,z0.2.2.2.2.2.2.1⟩:Ac)⟩:Af),z0.2.2.2.2.2.2.2.1,(⟨(⟨(⟨z0.2.2.2.2.2.2.2.2.1,z0.2.2.2.2.2.2.2.2.2.1⟩:Ac),(⟨z0.2.2.2.2.2.2.2.2.2.2.1,z0.2.2.2.2.2.2.2.2.2.2.2.1⟩:Ac),(⟨z0.2.2.2.2.2.2.2.2.2.2.2.2.1,z0.2.2.2.2.2.2.2.2.2.2.2.2.2.1⟩:Ac)⟩:Af),z0.2.2.2.2.2.2.2.2.2.2.2.2.2.2.1,z0.2.2.2.2.2.2.2.2.2.2.2.2.2.2.2.2.1,z0.2.2.2.2.2.2.2.2.2.2.2.2.2.2.2.2.2.1,z0.2.2.2.2.2.2.2.2.2.2.2.2.2.2.2.2.2.2.1,z0.2.2.2.2.2.2.2.2.2.2.2.2.2.2.2.1,z0.2.2.2.2.2.2.2.2.2.2.2.2.2.2.2.2.2.2.2.1⟩:Ai),z0.2.2.2.2.2.2.2.2.2.2.2.2.2.2.2.2.2.2.2.2⟩:Ab) a0.Numbers).bind λ y21=>some (.next (y21.time,y21.weather.Wind.From,y21.weather.Wind.Speed,y21.weather.Current.From,y21.weather.Current.Speed,y21.weather.Wave.From,y21.weather.Wave.Speed,y21.heading,y21.next.Weather.Wind.From,y21.next.Weather.Wind.Speed,y21.next.Weather.Current.From,y21.next.Weather.Current.Speed,y21.next.Weather.Wave.From,y21.next.Weather.Wave.Speed,y21.next.Heading,y21.next.Request,y21.next.Sights,y21.next.Acts,y21.next.Faults,y21.next.Seen,y21.out)) else bif (Nat.beq y9.say 62) then (Vn (⟨z0.1,(⟨(⟨z0.2.1,z0.2.2.1⟩:Ac),(⟨z0.2.2.2.1,z0.2.2.2.2.1⟩:Ac),(⟨z0.2.2.2.2.2.1,z0.2.2.2.2.2.2.1⟩:Ac)⟩:Af),z0.2.2.2.2.2.2.2.1,(⟨(⟨(⟨z0.2.2.2.2.2.2.2.2.1,z0.2.2.2.2.2.2.2.2.2.1⟩:Ac),(⟨z0.2.2.2.2.2.2.2.2.2.2.1,z0.2.2.2.2.2.2.2.2.2.2.2.1⟩:Ac),(⟨z0.2.2.2.2.2.2.2.2.2.2.2.2.1,z0.2.2.2.2.2.2.2.2.2.2.2.2.2.1⟩:Ac)⟩:Af),z0.2.2.2.2.2.2.2.2.2.2.2.2.2.2.1,z0.2.2.2.2.2.2.2.2.2.2.2.2.2.2.2.2.1,z0.2.2.2.2.2.2.2.2.2.2.2.2.2.2.2.2.2.1,z0.2.2.2.2.2.2.2.2.2.2.2.2.2.2.2.2.2.2.1,z0.2.2.2.2.2.2.2.2.2.2.2.2.2.2.2.1,z0.2.2.2.2.2.2.2.2.2.2.2.2.2.2.2.2.2.2.2.1⟩:Ai),z0.2.2.2.2.2.2.2.2.2.2.2.2.2.2.2.2.2.2.2.2⟩:Ab) a0.Numbers).bind λ y18=>some (.next (y18.time,y18.weather.Wind.From,y18.weather.Wind.Speed,y18.weather.Current.From,y18.weather.Current.Speed,y18.weather.Wave.From,y18.weather.Wave.Speed,y18.heading,y18.next.Weather.Wind.From,y18.next.Weather.Wind.Speed,y18.next.Weather.Current.From,y18.next.Weather.Current.Speed,y18.next.Weather.Wave.From,y18.next.Weather.Wave.Speed,y18.next.Heading,y18.next.Request,y18.next.Sights,y18.next.Acts,y18.next.Faults,y18.next.Seen,y18.out)) else bif (Nat.beq y9.say 63) then (Vm (⟨z0.1,(⟨(⟨z0.2.1,z0.2.2.1⟩:Ac),(⟨z0.2.2.2.1,z0.2.2.2.2.1⟩:Ac),(⟨z0.2.2.2.2.2.1,z0.2.2.2.2.2.2.1⟩:Ac)⟩:Af),z0.2.2.2.2.2.2.2.1,(⟨(⟨(⟨z0.2.2.2.2.2.2.2.2.1,z0.2.2.2.2.2.2.2.2.2.1⟩:Ac),(⟨z0.2.2.2.2.2.2.2.2.2.2.1,z0.2.2.2.2.2.2.2.2.2.2.2.1⟩:Ac),(⟨z0.2.2.2.2.2.2.2.2.2.2.2.2.1,z0.2.2.2.2.2.2.2.2.2.2.2.2.2.1⟩:Ac)⟩:Af),z0.2.2.2.2.2.2.2.2.2.2.2.2.2.2.1,z0.2.2.2.2.2.2.2.2.2.2.2.2.2.2.2.2.1,z0.2.2.2.2.2.2.2.2.2.2.2.2.2.2.2.2.2.1,z0.2.2.2.2.2.2.2.2.2.2.2.2.2.2.2.2.2.2.1,z0.2.2.2.2.2.2.2.2.2.2.2.2.2.2.2.1,z0.2.2.2.2.2.2.2.2.2.2.2.2.2.2.2.2.2.2.2.1⟩:Ai),z0.2.2.2.2.2.2.2.2.2.2.2.2.2.2.2.2.2.2.2.2⟩:Ab) a0.Numbers).bind λ y15=>some (.next (y15.time,y15.weather.Wind.From,y15.weather.Wind.Speed,y15.weather.Current.From,y15.weather.Current.Speed,y15.weather.Wave.From,y15.weather.Wave.Speed,y15.heading,y15.next.Weather.Wind.From,y15.next.Weather.Wind.Speed,y15.next.Weather.Current.From,y15.next.Weather.Current.Speed,y15.next.Weather.Wave.From,y15.next.Weather.Wave.Speed,y15.next.Heading,y15.next.Request,y15.next.Sights,y15.next.Acts,y15.next.Faults,y15.next.Seen,y15.out)) else bif (Nat.beq y9.say 64) then (Vl (⟨z0.1,(⟨(⟨z0.2.1,z0.2.2.1⟩:Ac),(⟨z0.2.2.2.1,z0.2.2.2.2.1⟩:Ac),(⟨z0.2.2.2.2.2.1,z0.2.2.2.2.2.2.1⟩:Ac)⟩:Af),z0.2.2.2.2.2.2.2.1,(⟨(⟨(⟨z0.2.2.2.2.2.2.2.2.1,z0.2.2.2.2.2.2.2.2.2.1⟩:Ac),(⟨z0.2.2.2.2.2.2.2.2.2.2.1,z0.2.2.2.2.2.2.2.2.2.2.2.1⟩:Ac),(⟨z0.2.2.2.2.2.2.2.2.2.2.2.2.1,z0.2.2.2.2.2.2.2.2.2.2.2.2.2.1⟩:Ac)⟩:Af),z0.2.2.2.2.2.2.2.2.2.2.2.2.2.2.1,z0.2.2.2.2.2.2.2.2.2.2.2.2.2.2.2.2.1,z0.2.2.2.2.2.2.2.2.2.2.2.2.2.2.2.2.2.1,z0.2.2.2.2.2.2.2.2.2.2.2.2.2.2.2.2.2.2.1,z0.2.2.2.2.2.2.2.2.2.2.2.2.2.2.2.1,z0.2.2.2.2.2.2.2.2.2.2.2.2.2.2.2.2.2.2.2.1⟩:Ai),z0.2.2.2.2.2.2.2.2.2.2.2.2.2.2.2.2.2.2.2.2⟩:Ab) a0.Numbers).bind λ y12=>some (.next (y12.time,y12.weather.Wind.From,y12.weather.Wind.Speed,y12.weather.Current.From,y12.weather.Current.Speed,y12.weather.Wave.From,y12.weather.Wave.Speed,y12.heading,y12.next.Weather.Wind.From,y12.next.Weather.Wind.Speed,y12.next.Weather.Current.From,y12.next.Weather.Current.Speed,y12.next.Weather.Wave.From,y12.next.Weather.Wave.Speed,y12.next.Heading,y12.next.Request,y12.next.Sights,y12.next.Acts,y12.next.Faults,y12.next.Seen,y12.out)) else none
def F15 (x0:List Aa) (x1:Int):Option ((List Ai)×Int):=
 (An [(decide ((x0.length:Int)>80),false)] (F32 x0) default).bind λ y1=>bif (yK x0 y1) then none else (F24 x0).bind λ y4=>bif y4 then none else bif (yJ x1) then none else andThen (foldI X7 x0 0 (x1,0,0,0,0,0,0,0,0,0,0,0,0,0,0,0,([]:List Ax),([]:List C5),([]:List B9),([]:List Int),([]:List Ai))) (λ _=>none) λ z0=>some (z0.2.2.2.2.2.2.2.2.2.2.2.2.2.2.2.2.2.2.2.2,0)
def F11 (x0:List Aa):Option (ByteArray×Int):=H3 F24 F26 x0
def F5:Option Bool:=
 (F20 (⟨#[98,114,101,97,107,32,49,32,48,10,116,105,99,107,32,50,10]⟩:ByteArray)).bind λ y1=>(F15 y1.1 5).bind λ y3=>(F11 y1.1).bind λ y5=>(F20 (⟨#[116,105,99,107,32,49,10,116,105,99,107,32,48,49,10]⟩:ByteArray)).bind λ y7=>(An [((((((y1.2.2==0)&&(y1.2.1==0))&&(y3.2==0))&&(y5.2==0))&&((y3.1.length:Int)==2)),true)] (getI y3.1 0) default).bind λ y9=>(An [(((((((y1.2.2==0)&&(y1.2.1==0))&&(y3.2==0))&&(y5.2==0))&&((y3.1.length:Int)==2))&&((y9.Faults.length:Int)==1)),true)] (getI y3.1 1) default).bind λ y11=>some ((((((((((y1.2.2==0)&&(y1.2.1==0))&&(y3.2==0))&&(y5.2==0))&&((y3.1.length:Int)==2))&&((y9.Faults.length:Int)==1))&&((y11.Faults.length:Int)==0))&&(y5.1.toList==(⟨#[98,114,101,97,107,32,49,32,48,10,116,105,99,107,32,50,10]⟩:ByteArray).toList))&&(y7.2.2==74))&&(y7.2.1==1))
def F6 (x0:List Int):Option Ad:=
 (cutI x0 0 (min (x0.length:Int) 600)).bind λ y2=>some (⟨y2,0⟩:Ad)
def F18 (x0:Int) (x1:Int):Option Int:=
 bif decide (x1<1) then some 0 else (nzI x1).bind λ u3=>(nzI x1).bind λ u5=>some (Int.tmod (w64 ((Int.tmod x0 x1)+x1)) x1)
def F8 (x0:Ad) (x1:Int):Option (Int×Ad):=
 bif decide (x0.At>=(x0.L.length:Int)) then some (0,x0) else (getI x0.L (w64 ((w64 (x0.At+1))-1))).bind λ y2=>(F18 y2 x1).bind λ y4=>some (y4,(⟨x0.L,w64 (x0.At+1)⟩:Ad))
def F9 (x0:Ad) (x1:Int) (x2:Int):Option (Int×Ad):=
 (F8 x0 (w64 ((w64 (x2-x1))+1))).bind λ y1=>some (w64 (x1+y1.1),y1.2)
def F10 (x0:Ad) (x1:List Int):Option (Int×Ad):=
 (F8 x0 (x1.length:Int)).bind λ y1=>(getI x1 y1.1).bind λ y3=>some (y3,y1.2)
def Nv (z0:Int×(List Int)×Int×(List Int)):Option (Ctl (Int×(List Int)×Int×(List Int)) Unit):=
 bif decide (z0.1>0) then (F10 (⟨z0.2.1,z0.2.2.1⟩:Ad) [0,1,2,3,5,100,(-7),1000000000,(-1000000000)]).bind λ y6=>(appI 9 z0.2.2.2 [y6.1]).bind λ y8=>some (.next (w64 (z0.1-1),y6.2.L,y6.2.At,y8)) else some (.brk (z0.1,z0.2.1,z0.2.2.1,z0.2.2.2))
def F23 (x0:Ad):Option (Aa×Ad):=
 (F9 x0 1 8).bind λ y1=>(getI [0,3,2,2,7,4,1,1,1] y1.1).bind λ y3=>andThen (whileN Nv 1152921504606846976 (y3,y1.2.L,y1.2.At,([]:List Int))) (λ _=>none) λ z0=>bif (y1.1==8) then (F10 (⟨z0.2.1,z0.2.2.1⟩:Ad) [1,2,3,20,60]).bind λ y11=>(getI z0.2.2.2 0).bind λ y13=>(setI z0.2.2.2 0 y11.1).bind λ y15=>some ((⟨y1.1,y15⟩:Aa),y11.2) else some ((⟨y1.1,z0.2.2.2⟩:Aa),(⟨z0.2.1,z0.2.2.1⟩:Ad))
def Vk (z0:Sg0):Option (Ctl (Sg0) Unit):=
 bif decide (z0.1>0) then (F23 (⟨z0.2.1,z0.2.2.1⟩:Ad)).bind λ y6=>(appI 33 z0.2.2.2 [y6.1]).bind λ y8=>some (.next (w64 (z0.1-1),y6.2.L,y6.2.At,y8)) else some (.brk (z0.1,z0.2.1,z0.2.2.1,z0.2.2.2))
def F7 (x0:Ad) (x1:Int):Option ((List Aa)×Ad):=
 (F8 x0 (w64 (x1+1))).bind λ y1=>andThen (whileN Vk 1152921504606846976 (y1.1,y1.2.L,y1.2.At,([]:List Aa))) (λ _=>none) λ z0=>some (z0.2.2.2,(⟨z0.2.1,z0.2.2.1⟩:Ad))
def F19 (x0:Ad) (x1:List ByteArray):Option (ByteArray×Ad):=
 (F8 x0 (x1.length:Int)).bind λ y1=>(getI x1 y1.1).bind λ y3=>some (y3,y1.2)
def F43:E2:=
 (⟨(⟨#[97,99,116]⟩:ByteArray),(⟨#[98,114,101,97,107]⟩:ByteArray),(⟨#[109,101,110,100]⟩:ByteArray),(⟨#[119,101,97,116,104,101,114]⟩:ByteArray),(⟨#[102,105,120]⟩:ByteArray),(⟨#[114,101,113,117,101,115,116]⟩:ByteArray),(⟨#[115,101,101,110]⟩:ByteArray),(⟨#[116,105,99,107]⟩:ByteArray)⟩:E2)
def Ps (x0:ByteArray) (y1:UInt8):Bool:=((!(x0.toList==(⟨#[]⟩:ByteArray).toList))&&((y1.toNat:Int)==45))
def Ig (x0:ByteArray) (y1:UInt8):Option (Ctl ByteArray Unit):=
 bif (Ps x0 y1) then (bndI x0.size 1 (x0.size:Int)).bind λ u5=>some (.next (x0.extract 1 (Int.toNat (x0.size:Int)))) else some (.next x0)
def K5 (x0:ByteArray) (z0:ByteArray) (y6:UInt8):Bool:=(((decide ((z0.size:Int)<1)) || (decide ((z0.size:Int)>10))) || (((y6.toNat:Int)==48)&&(!(x0.toList==(⟨#[48]⟩:ByteArray).toList))))
def Pr (y10:UInt8) (y12:UInt8):Bool:=((decide ((y10.toNat:Int)<48)) || (decide ((y12.toNat:Int)>57)))
def Dp (z0:ByteArray) (z1:Int×Int):Option (Ctl (Int×Int) (Int×Bool)):=
 bif decide (z1.2<(z0.size:Int)) then (Bl z0 z1.2).bind λ y10=>(An [(decide ((y10.toNat:Int)<48),false)] (Bl z0 z1.2) default).bind λ y12=>bif (Pr y10 y12) then some (.ret (0,false)) else (Bl z0 z1.2).bind λ y15=>some (.next (w64 ((w64 (10*z1.1))+(w64 (IntKind.wrap .u8 ((y15.toNat:Int)-48)))),w64 (z1.2+1))) else some (.brk (z1.1,z1.2))
def F51 (x0:ByteArray):Option (Int×Bool):=
 (An [(!(x0.toList==(⟨#[]⟩:ByteArray).toList),true)] (Bl x0 0) default).bind λ y1=>andThen (Ig x0 y1) (λ _=>none) λ z0=>(An [(((decide ((z0.size:Int)<1)) || (decide ((z0.size:Int)>10))),false)] (Bl z0 0) default).bind λ y6=>bif (K5 x0 z0 y6) then some (0,false) else andThen (whileN (Dp z0) 1152921504606846976 (0,0)) some λ z1=>(Bl x0 0).bind λ y17=>bif ((y17.toNat:Int)==45) then some (w64 (0-z1.1),true) else some (z1.1,true)
def F31:Ih:=
 (⟨3,2,2,7,4,1,1,1⟩:Ih)
def I_ (x0:Aa) (y1:Int):Bool:=(((decide (x0.Kind<1)) || (decide (x0.Kind>8))) || ((x0.Numbers.length:Int) != y1))
def Zx (a0:Int):Bool:=((decide (a0<(-1000000000))) || (decide (a0>1000000000)))
def Kp (n0:Nat) (a0:Int) (z0:Unit):Option (Ctl Unit Bool):=
 bif (Zx a0) then some (.ret false) else some (.next ())
def F14 (x0:Aa):Option Bool:=
 (An [(((decide (x0.Kind<1)) || (decide (x0.Kind>8))),false)] (getI ([F31.e0,F31.e1,F31.e2,F31.e3,F31.e4,F31.e5,F31.e6,F31.e7]:List Int) (w64 (x0.Kind-1))) default).bind λ y1=>bif (I_ x0 y1) then some false else andThen (foldI Kp x0.Numbers 0 ()) some λ z0=>(An [((x0.Kind != 8),false)] (getI x0.Numbers 0) default).bind λ y5=>(An [((x0.Kind != 8),false),(decide (y5>=1),true)] (getI x0.Numbers 0) default).bind λ y7=>some ((x0.Kind != 8) || ((decide (y5>=1))&&(decide (y7<=60))))
def Kl (n0:Nat) (a0:Int) (z0:ByteArray):Option (Ctl ByteArray Unit):=
 (F41 a0).bind λ y3=>(nzI (B7 (⟨#[32]⟩:ByteArray) y3)).bind λ u6=>(nzI (B7 z0 ((⟨#[32]⟩:ByteArray)++y3))).bind λ u8=>some (.next (z0++((⟨#[32]⟩:ByteArray)++y3)))
def F28 (x0:Aa):Option ByteArray:=
 (getI ([F43.e0,F43.e1,F43.e2,F43.e3,F43.e4,F43.e5,F43.e6,F43.e7]:List ByteArray) (w64 (x0.Kind-1))).bind λ y1=>andThen (foldI Kl x0.Numbers 0 y1) (λ _=>none) λ z0=>(nzI (B7 z0 (⟨#[10]⟩:ByteArray))).bind λ u10=>some (z0++(⟨#[10]⟩:ByteArray))
def Zv (y2:UInt8) (y4:UInt8):Bool:=(((y2.toNat:Int)==32) || ((y4.toNat:Int)==10))
def G3 (x0:ByteArray) (z0:Int×Int×(List ByteArray)):Option (Ctl (Int×Int×(List ByteArray)) Unit):=
 bif decide (z0.2.1<(x0.size:Int)) then (Bl x0 z0.2.1).bind λ y2=>(An [(((y2.toNat:Int)==32),false)] (Bl x0 z0.2.1) default).bind λ y4=>bif (Zv y2 y4) then (bndI x0.size z0.1 z0.2.1).bind λ u8=>(appI 17 z0.2.2 [(x0.extract (Int.toNat z0.1) (Int.toNat z0.2.1))]).bind λ y9=>some (.next (w64 (z0.2.1+1),w64 (z0.2.1+1),y9)) else some (.next (z0.1,w64 (z0.2.1+1),z0.2.2)) else some (.brk (z0.1,z0.2.1,z0.2.2))
def Ft (z0:Int×Int×(List ByteArray)) (z1:Int×Int):Option (Ctl (Int×Int) Unit):=
 bif decide (z1.1<8) then (getI ([F43.e0,F43.e1,F43.e2,F43.e3,F43.e4,F43.e5,F43.e6,F43.e7]:List ByteArray) z1.1).bind λ y13=>(getI z0.2.2 0).bind λ y15=>bif (y13.toList==y15.toList) then some (.next (w64 (z1.1+1),w64 (z1.1+1))) else some (.next (w64 (z1.1+1),z1.2)) else some (.brk (z1.1,z1.2))
def G2 (n2:Nat) (a2:ByteArray) (z2:(List Int)):Option (Ctl ((List Int)) (Aa×Bool)):=
 (F51 a2).bind λ y20=>bif !y20.2 then some (.ret ((⟨0,([]:List Int)⟩:Aa),false)) else (appI 9 z2 [y20.1]).bind λ y23=>some (.next y23)
def F37 (x0:ByteArray):Option (Aa×Bool):=
 andThen (whileN (G3 x0) 1152921504606846976 (0,0,([]:List ByteArray))) (λ _=>none) λ z0=>bif ((z0.2.2.length:Int)==0) then some ((⟨0,([]:List Int)⟩:Aa),false) else andThen (whileN (Ft z0) 11 (0,0)) (λ _=>none) λ z1=>(cutI z0.2.2 1 (z0.2.2.length:Int)).bind λ y19=>andThen (foldI G2 y19 0 ([]:List Int)) some λ z2=>(F14 (⟨z1.2,z2⟩:Aa)).bind λ y25=>(An [(y25,true)] (F28 (⟨z1.2,z2⟩:Aa)) default).bind λ y27=>some ((⟨z1.2,z2⟩:Aa),(y25&&(y27.toList==x0.toList)))
def G5 (x0:ByteArray) (z0:Int×Int×(List ByteArray)):Option (Ctl (Int×Int×(List ByteArray)) Unit):=
 bif decide (z0.2.1<(x0.size:Int)) then (Bl x0 z0.2.1).bind λ y2=>bif ((y2.toNat:Int)==10) then (bndI x0.size z0.1 (w64 (z0.2.1+1))).bind λ u6=>(appI 17 z0.2.2 [(x0.extract (Int.toNat z0.1) (Int.toNat (w64 (z0.2.1+1))))]).bind λ y7=>some (.next (w64 (z0.2.1+1),w64 (z0.2.1+1),y7)) else some (.next (z0.1,w64 (z0.2.1+1),z0.2.2)) else some (.brk (z0.1,z0.2.1,z0.2.2))
def Ko (x0:ByteArray) (z0:Int×Int×(List ByteArray)):Option (Ctl ((List ByteArray)) Unit):=
 bif decide (z0.1<(x0.size:Int)) then (bndI x0.size z0.1 (x0.size:Int)).bind λ u11=>(appI 17 z0.2.2 [(x0.extract (Int.toNat z0.1) (Int.toNat (x0.size:Int)))]).bind λ y12=>some (.next y12) else some (.next z0.2.2)
def G4 (n2:Nat) (a2:ByteArray) (z2:(List Aa)):Option (Ctl ((List Aa)) ((List Aa)×Int×Int)):=
 (F37 a2).bind λ y15=>bif !y15.2 then some (.ret (([]:List Aa),cnt 0 n2,74)) else (appI 33 z2 [y15.1]).bind λ y18=>some (.next y18)
def F21 (x0:ByteArray):Option ((List Aa)×Int×Int):=
 andThen (whileN (G5 x0) 1152921504606846976 (0,0,([]:List ByteArray))) (λ _=>none) λ z0=>andThen (Ko x0 z0) (λ _=>none) λ z1=>bif decide ((z1.length:Int)>80) then some (([]:List Aa),80,2) else andThen (foldI G4 z1 0 ([]:List Aa)) some λ z2=>some (z2,0,0)
def U0 (a0:Aa) (y2:Aa) (y4:Aa):Bool:=((a0.Kind != y2.Kind) || ((a0.Numbers.length:Int) != (y4.Numbers.length:Int)))
def Uz (a0:Aa) (z1:Int):Bool:=decide (z1<(a0.Numbers.length:Int))
def Kn (x1:List Aa) (n0:Nat) (a0:Aa) (z1:Int):Option (Ctl Int Bool):=
 bif (Uz a0 z1) then (getI a0.Numbers z1).bind λ y8=>(getI x1 (cnt 0 n0)).bind λ y10=>(getI y10.Numbers z1).bind λ y12=>bif (y8 != y12) then some (.ret false) else some (.next (w64 (z1+1))) else some (.brk z1)
def Sl (x1:List Aa) (n0:Nat) (a0:Aa) (z0:Unit):Option (Ctl Unit Bool):=
 (getI x1 (cnt 0 n0)).bind λ y2=>(An [((a0.Kind != y2.Kind),false)] (getI x1 (cnt 0 n0)) default).bind λ y4=>bif (U0 a0 y2 y4) then some (.ret false) else andThen (whileN (Kn x1 n0 a0) 1152921504606846976 0) (λ v=>some (.ret v)) λ z1=>some (.next ())
def F22 (x0:List Aa) (x1:List Aa):Option Bool:=
 bif ((x0.length:Int) != (x1.length:Int)) then some false else andThen (foldI (Sl x1) x0 0 ()) some λ z0=>some true
def Y7 (x0:List Int) (x1:ByteArray):Bool:=((decide ((x0.length:Int)>600)) || (decide ((x1.size:Int)>200)))
def uJ (x4:Int) (z0:ByteArray×Int):Bool:=decide (z0.2<(w64 (79+(Int.tmod (w64 x4) 4))))
def P2 (x4:Int) (z0:ByteArray×Int):Option (Ctl (ByteArray×Int) Unit):=
 bif (uJ x4 z0) then (nzI (B7 z0.1 (⟨#[116,105,99,107,32,49,10]⟩:ByteArray))).bind λ u33=>some (.next ((z0.1++(⟨#[116,105,99,107,32,49,10]⟩:ByteArray)),w64 (z0.2+1))) else some (.brk (z0.1,z0.2))
def Y6 (y45:List Aa×Int×Int) (y47:(List Aa)×Int×Int) (y49:Bool):Bool:=(((y45.2.2 != y47.2.2) || (y45.2.1 != y47.2.1)) || (!y49))
def P1 (x1:ByteArray) (y8:ByteArray×Int) (z0:ByteArray×Int) (y36:ByteArray) (y38:ByteArray) (z1:Int):Option (Ctl Int Bool):=
 bif decide (z1<7) then (getI ([x1,y8.1,(y8.1++x1),y36,y38,z0.1,(z0.1++(⟨#[120]⟩:ByteArray))]:List ByteArray) z1).bind λ y43=>(F20 y43).bind λ y45=>(F21 y43).bind λ y47=>(An [(((y45.2.2 != y47.2.2) || (y45.2.1 != y47.2.1)),false)] (F22 y45.1 y47.1) default).bind λ y49=>bif (Y6 y45 y47 y49) then some (.ret false) else some (.next (w64 (z1+1))) else some (.brk z1)
def F4 (x0:List Int) (x1:ByteArray) (x2:Int) (x3:Int) (x4:Int):Option Bool:=
 bif (Y7 x0 x1) then (F5).bind λ y2=>some y2 else (F6 x0).bind λ y4=>(F7 y4 8).bind λ y6=>(F11 y6.1).bind λ y8=>bif (y8.2 != 0) then some false else (nzI (B7 y8.1 (⟨#[116,105,99,107,32,49,10]⟩:ByteArray))).bind λ u12=>(H9 (y8.1++(⟨#[116,105,99,107,32,49,10]⟩:ByteArray))).bind λ y13=>(F18 x2 (y13.length:Int)).bind λ y15=>(getI y13 y15).bind λ y17=>(setI y13 y15 x3).bind λ y19=>(F18 x2 (([102,105,120,32,48,32,45,49,48,32,50,48,32,53,10]:List Int).length:Int)).bind λ y21=>(F19 y6.2 [(⟨#[48]⟩:ByteArray),(⟨#[45]⟩:ByteArray),(⟨#[32]⟩:ByteArray),(⟨#[10]⟩:ByteArray),(⟨#[102]⟩:ByteArray)]).bind λ y23=>(Bl y23.1 0).bind λ y25=>(getI ([102,105,120,32,48,32,45,49,48,32,50,48,32,53,10]:List Int) y21).bind λ y27=>(setI ([102,105,120,32,48,32,45,49,48,32,50,48,32,53,10]:List Int) y21 (y25.toNat:Int)).bind λ y29=>andThen (whileN (P2 x4) 1152921504606846976 ((⟨#[]⟩:ByteArray),0)) (λ _=>none) λ z0=>(nzI (B7 y8.1 x1)).bind λ u35=>(Nz y19).bind λ y36=>(Nz y29).bind λ y38=>(nzI (B7 z0.1 (⟨#[120]⟩:ByteArray))).bind λ u41=>andThen (whileN (P1 x1 y8 z0 y36 y38) 10 0) some λ z1=>(F5).bind λ y52=>some y52
end Go.Proofs.YtaplakgdkkmpfaaGreatDoor
