import Derived.Test.YtkcebipolafapaaGreatTy
set_option linter.unusedVariables false
namespace Go.Proofs.YtkcebipolafapaaGreat
open Go.SL
abbrev Sg0:=Int×fe×(List ee)×fb×(List dX)×(List d_)×(List dW)
abbrev Sg1:=Int×fe×(List ee)×fb×(List dX)×(List d_)×(List dW)×(List dZ)×fe×(List ee)×fb×(List dX)
abbrev Sg2:=Int×fe×(List ee)×fb×(List dX)×(List d_)×(List dZ)×(List dW)
abbrev Sg3:=Int×fb×Int×(List dU)
abbrev Sg4:=Int×fb×Int×(List dU)×(List dV)
abbrev Sg5:=Int×fb×Int×(List ee)
abbrev Sg6:=Int×(List dU)×(List eh)×(List dV)×Int×Int×fe×(List ee)×fb×(List dX)×(List a_)
abbrev Sg7:=Int×(List dU)×(List eh)×(List dV)×Int×Int×fb×fe×(List ee)×fb×(List dX)×(List a_)
abbrev Sg8:=Int×Int×(List dU)×(List eh)×(List dV)×Int×Int×fe×(List ee)×fb×(List dX)×(List d_)×(List dW)×(List dW)×(List dZ)
abbrev Sg9:=c_×eo×dY×Ab
def Aul(n0:Nat)(a0:dV)(z0:Unit):eu Unit Bool:=
 bif decide ((a0.Needs.length:Int)>8)then eC false else eB ()
def F4(x0:c_)(x1:dZ):Option Bool:=
 andThen (foldI Aul x0.Consumers 0 ()) some λz0=>some (((((((decide ((x0.Breakers.length:Int)<=14))&&(decide ((x0.Sources.length:Int)<=10)))&&(decide ((x0.Consumers.length:Int)<=8)))&&(decide ((x1.Closed.length:Int)<=14)))&&(decide ((x1.Sources.length:Int)<=10)))&&(decide ((x1.Limits.length:Int)<=10)))&&(decide ((x1.Broken.length:Int)<=10)))
def F5(x0:dY):Bool:=
 ((decide ((x0.Rosters.length:Int)<=8))&&(decide ((x0.Events.length:Int)<=20)))
def Ax4(a0:eq):Bool:=((decide ((a0.Forbidden.length:Int)>6)) || ((decide (a0.Max>2000))&&(decide (a0.Max<=5000))))
def Auk(n0:Nat)(a0:eq)(z0:Unit):eu Unit Bool:=
 bif (Ax4 a0)then eC false else eB ()
def F6(x0:ef):Option Bool:=
 andThen (foldI Auk x0.Thrusters 0 ()) some λz0=>some (decide ((x0.Thrusters.length:Int)<=10))
def F32:c_×eo:=
 (⟨1,[⟨2,0,0⟩,⟨2,0,1⟩,⟨3,0,0⟩],[⟨50,0,0⟩,⟨50,0,0⟩],[⟨80,10,0,0,[]⟩],50,0⟩,⟨100,1,5⟩)
def F79(x0:Int)(x1:Int)(x2:Int):Bool:=
 ((decide (x0>=x1))&&(decide (x0<=x2)))
def Awk(x1:Int)(n0:Nat)(a0:Int)(z0:Unit):eu Unit Int:=
 bif (x1==a0)then eC (cnt 0 n0) else eB ()
def Ath(x0:fb)(x1:Int):Option Int:=
 andThen (foldI (Awk x1) x0 0 ()) some λz0=>some (-1)
def N9(x0:fb)(x1:Int):Option Bool:=
 (Ath x0 x1).bind λy1=>some (decide (y1>=0))
def Atj(x0:fb):Bool:=
 ((x0.length:Int)==0)
def Ap3(n0:Nat)(a0:fb)(z0:Unit):eu Unit Int:=
 bif Atj a0 then eC (cnt 0 n0) else eB ()
def Afg(x0:List fb):Option Int:=
 andThen (foldI Ap3 x0 0 ()) some λz0=>some (-1)
def jH(x0:List fb):Option Bool:=
 (Afg x0).bind λy1=>some (decide (y1>=0))
def Aao(x0:c_)(a0:dU):Bool:=((a0.Kind==1)&&(F79 a0.B (w64 (a0.A+1)) (w64 (x0.Buses-1))))
def Aan(z0:fb×(List fb))(a0:dU)(y7:Int):Bool:=(((a0.Kind==2)&&(F79 a0.B 0 (w64 ((z0.1.length:Int)-1))))&&(y7==0))
def Akf(z0:fb×(List fb))(a0:dU)(y16:Bool):Bool:=(((a0.Kind==3)&&(F79 a0.B 0 (w64 ((z0.2.length:Int)-1))))&&(!y16))
def Aee(x0:c_)(n0:Nat)(a0:dU)(z0:fb×(List fb)):eu (fb×(List fb)) Bool:=
 bif !(F79 a0.A 0 (w64 (x0.Buses-1)))then eC false else bif (Aao x0 a0)then eB (z0.1,z0.2) else (Ag [(((a0.Kind==2)&&(F79 a0.B 0 (w64 ((z0.1.length:Int)-1)))),true)] (getI z0.1 a0.B) default).bind λy7=>bif (Aan z0 a0 y7)then (getI z0.1 a0.B).bind λy10=>(setI z0.1 a0.B (w64 (y10+1))).bind λy12=>eB (y12,z0.2) else (Ag [(((a0.Kind==3)&&(F79 a0.B 0 (w64 ((z0.2.length:Int)-1)))),true)] (getI z0.2 a0.B) default).bind λy14=>(Ag [(((a0.Kind==3)&&(F79 a0.B 0 (w64 ((z0.2.length:Int)-1)))),true)] (N9 y14 a0.A) default).bind λy16=>bif (Akf z0 a0 y16)then (getI z0.2 a0.B).bind λy19=>(appI 9 y19 [a0.A]).bind λy21=>(setI z0.2 a0.B y21).bind λy23=>eB (z0.1,y23) else eC false
def F80(x0:c_):Option Bool:=
 (mkI 9 (x0.Sources.length:Int) 0).bind λy1=>(mkI 25 (x0.Consumers.length:Int) ([]:fb)).bind λy3=>andThen (foldI (Aee x0) x0.Breakers 0 (y1,y3)) some λz0=>(N9 z0.1 0).bind λy27=>(Ag [(!y27,true)] (jH z0.2) default).bind λy29=>some ((!y27)&&(!y29))
def F81(x0:eh):Bool:=
 (((F79 x0.Rating 1 50000)&&(F79 x0.Least 0 x0.Rating))&&(F79 x0.Start 0 600))
def At4(x1:Int)(n0:Nat)(a0:Int)(y1:Int):Bool:=((!(F79 a0 0 (w64 (x1-1)))) || ((decide ((cnt 0 n0)>0))&&(decide (y1>=a0))))
def Zx(x0:dV)(x1:Int)(n0:Nat)(a0:Int)(z0:Unit):eu Unit Bool:=
 (Ag [(!(F79 a0 0 (w64 (x1-1))),false),(decide ((cnt 0 n0)>0),true)] (getI x0.Needs (w64 ((cnt 0 n0)-1))) default).bind λy1=>bif (At4 x1 n0 a0 y1)then eC false else eB ()
def F82(x0:dV)(x1:Int):Option Bool:=
 andThen (foldI (Zx x0 x1) x0.Needs 0 ()) some λz0=>some (((((F79 x0.Load 0 50000)&&(F79 x0.Least 0 x0.Load))&&(F79 x0.Preference 0 15))&&(F79 x0.Thruster (-1) 7))&&(decide ((x0.Needs.length:Int)<=4)))
def Aaq(x0:c_):Bool:=((((!(F79 x0.Buses 1 6)) || (decide ((x0.Breakers.length:Int)>24))) || (decide ((x0.Sources.length:Int)>8))) || (decide ((x0.Consumers.length:Int)>16)))
def Ayy(n0:Nat)(a0:eh)(z0:Bool):eu Bool Unit:=
 eB (z0&&(F81 a0))
def Aet(n1:Nat)(a1:dV)(z1:Bool):eu Bool Unit:=
 (Ag [(z1,true)] (F82 a1 (cnt 0 n1)) default).bind λy4=>eB (z1&&y4)
def F43(x0:c_):Option Int:=
 bif (Aaq x0)then some 2 else (F80 x0).bind λy2=>andThen (foldI Ayy x0.Sources 0 ((y2&&(F79 x0.Phase 0 1800))&&(F79 x0.Frequency 0 6000))) (λ_=>none) λz0=>andThen (foldI Aet x0.Consumers 0 z0) (λ_=>none) λz1=>bif !z1 then some 14 else some 0
def F44(x0:eo):Bool:=
 ((((((decide (x0.Stop>=1))&&(decide (x0.Stop<=99)))&&(decide (x0.Start>x0.Stop)))&&(decide (x0.Start<=100)))&&(decide (x0.Delay>=0)))&&(decide (x0.Delay<=600)))
def All(x0:Int)(x1:Int):Int×Int:=
 (IntKind.wrap .u64 ((IntKind.wrap .u64 ((IntKind.wrap .u64 ((H5 .u64 x0 32)*(H5 .u64 x1 32)))+(H5 .u64 (IntKind.wrap .u64 ((IntKind.wrap .u64 ((H5 .u64 x0 32)*(O_ .u64 x1 4294967295)))+(H5 .u64 (IntKind.wrap .u64 ((O_ .u64 x0 4294967295)*(O_ .u64 x1 4294967295))) 32))) 32)))+(H5 .u64 (IntKind.wrap .u64 ((O_ .u64 (IntKind.wrap .u64 ((IntKind.wrap .u64 ((H5 .u64 x0 32)*(O_ .u64 x1 4294967295)))+(H5 .u64 (IntKind.wrap .u64 ((O_ .u64 x0 4294967295)*(O_ .u64 x1 4294967295))) 32))) 4294967295)+(IntKind.wrap .u64 ((O_ .u64 x0 4294967295)*(H5 .u64 x1 32))))) 32)),IntKind.wrap .u64 (x0*x1))
def F84(x0:Int)(x1:Int):Int×Int:=
 ((All x0 x1).1,(All x0 x1).2)
def Ays(x1:Int):eu Unit Unit:=
 bif decide (x1<0)then none else eB ()
def Azj(x0:List d_)(x1:Int):Bool:=((decide (((F84 (IntKind.wrap .u64 (x0.length:Int)) (IntKind.wrap .u64 x1)).1)>0)) || (decide (((F84 (IntKind.wrap .u64 (x0.length:Int)) (IntKind.wrap .u64 x1)).2)>9223372036854775807)))
def Ayr(x0:List d_)(x1:Int):eu Unit Unit:=
 bif (Azj x0 x1)then none else eB ()
def Azi(z2:Int×(List d_)):Bool:=decide (z2.1<(z2.2.length:Int))
def Ayt(z2:Int×(List d_)):eu (Int×(List d_)) Unit:=
 bif (Azi z2)then (bndI z2.2.length z2.1 (z2.2.length:Int)).bind λu7=>(bndI z2.2.length 0 z2.1).bind λu9=>eB (w64 (z2.1+((Nat.min ((z2.2.drop 0).take ((Int.toNat z2.1)-0)).length ((Int.toNat (z2.2.length:Int))-(Int.toNat z2.1))):Int)),(O7 z2.2 (Int.toNat z2.1) ((Int.toNat (z2.2.length:Int))-(Int.toNat z2.1)) ((z2.2.drop 0).take ((Int.toNat z2.1)-0)))) else eF (z2.1,z2.2)
def F83(x0:List d_)(x1:Int):Option ((List d_)):=
 andThen (Ays x1) (λ_=>none) λz0=>andThen (Ayr x0 x1) (λ_=>none) λz1=>(mkI 17 (w64 ((F84 (IntKind.wrap .u64 (x0.length:Int)) (IntKind.wrap .u64 x1)).2)) ⟨0,0⟩).bind λy3=>andThen (whileN Ayt 1152921504606846976 (((Nat.min x0.length y3.length):Int),(O7 y3 0 y3.length x0))) (λ_=>none) λz2=>some z2.2
def F45(x0:Int):Option ((List d_)):=
 (F83 [⟨(-1),(-1)⟩] x0).bind λy1=>some y1
def Ayw(x1:Int):eu Unit Unit:=
 bif decide (x1<0)then none else eB ()
def Azl(x0:List ee)(x1:Int):Bool:=((decide (((F84 (IntKind.wrap .u64 (x0.length:Int)) (IntKind.wrap .u64 x1)).1)>0)) || (decide (((F84 (IntKind.wrap .u64 (x0.length:Int)) (IntKind.wrap .u64 x1)).2)>9223372036854775807)))
def Ayv(x0:List ee)(x1:Int):eu Unit Unit:=
 bif (Azl x0 x1)then none else eB ()
def Azk(z2:Int×(List ee)):Bool:=decide (z2.1<(z2.2.length:Int))
def Ayx(z2:Int×(List ee)):eu (Int×(List ee)) Unit:=
 bif (Azk z2)then (bndI z2.2.length z2.1 (z2.2.length:Int)).bind λu7=>(bndI z2.2.length 0 z2.1).bind λu9=>eB (w64 (z2.1+((Nat.min ((z2.2.drop 0).take ((Int.toNat z2.1)-0)).length ((Int.toNat (z2.2.length:Int))-(Int.toNat z2.1))):Int)),(O7 z2.2 (Int.toNat z2.1) ((Int.toNat (z2.2.length:Int))-(Int.toNat z2.1)) ((z2.2.drop 0).take ((Int.toNat z2.1)-0)))) else eF (z2.1,z2.2)
def F46(x0:List ee)(x1:Int):Option ((List ee)):=
 andThen (Ayw x1) (λ_=>none) λz0=>andThen (Ayv x0 x1) (λ_=>none) λz1=>(mkI 33 (w64 ((F84 (IntKind.wrap .u64 (x0.length:Int)) (IntKind.wrap .u64 x1)).2)) ⟨0,0,0,0⟩).bind λy3=>andThen (whileN Ayx 1152921504606846976 (((Nat.min x0.length y3.length):Int),(O7 y3 0 y3.length x0))) (λ_=>none) λz2=>some z2.2
def Ap9(n0:Nat)(a0:dV)(z0:fb):eu (fb) Unit:=
 (appI 9 z0 [a0.Load]).bind λy11=>eB y11
def F14(x0:c_)(x1:eo):Option (dY×Int):=
 (F43 x0).bind λy1=>bif (y1 != 0)then some (⟨0,⟨[],[],[],[]⟩,[],[]⟩,y1) else bif !(F44 x1)then some (⟨0,⟨[],[],[],[]⟩,[],[]⟩,1) else (F45 x0.Buses).bind λy5=>(mkI 2 (x0.Breakers.length:Int) false).bind λy7=>(F46 [⟨0,0,5000,0⟩] (x0.Sources.length:Int)).bind λy9=>andThen (foldI Ap9 x0.Consumers 0 []) (λ_=>none) λz0=>some (⟨0,⟨y7,y9,z0,[]⟩,y5,[]⟩,0)
def Iz(x0:c_)(x1:Int):Int:=
 bif (x1==1)then (x0.Sources.length:Int) else bif (x1==2)then (x0.Breakers.length:Int) else bif (x1==3)then x0.Buses else bif (x1==4)then (x0.Consumers.length:Int) else 0
def Yf(x0:Int):Bool:=
 (x0 != x0)
def K7(x0:Int)(x1:Int):Int:=
 bif Yf x0 then bif Yf x1 then 0 else (-1) else bif Yf x1 then 1 else bif decide (x0<x1)then (-1) else bif decide (x0>x1)then 1 else 0
def Aig(n0:Nat)(a0:Int)(z0:Unit):eu Unit Int:=
 bif (a0 != 0)then eC a0 else eB ()
def vE(x0:fb):Option Int:=
 andThen (foldI Aig x0 0 ()) some λz0=>some 0
def Adl(x0:c_)(n0:Nat)(a0:dX)(y5:Int):Bool:=((!(F79 a0.Number 0 (w64 ((Iz x0 a0.Kind)-1)))) || ((decide ((cnt 0 n0)>0))&&(decide (y5>=0))))
def Wm(x0:c_)(x1:List dX)(n0:Nat)(a0:dX)(z0:Unit):eu Unit Bool:=
 (Ag [(!(F79 a0.Number 0 (w64 ((Iz x0 a0.Kind)-1))),false),(decide ((cnt 0 n0)>0),true)] (getI x1 (w64 ((cnt 0 n0)-1))) default).bind λy1=>(Ag [(!(F79 a0.Number 0 (w64 ((Iz x0 a0.Kind)-1))),false),(decide ((cnt 0 n0)>0),true)] (getI x1 (w64 ((cnt 0 n0)-1))) default).bind λy3=>(Ag [(!(F79 a0.Number 0 (w64 ((Iz x0 a0.Kind)-1))),false),(decide ((cnt 0 n0)>0),true)] (vE [K7 y1.Kind a0.Kind,K7 y3.Number a0.Number]) default).bind λy5=>bif (Adl x0 n0 a0 y5)then eC false else eB ()
def vR(x0:c_)(x1:List dX):Option Bool:=
 andThen (foldI (Wm x0 x1) x1 0 ()) some λz0=>some (decide ((x1.length:Int)<=32))
def Oa(x0:ee):Bool:=
 ((((F79 x0.State 0 3)&&(F79 x0.Since 0 2147483648))&&(F79 x0.Frequency 0 6000))&&(F79 x0.Phase 0 3599))
def Atk(x0:ee):Bool:=
 !(Oa x0)
def Ap8(n0:Nat)(a0:ee)(z0:Unit):eu Unit Int:=
 bif Atk a0 then eC (cnt 0 n0) else eB ()
def Afs(x0:List ee):Option Int:=
 andThen (foldI Ap8 x0 0 ()) some λz0=>some (-1)
def Vl(x0:List ee):Option Bool:=
 (Afs x0).bind λy1=>some (decide (y1>=0))
def Aoy(x2:Int)(a0:dU)(y1:Bool):Bool:=(((a0.Kind==3)&&(a0.B==x2))&&y1)
def Ais(x1:dZ)(x2:Int)(n0:Nat)(a0:dU)(z0:Int):eu Int Unit:=
 (Ag [(((a0.Kind==3)&&(a0.B==x2)),true)] (getI x1.Closed (cnt 0 n0)) default).bind λy1=>bif (Aoy x2 a0 y1)then eB (w64 (z0+1)) else eB z0
def Al0(x0:c_)(x1:dZ)(x2:Int):Option Int:=
 andThen (foldI (Ais x1 x2) x0.Breakers 0 0) (λ_=>none) λz0=>some z0
def Zm(x0:c_)(x1:dZ):Bool:=((((x1.Closed.length:Int) != (x0.Breakers.length:Int)) || ((x1.Sources.length:Int) != (x0.Sources.length:Int))) || ((x1.Limits.length:Int) != (x0.Consumers.length:Int)))
def Aeo(x0:c_)(x1:dZ)(n0:Nat)(a0:Int)(z0:Bool):eu Bool Unit:=
 (Ag [(z0,true)] (getI x0.Consumers (cnt 0 n0)) default).bind λy9=>(Ag [((z0&&(F79 a0 0 y9.Load)),true)] (Al0 x0 x1 (cnt 0 n0)) default).bind λy11=>eB ((z0&&(F79 a0 0 y9.Load))&&(decide (y11<=1)))
def F56(x0:c_)(x1:dZ):Option Int:=
 (F43 x0).bind λy1=>bif (y1 != 0)then some y1 else bif (Zm x0 x1)then some 8 else (vR x0 x1.Broken).bind λy5=>(Ag [(y5,true)] (Vl x1.Sources) default).bind λy7=>andThen (foldI (Aeo x0 x1) x1.Limits 0 (y5&&(!y7))) (λ_=>none) λz0=>bif !z0 then some 11 else some 0
def Alk(x0:fe):Option fe:=appI 2 [] x0
def Alj(x0:List ee):Option (List ee):=appI 33 [] x0
def Yi(x0:fb):Option fb:=appI 9 [] x0
def Ali(x0:List dX):Option (List dX):=appI 17 [] x0
def F88(x0:dZ):Option dZ:=
 (Alk x0.Closed).bind λy1=>(Alj x0.Sources).bind λy3=>(Yi x0.Limits).bind λy5=>(Ali x0.Broken).bind λy7=>some ⟨y1,y3,y5,y7⟩
def Air(n0:Nat)(a0:Int)(z0:fb):eu (fb) Unit:=
 (getI z0 (cnt 0 n0)).bind λy3=>(setI z0 (cnt 0 n0) (cnt 0 n0)).bind λy5=>eB y5
def vQ(x1:dZ)(n2:Nat)(a2:dU)(z2:fb):eu (fb) Unit:=
 (Ag [((a2.Kind==1),true)] (getI x1.Closed (cnt 0 n2)) default).bind λy7=>bif ((a2.Kind==1)&&y7)then (getI z2 a2.A).bind λy10=>(getI z2 a2.B).bind λy12=>(setI z2 a2.A (min y10 y12)).bind λy14=>(getI y14 a2.B).bind λy16=>(setI y14 a2.B (min y10 y12)).bind λy18=>eB y18 else eB z2
def Aiq(x0:c_)(x1:dZ)(n1:Nat)(a1:Int)(z1:fb):eu (fb) Unit:=
 andThen (foldI (vQ x1) x0.Breakers 0 z1) (λ_=>none) λz2=>eB z2
def Afx(x0:c_)(x1:dZ):Option (fb):=
 (mkI 9 x0.Buses 0).bind λy1=>andThen (foldI Air y1 0 y1) (λ_=>none) λz0=>andThen (foldI (Aiq x0 x1) z0 0 z0) (λ_=>none) λz1=>some z1
def Aop(x2:Int)(x3:Int)(a0:dU)(y1:Bool):Bool:=(((a0.Kind==x2)&&(a0.B==x3))&&y1)
def vD(x1:dZ)(x2:Int)(x3:Int)(n0:Nat)(a0:dU)(z0:Unit):eu Unit (Int×Bool):=
 (Ag [(((a0.Kind==x2)&&(a0.B==x3)),true)] (getI x1.Closed (cnt 0 n0)) default).bind λy1=>bif (Aop x2 x3 a0 y1)then eC (a0.A,true) else eB ()
def Afr(x0:c_)(x1:dZ)(x2:Int)(x3:Int):Option (Int×Bool):=
 andThen (foldI (vD x1 x2 x3) x0.Breakers 0 ()) some λz0=>some (0,false)
def Zq(x1:dZ)(x2:Int)(y1:ee):Bool:=((!(F79 x2 0 (w64 ((x1.Sources.length:Int)-1)))) || (y1.State != 2))
def vP(x0:c_)(x1:dZ)(x2:Int):Option (Int×Bool):=
 (Ag [(!(F79 x2 0 (w64 ((x1.Sources.length:Int)-1))),false)] (getI x1.Sources x2) default).bind λy1=>bif (Zq x1 x2 y1)then some (0,false) else (Afr x0 x1 2 x2).bind λy4=>some (y4.1,y4.2)
def vO(x0:c_)(x1:dZ)(x2:Int):Option (Int×Bool):=
 (Afr x0 x1 3 x2).bind λy1=>some (y1.1,y1.2)
def Alz(x0:Ae):Bool:=
 ((x0.Buses.length:Int)==0)
def Aqc(n0:Nat)(a0:Ae)(z0:Unit):eu Unit Int:=
 bif Alz a0 then eC (cnt 0 n0) else eB ()
def jU(x0:List Ae):Option Int:=
 andThen (foldI Aqc x0 0 ()) some λz0=>some (-1)
def Adk(z0:Int×Int×(List Ae)):Bool:=decide (z0.2.1<(z0.2.2.length:Int))
def Vk(z0:Int×Int×(List Ae)):eu (Int×Int×(List Ae)) Unit:=
 bif (Adk z0)then (getI z0.2.2 z0.2.1).bind λy5=>bif !(Alz y5)then (getI z0.2.2 z0.1).bind λy8=>(setI z0.2.2 z0.1 y5).bind λy10=>eB (w64 (z0.1+1),w64 (z0.2.1+1),y10) else eB (z0.1,w64 (z0.2.1+1),z0.2.2) else eF (z0.1,z0.2.1,z0.2.2)
def Qp(x0:List Ae):Option ((List Ae)):=
 (jU x0).bind λy1=>bif (y1==(-1))then some x0 else andThen (whileN Vk 1152921504606846976 (y1,w64 (y1+1),x0)) (λ_=>none) λz0=>(bndI z0.2.2.length z0.1 (z0.2.2.length:Int)).bind λu13=>(bndI (He z0.2.2 (Int.toNat z0.1) ((Int.toNat (z0.2.2.length:Int))-(Int.toNat z0.1)) ⟨[],[],[]⟩).length 0 z0.1).bind λu15=>some ((He z0.2.2 (Int.toNat z0.1) ((Int.toNat (z0.2.2.length:Int))-(Int.toNat z0.1)) ⟨[],[],[]⟩).take ((Int.toNat z0.1)-0))
def Apq(n0:Nat)(a0:Int)(z0:(List Ae)):eu ((List Ae)) Unit:=
 (getI z0 a0).bind λy8=>(appI 9 y8.Buses [cnt 0 n0]).bind λy10=>(setI z0 a0 ⟨y10,y8.Sources,y8.Consumers⟩).bind λy12=>eB y12
def At8(x0:c_)(z1:Int×(List Ae)):Bool:=decide (z1.1<(x0.Sources.length:Int))
def App(x0:c_)(x1:dZ)(y4:fb)(z1:Int×(List Ae)):eu (Int×(List Ae)) Unit:=
 bif (At8 x0 z1)then (vP x0 x1 z1.1).bind λy15=>bif y15.2 then (getI y4 y15.1).bind λy18=>(getI z1.2 y18).bind λy20=>(appI 9 y20.Sources [z1.1]).bind λy22=>(setI z1.2 y18 ⟨y20.Buses,y22,y20.Consumers⟩).bind λy24=>eB (w64 (z1.1+1),y24) else eB (w64 (z1.1+1),z1.2) else eF (z1.1,z1.2)
def At7(x0:c_)(z2:Int×(List Ae)):Bool:=decide (z2.1<(x0.Consumers.length:Int))
def Apo(x0:c_)(x1:dZ)(y4:fb)(z2:Int×(List Ae)):eu (Int×(List Ae)) Unit:=
 bif (At7 x0 z2)then (vO x0 x1 z2.1).bind λy27=>bif y27.2 then (getI y4 y27.1).bind λy30=>(getI z2.2 y30).bind λy32=>(appI 9 y32.Consumers [z2.1]).bind λy34=>(setI z2.2 y30 ⟨y32.Buses,y32.Sources,y34⟩).bind λy36=>eB (w64 (z2.1+1),y36) else eB (w64 (z2.1+1),z2.2) else eF (z2.1,z2.2)
def F58(x0:c_)(x1:dZ):Option ((List Ae)):=
 (F56 x0 x1).bind λy1=>bif (y1 != 0)then some [] else (Afx x0 x1).bind λy4=>(mkI 73 x0.Buses ⟨[],[],[]⟩).bind λy6=>andThen (foldI Apq y4 0 y6) (λ_=>none) λz0=>andThen (whileN (App x0 x1 y4) 1152921504606846976 (0,z0)) (λ_=>none) λz1=>andThen (whileN (Apo x0 x1 y4) 1152921504606846976 (0,z1.2)) (λ_=>none) λz2=>(Qp z2.2).bind λy38=>some y38
def Ad7(x2:ee)(n0:Nat)(a0:Int)(z0:(List ee)):eu ((List ee)) Unit:=
 (getI z0 a0).bind λy1=>(setI z0 a0 ⟨y1.State,y1.Since,x2.Frequency,y1.Phase⟩).bind λy3=>(getI y3 a0).bind λy5=>(setI y3 a0 ⟨y5.State,y5.Since,y5.Frequency,x2.Phase⟩).bind λy7=>eB y7
def Wf(x0:dZ)(x1:fb)(x2:ee):Option ((List ee)):=
 andThen (foldI (Ad7 x2) x1 0 x0.Sources) (λ_=>none) λz0=>some z0
def At9(a0:Ae):Bool:=decide ((a0.Sources.length:Int)>0)
def Apr(x1:dZ)(y4:dZ)(n0:Nat)(a0:Ae)(z0:(List ee)):eu ((List ee)) Unit:=
 bif (At9 a0)then (getI a0.Sources 0).bind λy9=>(getI x1.Sources y9).bind λy11=>(Wf ⟨y4.Closed,z0,y4.Limits,y4.Broken⟩ a0.Sources y11).bind λy13=>eB y13 else eB z0
def F49(x0:c_)(x1:dZ):Option (dZ×Int):=
 (F56 x0 x1).bind λy1=>bif (y1 != 0)then some (⟨[],[],[],[]⟩,y1) else (F88 x1).bind λy4=>(F58 x0 x1).bind λy6=>andThen (foldI (Apr x1 y4) y6 0 y4.Sources) (λ_=>none) λz0=>some (⟨y4.Closed,z0,y4.Limits,y4.Broken⟩,0)
def Ad6(x1:fe)(n0:Nat)(a0:Bool)(z0:Unit):eu Unit Bool:=
 (getI x1 (cnt 0 n0)).bind λy2=>bif !(a0==y2)then eC false else eB ()
def F90(x0:fe)(x1:fe):Option Bool:=
 bif ((x0.length:Int) != (x1.length:Int))then some false else andThen (foldI (Ad6 x1) x0 0 ()) some λz0=>some true
def At2(a0:ee)(y2:ee):Bool:=!((a0.State==y2.State)&&((a0.Since==y2.Since)&&((a0.Frequency==y2.Frequency)&&((a0.Phase==y2.Phase)&&true))))
def Ad5(x1:List ee)(n0:Nat)(a0:ee)(z0:Unit):eu Unit Bool:=
 (getI x1 (cnt 0 n0)).bind λy2=>bif (At2 a0 y2)then eC false else eB ()
def F91(x0:List ee)(x1:List ee):Option Bool:=
 bif ((x0.length:Int) != (x1.length:Int))then some false else andThen (foldI (Ad5 x1) x0 0 ()) some λz0=>some true
def Ad4(x1:fb)(n0:Nat)(a0:Int)(z0:Unit):eu Unit Bool:=
 (getI x1 (cnt 0 n0)).bind λy2=>bif (a0 != y2)then eC false else eB ()
def F92(x0:fb)(x1:fb):Option Bool:=
 bif ((x0.length:Int) != (x1.length:Int))then some false else andThen (foldI (Ad4 x1) x0 0 ()) some λz0=>some true
def At1(a0:dX)(y2:dX):Bool:=!((a0.Kind==y2.Kind)&&((a0.Number==y2.Number)&&true))
def Ad3(x1:List dX)(n0:Nat)(a0:dX)(z0:Unit):eu Unit Bool:=
 (getI x1 (cnt 0 n0)).bind λy2=>bif (At1 a0 y2)then eC false else eB ()
def F93(x0:List dX)(x1:List dX):Option Bool:=
 bif ((x0.length:Int) != (x1.length:Int))then some false else andThen (foldI (Ad3 x1) x0 0 ()) some λz0=>some true
def F51(x0:dZ)(x1:dZ):Option Bool:=
 (F90 x0.Closed x1.Closed).bind λy1=>(Ag [(y1,true)] (F91 x0.Sources x1.Sources) default).bind λy3=>(Ag [((y1&&y3),true)] (F92 x0.Limits x1.Limits) default).bind λy5=>(Ag [(((y1&&y3)&&y5),true)] (F93 x0.Broken x1.Broken) default).bind λy7=>some (((y1&&y3)&&y5)&&y7)
def Wh(x0:Int)(x1:dY):Bool:=
 ((decide (x0>=(-1)))&&(decide (x0<=x1.Time)))
def G5(x0:d_)(x1c0:dY):Bool×dY:=
 (((!(Wh x0.High x1c0)) || (!(Wh x0.Low x1c0))),x1c0)
def uK(z0:Sg0)(a0:d_):Bool:=(G5 a0 (⟨z0.1,(⟨z0.2.1,z0.2.2.1,z0.2.2.2.1,z0.2.2.2.2.1⟩:dZ),z0.2.2.2.2.2.1,z0.2.2.2.2.2.2⟩:dY)).1
def X7(n0:Nat)(a0:d_)(z0:Sg0):eu (Sg0) (Int×dY):=
 bif (uK z0 a0)then eC (cnt 0 n0,⟨((G5 a0 ⟨z0.1,⟨z0.2.1,z0.2.2.1,z0.2.2.2.1,z0.2.2.2.2.1⟩,z0.2.2.2.2.2.1,z0.2.2.2.2.2.2⟩).2).Time,(((G5 a0 ⟨z0.1,⟨z0.2.1,z0.2.2.1,z0.2.2.2.1,z0.2.2.2.2.1⟩,z0.2.2.2.2.2.1,z0.2.2.2.2.2.2⟩).2).Power),((G5 a0 ⟨z0.1,⟨z0.2.1,z0.2.2.1,z0.2.2.2.1,z0.2.2.2.2.1⟩,z0.2.2.2.2.2.1,z0.2.2.2.2.2.2⟩).2).Rosters,((G5 a0 ⟨z0.1,⟨z0.2.1,z0.2.2.1,z0.2.2.2.1,z0.2.2.2.2.1⟩,z0.2.2.2.2.2.1,z0.2.2.2.2.2.2⟩).2).Events⟩) else eB (((G5 a0 ⟨z0.1,⟨z0.2.1,z0.2.2.1,z0.2.2.2.1,z0.2.2.2.2.1⟩,z0.2.2.2.2.2.1,z0.2.2.2.2.2.2⟩).2).Time,(((G5 a0 ⟨z0.1,⟨z0.2.1,z0.2.2.1,z0.2.2.2.1,z0.2.2.2.2.1⟩,z0.2.2.2.2.2.1,z0.2.2.2.2.2.2⟩).2).Power).Closed,(((G5 a0 ⟨z0.1,⟨z0.2.1,z0.2.2.1,z0.2.2.2.1,z0.2.2.2.2.1⟩,z0.2.2.2.2.2.1,z0.2.2.2.2.2.2⟩).2).Power).Sources,(((G5 a0 ⟨z0.1,⟨z0.2.1,z0.2.2.1,z0.2.2.2.1,z0.2.2.2.2.1⟩,z0.2.2.2.2.2.1,z0.2.2.2.2.2.2⟩).2).Power).Limits,(((G5 a0 ⟨z0.1,⟨z0.2.1,z0.2.2.1,z0.2.2.2.1,z0.2.2.2.2.1⟩,z0.2.2.2.2.2.1,z0.2.2.2.2.2.2⟩).2).Power).Broken,((G5 a0 ⟨z0.1,⟨z0.2.1,z0.2.2.1,z0.2.2.2.1,z0.2.2.2.2.1⟩,z0.2.2.2.2.2.1,z0.2.2.2.2.2.2⟩).2).Rosters,((G5 a0 ⟨z0.1,⟨z0.2.1,z0.2.2.1,z0.2.2.2.1,z0.2.2.2.2.1⟩,z0.2.2.2.2.2.1,z0.2.2.2.2.2.2⟩).2).Events)
def Aav(x0:List d_)(x1c0c0:dY):Option (Int×dY):=
 andThen (foldI X7 x0 0 (x1c0c0.Time,x1c0c0.Power.Closed,x1c0c0.Power.Sources,x1c0c0.Power.Limits,x1c0c0.Power.Broken,x1c0c0.Rosters,x1c0c0.Events)) some λz0=>some ((-1),⟨z0.1,⟨z0.2.1,z0.2.2.1,z0.2.2.2.1,z0.2.2.2.2.1⟩,z0.2.2.2.2.2.1,z0.2.2.2.2.2.2⟩)
def Wg(x0:List d_)(x1c0c0:dY):Option (Bool×dY):=
 (Aav x0 x1c0c0).bind λy1=>some (decide (y1.1>=0),y1.2)
def Auc(x1:eo)(x2:dY):Bool:=(((!(F44 x1)) || (decide (x2.Time<0))) || (decide (x2.Time>2147483648)))
def F17(x0:c_)(x1:eo)(x2:dY):Option Int:=
 (F49 x0 x2.Power).bind λy1=>bif (y1.2 != 0)then some y1.2 else bif (Auc x1 x2)then some 1 else bif ((x2.Rosters.length:Int) != x0.Buses)then some 8 else (F51 x2.Power y1.1).bind λy6=>(Ag [(!y6,false)] (Wg x2.Rosters x2) (default,x2)).bind λy8=>bif ((!y6) || y8.1)then some 11 else some 0
def Alx(x0:List d_):Option (List d_):=appI 17 [] x0
def vN(x0:List dW):Option (List dW):=appI 41 [] x0
def F63(x0:c_)(x1:dY):Option Ax:=
 (F88 x1.Power).bind λy1=>(Alx x1.Rosters).bind λy3=>(vN x1.Events).bind λy5=>some ⟨⟨x1.Time,y1,y3,y5⟩,x0,[],[]⟩
def jP(x0:Ax)(x1:dZ):Option Ax:=
 (F88 x1).bind λy3=>(appI 97 x0.states [y3]).bind λy5=>some ⟨x0.Aj,x0.Af,x0.events,y5⟩
def Cu(x0:c_)(x1:Int)(x2:Int):Bool:=
 bif (x1==1)then ((decide (x2>=0))&&(decide (x2<(x0.Sources.length:Int)))) else bif (x1==2)then ((decide (x2>=0))&&(decide (x2<(x0.Breakers.length:Int)))) else bif (x1==3)then ((decide (x2>=0))&&(decide (x2<x0.Buses))) else bif (x1==4)then ((decide (x2>=0))&&(decide (x2<(x0.Consumers.length:Int)))) else ((decide (x2>=0))&&(decide (x2<0)))
def Aic(x1:a_):eu Bool Unit:=
 bif (x1.Kind==1)then eB (x1.Kind==1) else eB (x1.Kind==2)
def Aib(x1:a_):eu Bool Unit:=
 bif (x1.Kind==3)then eB (x1.Kind==3) else eB (x1.Kind==4)
def Ki(x0:c_)(x1:a_):Option Bool:=
 andThen (Aic x1) (λ_=>none) λz0=>bif z0 then some (Cu x0 2 x1.Unit) else andThen (Aib x1) (λ_=>none) λz1=>bif z1 then some (Cu x0 1 x1.Unit) else bif (x1.Kind==5)then some (Cu x0 4 x1.Unit) else bif (x1.Kind==6)then some ((Cu x0 1 x1.Unit)&&(Cu x0 3 x1.Value)) else bif (x1.Kind==8)then some (Cu x0 x1.Value x1.Unit) else bif (x1.Kind==9)then some (Cu x0 x1.Value x1.Unit) else some true
def Ax6(x1:dX)(a0:dX):Bool:=((x1.Kind==a0.Kind)&&((x1.Number==a0.Number)&&true))
def Awj(x1:dX)(n0:Nat)(a0:dX)(z0:Unit):eu Unit Int:=
 bif (Ax6 x1 a0)then eC (cnt 0 n0) else eB ()
def Atg(x0:List dX)(x1:dX):Option Int:=
 andThen (foldI (Awj x1) x0 0 ()) some λz0=>some (-1)
def Ati(x0:List dX)(x1:dX):Option Bool:=
 (Atg x0 x1).bind λy1=>some (decide (y1>=0))
def I0(x0:dZ)(x1:Int)(x2:Int):Option Bool:=
 (Ati x0.Broken ⟨x1,x2⟩).bind λy1=>some y1
def vI(x0:c_)(x1:dZ)(x2:Int):Option (Int×Bool):=
 (F56 x0 x1).bind λy1=>bif (y1 != 0)then some (0,false) else (vO x0 x1 x2).bind λy4=>some (y4.1,y4.2)
def Ae8(x0:c_)(x1:dZ)(x2:Int):Option Bool:=
 (getI x0.Breakers x2).bind λy1=>(getI x1.Closed x2).bind λy3=>(Ag [(y3,false)] (I0 x1 2 x2) default).bind λy5=>(Ag [((y3 || y5),false)] (I0 x1 3 y1.A) default).bind λy7=>bif ((y3 || y5) || y7)then some false else bif (y1.Kind==1)then (I0 x1 3 y1.B).bind λy11=>some (!y11) else bif (y1.Kind==2)then (I0 x1 1 y1.B).bind λy14=>(Ag [(!y14,true)] (getI x1.Sources y1.B) default).bind λy16=>some ((!y14)&&(y16.State==2)) else (vI x0 x1 y1.B).bind λy18=>(I0 x1 4 y1.B).bind λy20=>some ((!y20)&&(!y18.2))
def Qk(x2:Int)(n0:Nat)(a0:Ae)(z0:Unit):eu Unit (Ae×Bool):=
 (N9 a0.Buses x2).bind λy3=>bif y3 then eC (a0,true) else eB ()
def Hz(x0:c_)(x1:dZ)(x2:Int):Option (Ae×Bool):=
 (F58 x0 x1).bind λy1=>andThen (foldI (Qk x2) y1 0 ()) some λz0=>some (⟨[],[],[]⟩,false)
def R8(x0:c_)(x1:dZ)(x2:Int):Option (Int×Bool):=
 (Hz x0 x1 x2).bind λy1=>bif ((y1.1.Sources.length:Int)==0)then some (0,false) else (getI y1.1.Sources 0).bind λy4=>some (y4,true)
def D1(x0:Int):Int:=
 bif decide ((Int.tmod x0 3600)<0)then w64 ((Int.tmod x0 3600)+3600) else Int.tmod x0 3600
def Ac7(x0:Int)(x1:Int):Bool:=decide ((D1 (w64 ((D1 x1)-(D1 x0))))>1800)
def Pe(x0:Int)(x1:Int):Int:=
 bif (Ac7 x0 x1)then w64 ((D1 (w64 ((D1 x1)-(D1 x0))))-3600) else D1 (w64 ((D1 x1)-(D1 x0)))
def Aoh(x1:ee)(x2:ee):Bool:=((decide ((min x1.Frequency x2.Frequency)<0)) || (decide ((max x1.Frequency x2.Frequency)>6000)))
def Pf(x0:c_)(x1:ee)(x2:ee):Bool:=
 bif (Aoh x1 x2)then false else ((decide ((max (w64 (x1.Frequency-x2.Frequency)) (w64 (x2.Frequency-x1.Frequency)))<=x0.Frequency))&&(decide ((max (Pe x1.Phase x2.Phase) (w64 (0-Pe x1.Phase x2.Phase)))<=x0.Phase)))
def Ae7(x0:c_)(x1:dZ)(x2:dU):Option Bool:=
 (R8 x0 x1 x2.A).bind λy1=>bif !y1.2 then some true else bif (x2.Kind==1)then (R8 x0 x1 x2.B).bind λy5=>(Ag [(!y5.2,false)] (getI x1.Sources y1.1) default).bind λy7=>(Ag [(!y5.2,false)] (getI x1.Sources y5.1) default).bind λy9=>some ((!y5.2) || (Pf x0 y7 y9)) else bif (x2.Kind==2)then (getI x1.Sources y1.1).bind λy12=>(getI x1.Sources x2.B).bind λy14=>some (Pf x0 y12 y14) else some true
def Zn(x0:c_)(x2:Int):Bool:=((decide (x2<0)) || (decide (x2>=(x0.Breakers.length:Int))))
def X9(x0:c_)(x1:dZ)(x2:Int):Option Int:=
 (F56 x0 x1).bind λy1=>bif (y1 != 0)then some y1 else bif (Zn x0 x2)then some 10 else (Ae8 x0 x1 x2).bind λy5=>bif !y5 then some 11 else (getI x0.Breakers x2).bind λy8=>(Hz x0 x1 y8.A).bind λy10=>(Ag [((y8.Kind==1),true)] (N9 y10.1.Buses y8.B) default).bind λy12=>(Ag [(!((y8.Kind==1)&&y12),true)] (Ae7 x0 x1 y8) default).bind λy14=>bif ((!((y8.Kind==1)&&y12))&&(!y14))then some 12 else some 0
def N7(x0:c_)(x1:dZ)(x2:Int):Option (dZ×Int):=
 (X9 x0 x1 x2).bind λy1=>bif (y1 != 0)then some (⟨[],[],[],[]⟩,y1) else (F88 x1).bind λy4=>(getI y4.Closed x2).bind λy6=>(setI y4.Closed x2 true).bind λy8=>(F49 x0 ⟨y8,y4.Sources,y4.Limits,y4.Broken⟩).bind λy10=>some (y10.1,y10.2)
def P3(x0:c_)(x2:Int):Bool:=((decide (x2<0)) || (decide (x2>=(x0.Breakers.length:Int))))
def N6(x0:c_)(x1:dZ)(x2:Int):Option (dZ×Int):=
 (F56 x0 x1).bind λy1=>bif (y1 != 0)then some (⟨[],[],[],[]⟩,y1) else bif (P3 x0 x2)then some (⟨[],[],[],[]⟩,10) else (getI x1.Closed x2).bind λy5=>(Ag [(!y5,false)] (I0 x1 2 x2) default).bind λy7=>bif ((!y5) || y7)then some (⟨[],[],[],[]⟩,11) else (F88 x1).bind λy10=>(getI y10.Closed x2).bind λy12=>(setI y10.Closed x2 false).bind λy14=>some (⟨y14,y10.Sources,y10.Limits,y10.Broken⟩,0)
def X_(x0:c_)(x1:dZ)(x2:Int):Option (Int×Bool):=
 (F56 x0 x1).bind λy1=>bif (y1 != 0)then some (0,false) else (vP x0 x1 x2).bind λy4=>some (y4.1,y4.2)
def Ny(x0:c_)(x2:Int)(x3:Int):Bool:=((((decide (x2<0)) || (decide (x2>=(x0.Sources.length:Int)))) || (decide (x3<0))) || (decide (x3>=x0.Buses)))
def N5(x0:c_)(x1:dZ)(x2:Int)(x3:Int):Option (dZ×Int):=
 (F56 x0 x1).bind λy1=>bif (y1 != 0)then some (⟨[],[],[],[]⟩,y1) else bif (Ny x0 x2 x3)then some (⟨[],[],[],[]⟩,10) else (R8 x0 x1 x3).bind λy5=>(Ag [(!y5.2,false)] (getI x1.Sources x2) default).bind λy7=>bif ((!y5.2) || (y7.State != 2))then some (⟨[],[],[],[]⟩,11) else (F88 x1).bind λy10=>(X_ x0 x1 x2).bind λy12=>bif y12.2 then (Hz x0 x1 y12.1).bind λy15=>(getI x1.Sources y5.1).bind λy17=>(Wf y10 y15.1.Sources y17).bind λy19=>some (⟨y10.Closed,y19,y10.Limits,y10.Broken⟩,0) else (getI x1.Sources y5.1).bind λy21=>(Wf y10 [x2] y21).bind λy23=>some (⟨y10.Closed,y23,y10.Limits,y10.Broken⟩,0)
def Ae5(x0:dU)(x1:Int):Bool:=
 ((x0.Kind==2)&&(x0.B==x1))
def Us(x1c0:Int)(n0:Nat)(a0:dU)(z0:Unit):eu Unit (Int×Int):=
 bif Ae5 a0 x1c0 then eC (cnt 0 n0,x1c0) else eB ()
def Afc(x0:List dU)(x1c0:Int):Option (Int×Int):=
 andThen (foldI (Us x1c0) x0 0 ()) some λz0=>some ((-1),x1c0)
def Ak7(x0:c_)(x1:Int):Option Int:=
 (Afc x0.Breakers x1).bind λy1=>some y1.1
def I5(x0:Ar)(x1:Int):Option Bool:=
 (Ak7 x0.Af x1).bind λy1=>(getI x0.Ai.Closed y1).bind λy3=>some (!y3)
def Qh(x0:Ar)(x1:Int):Option (Int×Ar):=
 (getI x0.Ai.Sources x1).bind λy1=>(Ag [((y1.State != 0),false)] (I0 x0.Ai 1 x1) default).bind λy3=>bif ((y1.State != 0) || y3)then some (11,x0) else (getI x0.Af.Sources x1).bind λy6=>(Ag [((y6.Start==0),true)] (I5 x0 x1) default).bind λy8=>bif ((y6.Start==0)&&y8)then (setI x0.Ai.Sources x1 ⟨2,x0.time,5000,0⟩).bind λy11=>some (0,⟨x0.Af,⟨x0.Ai.Closed,y11,x0.Ai.Limits,x0.Ai.Broken⟩,x0.time⟩) else (setI x0.Ai.Sources x1 ⟨1,x0.time,5000,0⟩).bind λy13=>some (0,⟨x0.Af,⟨x0.Ai.Closed,y13,x0.Ai.Limits,x0.Ai.Broken⟩,x0.time⟩)
def Ac9(y1:ee)(y3:Bool):Bool:=(((y1.State != 1)&&(y1.State != 2)) || (!y3))
def Qg(x0:Ar)(x1:Int):Option (Int×Ar):=
 (getI x0.Ai.Sources x1).bind λy1=>(Ag [(((y1.State != 1)&&(y1.State != 2)),false)] (I5 x0 x1) default).bind λy3=>bif (Ac9 y1 y3)then some (11,x0) else (setI x0.Ai.Sources x1 ⟨0,y1.Since,y1.Frequency,y1.Phase⟩).bind λy6=>some (0,⟨x0.Af,⟨x0.Ai.Closed,y6,x0.Ai.Limits,x0.Ai.Broken⟩,x0.time⟩)
def X3(x2:Int)(y1:dV):Bool:=((decide (x2<0)) || (decide (x2>y1.Load)))
def Qf(x0:Ar)(x1:Int)(x2:Int):Option (Int×Ar):=
 (Ag [(decide (x2<0),false)] (getI x0.Af.Consumers x1) default).bind λy1=>bif (X3 x2 y1)then some (1,x0) else (getI x0.Ai.Limits x1).bind λy4=>(setI x0.Ai.Limits x1 x2).bind λy6=>some (0,⟨x0.Af,⟨x0.Ai.Closed,x0.Ai.Sources,y6,x0.Ai.Broken⟩,x0.time⟩)
def uS(n0:Nat)(a0:ee)(z0:(List ee)):eu ((List ee)) Unit:=
 bif (a0.State==2)then (getI z0 (cnt 0 n0)).bind λy7=>(setI z0 (cnt 0 n0) ⟨y7.State,y7.Since,y7.Frequency,D1 (w64 (a0.Phase+(w64 (36*(w64 (a0.Frequency-5000))))))⟩).bind λy9=>eB y9 else eB z0
def uT(x0:c_)(x1:dZ):Option (dZ×Int):=
 (F56 x0 x1).bind λy1=>bif (y1 != 0)then some (⟨[],[],[],[]⟩,y1) else (F88 x1).bind λy4=>andThen (foldI uS x1.Sources 0 y4.Sources) (λ_=>none) λz0=>some (⟨y4.Closed,z0,y4.Limits,y4.Broken⟩,0)
def X2(y1:dZ×Int)(z0:Int×(List ee)):Bool:=decide (z0.1<(y1.1.Sources.length:Int))
def Nx(x0:Ar)(y4:ee)(y6:Bool)(y8:eh):Bool:=(((y4.State==1)&&y6)&&(decide ((w64 (y4.Since+y8.Start))<=(w64 (x0.time+1)))))
def U3(x0:Ar)(y1:dZ×Int)(z0:Int×(List ee)):eu (Int×(List ee)) Unit:=
 bif (X2 y1 z0)then (getI z0.2 z0.1).bind λy4=>(Ag [((y4.State==1),true)] (I5 ⟨x0.Af,⟨y1.1.Closed,z0.2,y1.1.Limits,y1.1.Broken⟩,x0.time⟩ z0.1) default).bind λy6=>(Ag [(((y4.State==1)&&y6),true)] (getI x0.Af.Sources z0.1) default).bind λy8=>bif (Nx x0 y4 y6 y8)then (setI z0.2 z0.1 ⟨2,y4.Since,y4.Frequency,y4.Phase⟩).bind λy11=>eB (w64 (z0.1+1),y11) else eB (w64 (z0.1+1),z0.2) else eF (z0.1,z0.2)
def L9(x0:Ar):Option Ar:=
 (uT x0.Af x0.Ai).bind λy1=>andThen (whileN (U3 x0 y1) 1152921504606846976 (0,y1.1.Sources)) (λ_=>none) λz0=>some ⟨x0.Af,⟨y1.1.Closed,z0.2,y1.1.Limits,y1.1.Broken⟩,x0.time⟩
def R7(x0:dX)(x1:dX):Int:=
 bif (x0.Kind != x1.Kind)then w64 (x0.Kind-x1.Kind) else w64 (x0.Number-x1.Number)
def zN(x0:List dX)(x1:dX)(z0:Int×Int):eu (Int×Int) Unit:=
 bif decide (z0.1<z0.2)then (getI x0 (w64 (H5 .u64 (IntKind.wrap .u64 (w64 (z0.1+z0.2))) 1))).bind λy2=>bif decide ((R7 y2 x1)<0)then eB (w64 ((w64 (H5 .u64 (IntKind.wrap .u64 (w64 (z0.1+z0.2))) 1))+1),z0.2) else eB (z0.1,w64 (H5 .u64 (IntKind.wrap .u64 (w64 (z0.1+z0.2))) 1)) else eF (z0.1,z0.2)
def Z3(x0:List dX)(x1:dX):Option (Int×Bool):=
 andThen (whileN (zN x0 x1) 1152921504606846976 (0,(x0.length:Int))) (λ_=>none) λz0=>(Ag [(decide (z0.1<(x0.length:Int)),true)] (getI x0 z0.1) default).bind λy5=>some (z0.1,((decide (z0.1<(x0.length:Int)))&&((R7 y5 x1)==0)))
def Qe(x0:List dX)(x1:Int)(x2:List dX):Option ((List dX)):=
 (bndI x0.length x1 (x0.length:Int)).bind λu2=>bif ((x2.length:Int)==0)then some x0 else bif (x1==(x0.length:Int))then (appI 17 x0 x2).bind λy5=>some y5 else insI 17 x0 x1 x2
def Uq(x0:List dX)(x1:Int)(x2:Int):Option ((List dX)):=
 (bnd3I x0.length x1 x2 (x0.length:Int)).bind λu2=>bif (x1==x2)then some x0 else (bndI x0.length 0 x1).bind λu5=>(bndI x0.length x2 (x0.length:Int)).bind λu7=>(appPI x0 ((Int.toNat x1)-0) ((x0.drop (Int.toNat x2)).take ((Int.toNat (x0.length:Int))-(Int.toNat x2)))).bind λy8=>(bndI (y8.length-0) (((((Int.toNat x1)-0)+((x0.drop (Int.toNat x2)).take ((Int.toNat (x0.length:Int))-(Int.toNat x2))).length):Nat):Int) (x0.length:Int)).bind λu11=>some ((He y8 (0+(Int.toNat (((((Int.toNat x1)-0)+((x0.drop (Int.toNat x2)).take ((Int.toNat (x0.length:Int))-(Int.toNat x2))).length):Nat):Int))) ((Int.toNat (x0.length:Int))-(Int.toNat (((((Int.toNat x1)-0)+((x0.drop (Int.toNat x2)).take ((Int.toNat (x0.length:Int))-(Int.toNat x2))).length):Nat):Int))) ⟨0,0⟩).take (((Int.toNat x1)-0)+((x0.drop (Int.toNat x2)).take ((Int.toNat (x0.length:Int))-(Int.toNat x2))).length))
def Nw(x0:Ar)(x2:Bool):Bool:=(x2&&(decide ((x0.Ai.Broken.length:Int)>=32)))
def U2(x0:Ar)(x1:dX)(x2:Bool)(y1:Int×Bool):eu ((List dX)) Unit:=
 bif x2 then (Qe x0.Ai.Broken y1.1 [x1]).bind λy6=>eB y6 else (Uq x0.Ai.Broken y1.1 (w64 (y1.1+1))).bind λy8=>eB y8
def Eu(x0:Ar)(x1:dX)(x2:Bool):Option (Int×Ar):=
 (Z3 x0.Ai.Broken x1).bind λy1=>bif (y1.2==x2)then some (11,x0) else bif (Nw x0 x2)then some (2,x0) else andThen (U2 x0 x1 x2 y1) (λ_=>none) λz0=>bif (x1.Kind==1)then (getI x0.Ai.Sources x1.Number).bind λy11=>(setI x0.Ai.Sources x1.Number ⟨0,y11.Since,y11.Frequency,y11.Phase⟩).bind λy13=>bif x2 then (getI y13 x1.Number).bind λy16=>(setI y13 x1.Number ⟨3,y16.Since,y16.Frequency,y16.Phase⟩).bind λy18=>some (0,⟨x0.Af,⟨x0.Ai.Closed,y18,x0.Ai.Limits,z0⟩,x0.time⟩) else some (0,⟨x0.Af,⟨x0.Ai.Closed,y13,x0.Ai.Limits,z0⟩,x0.time⟩) else some (0,⟨x0.Af,⟨x0.Ai.Closed,x0.Ai.Sources,x0.Ai.Limits,z0⟩,x0.time⟩)
def Gm(x0:Ar)(x1:a_):Option (Int×Ar):=
 bif (x1.Kind==1)then (N7 x0.Af x0.Ai x1.Unit).bind λy2=>some (y2.2,⟨x0.Af,y2.1,x0.time⟩) else bif (x1.Kind==2)then (N6 x0.Af x0.Ai x1.Unit).bind λy5=>some (y5.2,⟨x0.Af,y5.1,x0.time⟩) else bif (x1.Kind==6)then (N5 x0.Af x0.Ai x1.Unit x1.Value).bind λy8=>some (y8.2,⟨x0.Af,y8.1,x0.time⟩) else bif (x1.Kind==3)then (Qh x0 x1.Unit).bind λy11=>some (y11.1,y11.2) else bif (x1.Kind==4)then (Qg x0 x1.Unit).bind λy14=>some (y14.1,y14.2) else bif (x1.Kind==5)then (Qf x0 x1.Unit x1.Value).bind λy17=>some (y17.1,y17.2) else bif (x1.Kind==7)then (L9 x0).bind λy20=>some (0,y20) else (Eu x0 ⟨x1.Value,x1.Unit⟩ (x1.Kind==8)).bind λy22=>some (y22.1,y22.2)
def C8(x2:Int)(x3:a_):Bool:=((((decide (x2<0)) || (decide (x2>2147483648))) || (decide (x3.Kind<1))) || (decide (x3.Kind>9)))
def Er(x0:c_)(x1:dZ)(x2:Int)(x3:a_):Option (dZ×Int):=
 (F56 x0 x1).bind λy1=>bif (y1 != 0)then some (⟨[],[],[],[]⟩,y1) else bif (C8 x2 x3)then some (⟨[],[],[],[]⟩,1) else (Ki x0 x3).bind λy5=>bif !y5 then some (⟨[],[],[],[]⟩,10) else (F88 x1).bind λy8=>(Gm ⟨x0,y8,x2⟩ x3).bind λy10=>bif (y10.1 != 0)then some (⟨[],[],[],[]⟩,y10.1) else some (y10.2.Ai,0)
def Vh(x0:Ax)(x1:a_)(x2:Int):Option Ax:=
 (appI 41 x0.events [⟨x0.Aj.Time,x1,x2⟩]).bind λy1=>some ⟨x0.Aj,x0.Af,y1,x0.states⟩
def N_(x0:Ax)(x1:dZ):Option Ax:=
 (F88 x1).bind λy3=>(appI 97 x0.states [y3]).bind λy5=>some ⟨x0.Aj,x0.Af,x0.events,y5⟩
def N4(x0:Int)(x1:Int)(x2:Ao):Option (Bool×Ao):=
 (I0 x2.Ai x0 x1).bind λy1=>some (y1,x2)
def Z6(x0:Ao)(x1:dU):Option (Bool×Ao):=
 (N4 3 x1.A x0).bind λy1=>bif y1.1 then some (true,y1.2) else bif (x1.Kind==1)then (N4 3 x1.B y1.2).bind λy5=>some (y5.1,y5.2) else bif (x1.Kind==2)then (N4 1 x1.B y1.2).bind λy8=>(Ag [(y8.1,false)] (getI y8.2.Ai.Sources x1.B) default).bind λy10=>some ((y8.1 || (y10.State != 2)),y8.2) else (N4 4 x1.B y1.2).bind λy12=>some (y12.1,y12.2)
def Qd(x0:Ao)(x1:Int):Option Ao:=
 (getI x0.Ai.Closed x1).bind λy1=>(setI x0.Ai.Closed x1 false).bind λy3=>(appI 25 x0.acts [⟨2,x1,0⟩]).bind λy5=>some ⟨x0.Af,⟨y3,x0.Ai.Sources,x0.Ai.Limits,x0.Ai.Broken⟩,y5⟩
def zS(n0:Nat)(a0:dU)(z0:Sg7):eu (Sg7) Unit:=
 (getI z0.2.2.2.2.2.2.2.1 (cnt 0 n0)).bind λy1=>(Ag [(y1,true)] (Z6 ⟨⟨z0.1,z0.2.1,z0.2.2.1,z0.2.2.2.1,z0.2.2.2.2.1,z0.2.2.2.2.2.1⟩,⟨z0.2.2.2.2.2.2.2.1,z0.2.2.2.2.2.2.2.2.1,z0.2.2.2.2.2.2.2.2.2.1,z0.2.2.2.2.2.2.2.2.2.2.1⟩,z0.2.2.2.2.2.2.2.2.2.2.2⟩ a0) (default,⟨⟨z0.1,z0.2.1,z0.2.2.1,z0.2.2.2.1,z0.2.2.2.2.1,z0.2.2.2.2.2.1⟩,⟨z0.2.2.2.2.2.2.2.1,z0.2.2.2.2.2.2.2.2.1,z0.2.2.2.2.2.2.2.2.2.1,z0.2.2.2.2.2.2.2.2.2.2.1⟩,z0.2.2.2.2.2.2.2.2.2.2.2⟩)).bind λy3=>bif (y1&&y3.1)then (appI 9 z0.2.2.2.2.2.2.1 [cnt 0 n0]).bind λy6=>eB (y3.2.Af.Buses,y3.2.Af.Breakers,y3.2.Af.Sources,y3.2.Af.Consumers,y3.2.Af.Phase,y3.2.Af.Frequency,y6,y3.2.Ai.Closed,y3.2.Ai.Sources,y3.2.Ai.Limits,y3.2.Ai.Broken,y3.2.acts) else eB (y3.2.Af.Buses,y3.2.Af.Breakers,y3.2.Af.Sources,y3.2.Af.Consumers,y3.2.Af.Phase,y3.2.Af.Frequency,z0.2.2.2.2.2.2.1,y3.2.Ai.Closed,y3.2.Ai.Sources,y3.2.Ai.Limits,y3.2.Ai.Broken,y3.2.acts)
def U1(n1:Nat)(a1:Int)(z1:Sg6):eu (Sg6) Unit:=
 (Qd ⟨⟨z1.1,z1.2.1,z1.2.2.1,z1.2.2.2.1,z1.2.2.2.2.1,z1.2.2.2.2.2.1⟩,⟨z1.2.2.2.2.2.2.1,z1.2.2.2.2.2.2.2.1,z1.2.2.2.2.2.2.2.2.1,z1.2.2.2.2.2.2.2.2.2.1⟩,z1.2.2.2.2.2.2.2.2.2.2⟩ a1).bind λy8=>eB (y8.Af.Buses,y8.Af.Breakers,y8.Af.Sources,y8.Af.Consumers,y8.Af.Phase,y8.Af.Frequency,y8.Ai.Closed,y8.Ai.Sources,y8.Ai.Limits,y8.Ai.Broken,y8.acts)
def Z9(x0:Ao):Option Ao:=
 andThen (foldI zS x0.Af.Breakers 0 (x0.Af.Buses,x0.Af.Breakers,x0.Af.Sources,x0.Af.Consumers,x0.Af.Phase,x0.Af.Frequency,[],x0.Ai.Closed,x0.Ai.Sources,x0.Ai.Limits,x0.Ai.Broken,x0.acts)) (λ_=>none) λz0=>andThen (foldI U1 z0.2.2.2.2.2.2.1 0 (z0.1,z0.2.1,z0.2.2.1,z0.2.2.2.1,z0.2.2.2.2.1,z0.2.2.2.2.2.1,z0.2.2.2.2.2.2.2.1,z0.2.2.2.2.2.2.2.2.1,z0.2.2.2.2.2.2.2.2.2.1,z0.2.2.2.2.2.2.2.2.2.2.1,z0.2.2.2.2.2.2.2.2.2.2.2)) (λ_=>none) λz1=>some ⟨⟨z1.1,z1.2.1,z1.2.2.1,z1.2.2.2.1,z1.2.2.2.2.1,z1.2.2.2.2.2.1⟩,⟨z1.2.2.2.2.2.2.1,z1.2.2.2.2.2.2.2.1,z1.2.2.2.2.2.2.2.2.1,z1.2.2.2.2.2.2.2.2.2.1⟩,z1.2.2.2.2.2.2.2.2.2.2⟩
def Yj(x0:c_)(x1:dZ)(x2:Int):Option Bool:=
 (Hz x0 x1 x2).bind λy1=>some (decide ((y1.1.Sources.length:Int)>0))
def Z5(x0:dU)(x1:Ao):Option (Bool×Ao):=
 (Ag [((x0.Kind==3),true)] (Yj x1.Af x1.Ai x0.A) default).bind λy1=>some (((x0.Kind==3)&&(!y1)),x1)
def zR(n0:Nat)(a0:dU)(z0:Sg7):eu (Sg7) Unit:=
 (getI z0.2.2.2.2.2.2.2.1 (cnt 0 n0)).bind λy1=>(Ag [(y1,true)] (Z5 a0 ⟨⟨z0.1,z0.2.1,z0.2.2.1,z0.2.2.2.1,z0.2.2.2.2.1,z0.2.2.2.2.2.1⟩,⟨z0.2.2.2.2.2.2.2.1,z0.2.2.2.2.2.2.2.2.1,z0.2.2.2.2.2.2.2.2.2.1,z0.2.2.2.2.2.2.2.2.2.2.1⟩,z0.2.2.2.2.2.2.2.2.2.2.2⟩) (default,⟨⟨z0.1,z0.2.1,z0.2.2.1,z0.2.2.2.1,z0.2.2.2.2.1,z0.2.2.2.2.2.1⟩,⟨z0.2.2.2.2.2.2.2.1,z0.2.2.2.2.2.2.2.2.1,z0.2.2.2.2.2.2.2.2.2.1,z0.2.2.2.2.2.2.2.2.2.2.1⟩,z0.2.2.2.2.2.2.2.2.2.2.2⟩)).bind λy3=>bif (y1&&y3.1)then (appI 9 z0.2.2.2.2.2.2.1 [cnt 0 n0]).bind λy6=>eB (y3.2.Af.Buses,y3.2.Af.Breakers,y3.2.Af.Sources,y3.2.Af.Consumers,y3.2.Af.Phase,y3.2.Af.Frequency,y6,y3.2.Ai.Closed,y3.2.Ai.Sources,y3.2.Ai.Limits,y3.2.Ai.Broken,y3.2.acts) else eB (y3.2.Af.Buses,y3.2.Af.Breakers,y3.2.Af.Sources,y3.2.Af.Consumers,y3.2.Af.Phase,y3.2.Af.Frequency,z0.2.2.2.2.2.2.1,y3.2.Ai.Closed,y3.2.Ai.Sources,y3.2.Ai.Limits,y3.2.Ai.Broken,y3.2.acts)
def Ap2(n1:Nat)(a1:Int)(z1:Sg6):eu (Sg6) Unit:=
 (Qd ⟨⟨z1.1,z1.2.1,z1.2.2.1,z1.2.2.2.1,z1.2.2.2.2.1,z1.2.2.2.2.2.1⟩,⟨z1.2.2.2.2.2.2.1,z1.2.2.2.2.2.2.2.1,z1.2.2.2.2.2.2.2.2.1,z1.2.2.2.2.2.2.2.2.2.1⟩,z1.2.2.2.2.2.2.2.2.2.2⟩ a1).bind λy8=>eB (y8.Af.Buses,y8.Af.Breakers,y8.Af.Sources,y8.Af.Consumers,y8.Af.Phase,y8.Af.Frequency,y8.Ai.Closed,y8.Ai.Sources,y8.Ai.Limits,y8.Ai.Broken,y8.acts)
def Z8(x0:Ao):Option Ao:=
 andThen (foldI zR x0.Af.Breakers 0 (x0.Af.Buses,x0.Af.Breakers,x0.Af.Sources,x0.Af.Consumers,x0.Af.Phase,x0.Af.Frequency,[],x0.Ai.Closed,x0.Ai.Sources,x0.Ai.Limits,x0.Ai.Broken,x0.acts)) (λ_=>none) λz0=>andThen (foldI Ap2 z0.2.2.2.2.2.2.1 0 (z0.1,z0.2.1,z0.2.2.1,z0.2.2.2.1,z0.2.2.2.2.1,z0.2.2.2.2.2.1,z0.2.2.2.2.2.2.2.1,z0.2.2.2.2.2.2.2.2.1,z0.2.2.2.2.2.2.2.2.2.1,z0.2.2.2.2.2.2.2.2.2.2.1,z0.2.2.2.2.2.2.2.2.2.2.2)) (λ_=>none) λz1=>some ⟨⟨z1.1,z1.2.1,z1.2.2.1,z1.2.2.2.1,z1.2.2.2.2.1,z1.2.2.2.2.2.1⟩,⟨z1.2.2.2.2.2.2.1,z1.2.2.2.2.2.2.2.1,z1.2.2.2.2.2.2.2.2.1,z1.2.2.2.2.2.2.2.2.2.1⟩,z1.2.2.2.2.2.2.2.2.2.2⟩
def jA(x0:Ao):Option Ao:=
 (Z9 x0).bind λy1=>(Z8 y1).bind λy3=>(F49 y3.Af y3.Ai).bind λy5=>some ⟨y3.Af,y5.1,y3.acts⟩
def Qc(x0:Int)(x1:Int)(x2:c_):Option Int:=
 (getI x2.Consumers x0).bind λy1=>(getI x2.Consumers x1).bind λy3=>some (K7 y1.Preference y3.Preference)
def Xz(x1:Int)(z1:Int×fb)(y12:Int):Bool:=((decide (z1.1>x1))&&(decide (y12<0)))
def Un(x1:Int)(x3c0:c_)(z1:Int×fb):eu (Int×fb) Unit:=
 (Ag [(decide (z1.1>x1),true)] (getI z1.2 z1.1) default).bind λy8=>(Ag [(decide (z1.1>x1),true)] (getI z1.2 (w64 (z1.1-1))) default).bind λy10=>(Ag [(decide (z1.1>x1),true)] (Qc y8 y10 x3c0) default).bind λy12=>bif (Xz x1 z1 y12)then (getI z1.2 (w64 (z1.1-1))).bind λy15=>(getI z1.2 z1.1).bind λy17=>(setI z1.2 z1.1 y15).bind λy19=>(getI y19 (w64 (z1.1-1))).bind λy21=>(setI y19 (w64 (z1.1-1)) y17).bind λy23=>eB (w64 (z1.1-1),y23) else eF (z1.1,z1.2)
def zK(x1:Int)(x2:Int)(x3c0:c_)(z0:Int×fb):eu (Int×fb) Unit:=
 bif decide (z0.1<x2)then andThen (whileN (Un x1 x3c0) 1152921504606846976 (z0.1,z0.2)) (λ_=>none) λz1=>eB (w64 (z0.1+1),z1.2) else eF (z0.1,z0.2)
def Z1(x0:fb)(x1:Int)(x2:Int)(x3c0:c_):Option (fb×c_):=
 andThen (whileN (zK x1 x2 x3c0) 1152921504606846976 (w64 (x1+1),x0)) (λ_=>none) λz0=>some (z0.2,x3c0)
def zM(x1:Int)(z0:Int×Int×fb×Int×(List dU)×(List eh)×(List dV)×Int×Int):eu (Int×Int×fb×Int×(List dU)×(List eh)×(List dV)×Int×Int) Unit:=
 bif decide (z0.2.1<=x1)then (Z1 z0.2.2.1 z0.1 z0.2.1 ⟨z0.2.2.2.1,z0.2.2.2.2.1,z0.2.2.2.2.2.1,z0.2.2.2.2.2.2.1,z0.2.2.2.2.2.2.2.1,z0.2.2.2.2.2.2.2.2⟩).bind λy2=>eB (z0.2.1,w64 (z0.2.1+20),y2.1,y2.2.Buses,y2.2.Breakers,y2.2.Sources,y2.2.Consumers,y2.2.Phase,y2.2.Frequency) else eF (z0.1,z0.2.1,z0.2.2.1,z0.2.2.2.1,z0.2.2.2.2.1,z0.2.2.2.2.2.1,z0.2.2.2.2.2.2.1,z0.2.2.2.2.2.2.2.1,z0.2.2.2.2.2.2.2.2)
def zL(x1:Int)(z1:Unit):eu Unit Unit:=
 bif decide (20<x1)then none else eF ()
def Ae6(x0:fb)(x1:Int)(x2c0:c_):Option (fb×c_):=
 andThen (whileN (zM x1) 1152921504606846976 (0,20,x0,x2c0.Buses,x2c0.Breakers,x2c0.Sources,x2c0.Consumers,x2c0.Phase,x2c0.Frequency)) (λ_=>none) λz0=>(Z1 z0.2.2.1 z0.1 x1 ⟨z0.2.2.2.1,z0.2.2.2.2.1,z0.2.2.2.2.2.1,z0.2.2.2.2.2.2.1,z0.2.2.2.2.2.2.2.1,z0.2.2.2.2.2.2.2.2⟩).bind λy4=>andThen (whileN (zL x1) 1152921504606846976 ()) (λ_=>none) λz1=>some (y4.1,y4.2)
def Z2(x0:fb)(x1c0:c_):Option (fb×c_):=
 (Ae6 x0 (x0.length:Int) x1c0).bind λy1=>some (y1.1,y1.2)
def Aol(x0:c_)(z0:Int×fb):Bool:=decide (z0.1<(x0.Consumers.length:Int))
def Ah7(x0:c_)(z0:Int×fb):eu (Int×fb) Unit:=
 bif (Aol x0 z0)then (appI 9 z0.2 [z0.1]).bind λy5=>eB (w64 (z0.1+1),y5) else eF (z0.1,z0.2)
def uV(x0:c_):Option (fb):=
 (F43 x0).bind λy1=>bif (y1 != 0)then some [] else andThen (whileN (Ah7 x0) 1152921504606846976 (0,[])) (λ_=>none) λz0=>(Z2 z0.2 x0).bind λy7=>some y7.1
def Uy(x0:Int)(x1:Ae):Option Bool:=
 (N9 x1.Consumers x0).bind λy1=>some (!y1)
def U6(x1c0:Ae)(n0:Nat)(a0:Int)(z0:Unit):eu Unit (Int×Ae):=
 (Uy a0 x1c0).bind λy1=>bif y1 then eC (cnt 0 n0,x1c0) else eB ()
def Afl(x0:fb)(x1c0:Ae):Option (Int×Ae):=
 andThen (foldI (U6 x1c0) x0 0 ()) some λz0=>some ((-1),x1c0)
def Ac8(z0:Int×Int×fb):Bool:=decide (z0.2.1<(z0.2.2.length:Int))
def Uz(y1:Int×Ae)(z0:Int×Int×fb):eu (Int×Int×fb) Unit:=
 bif (Ac8 z0)then (getI z0.2.2 z0.2.1).bind λy5=>(Uy y5 y1.2).bind λy7=>bif !y7 then (getI z0.2.2 z0.1).bind λy10=>(setI z0.2.2 z0.1 y5).bind λy12=>eB (w64 (z0.1+1),w64 (z0.2.1+1),y12) else eB (z0.1,w64 (z0.2.1+1),z0.2.2) else eF (z0.1,z0.2.1,z0.2.2)
def U0(x0:fb)(x1c0:Ae):Option (fb×Ae):=
 (Afl x0 x1c0).bind λy1=>bif (y1.1==(-1))then some (x0,y1.2) else andThen (whileN (Uz y1) 1152921504606846976 (y1.1,w64 (y1.1+1),x0)) (λ_=>none) λz0=>(bndI z0.2.2.length z0.1 (z0.2.2.length:Int)).bind λu15=>(bndI (He z0.2.2 (Int.toNat z0.1) ((Int.toNat (z0.2.2.length:Int))-(Int.toNat z0.1)) 0).length 0 z0.1).bind λu17=>some (((He z0.2.2 (Int.toNat z0.1) ((Int.toNat (z0.2.2.length:Int))-(Int.toNat z0.1)) 0).take ((Int.toNat z0.1)-0)),y1.2)
def uU(x1:dZ)(y1:Ae×Bool)(n0:Nat)(a0:Int)(z0:Int):eu Int Unit:=
 bif decide ((y1.1.Sources.length:Int)>0)then (getI x1.Limits a0).bind λy4=>eB (w64 (z0+y4)) else eB z0
def Ya(x0:c_)(x1:dZ)(x2:Int):Option Int:=
 (Hz x0 x1 x2).bind λy1=>andThen (foldI (uU x1 y1) y1.1.Consumers 0 0) (λ_=>none) λz0=>some z0
def Ah6(x0:c_)(n0:Nat)(a0:Int)(z0:Int):eu Int Unit:=
 (getI x0.Sources a0).bind λy3=>eB (w64 (z0+y3.Rating))
def Yb(x0:c_)(x1:dZ)(x2:Int):Option Int:=
 (Hz x0 x1 x2).bind λy1=>andThen (foldI (Ah6 x0) y1.1.Sources 0 0) (λ_=>none) λz0=>some z0
def Uo(x0:Ao)(x1:Int):Option Int:=
 (Ya x0.Af x0.Ai x1).bind λy1=>(Yb x0.Af x0.Ai x1).bind λy3=>some (max 0 (w64 (y1-y3)))
def As9(n0:Nat)(a0:Int)(z0:(List Ae)):eu ((List Ae)) Unit:=
 (getI z0 a0).bind λy8=>(appI 9 y8.Buses [cnt 0 n0]).bind λy10=>(setI z0 a0 ⟨y10,y8.Sources,y8.Consumers⟩).bind λy12=>eB y12
def Avz(x0:c_)(z1:Int×(List Ae)):Bool:=decide (z1.1<(x0.Sources.length:Int))
def As8(x0:c_)(x1:dZ)(y4:fb)(z1:Int×(List Ae)):eu (Int×(List Ae)) Unit:=
 bif (Avz x0 z1)then (vP x0 x1 z1.1).bind λy15=>bif y15.2 then (getI y4 y15.1).bind λy18=>(getI z1.2 y18).bind λy20=>(appI 9 y20.Sources [z1.1]).bind λy22=>(setI z1.2 y18 ⟨y20.Buses,y22,y20.Consumers⟩).bind λy24=>eB (w64 (z1.1+1),y24) else eB (w64 (z1.1+1),z1.2) else eF (z1.1,z1.2)
def Avy(x0:c_)(z2:Int×(List Ae)):Bool:=decide (z2.1<(x0.Consumers.length:Int))
def As7(x0:c_)(x1:dZ)(y4:fb)(z2:Int×(List Ae)):eu (Int×(List Ae)) Unit:=
 bif (Avy x0 z2)then (vO x0 x1 z2.1).bind λy27=>bif y27.2 then (getI y4 y27.1).bind λy30=>(getI z2.2 y30).bind λy32=>(appI 9 y32.Consumers [z2.1]).bind λy34=>(setI z2.2 y30 ⟨y32.Buses,y32.Sources,y34⟩).bind λy36=>eB (w64 (z2.1+1),y36) else eB (w64 (z2.1+1),z2.2) else eF (z2.1,z2.2)
def Ak5(x0:c_)(x1:dZ):Option ((List Ae)):=
 (F56 x0 x1).bind λy1=>bif (y1 != 0)then some [] else (Afx x0 x1).bind λy4=>(mkI 73 x0.Buses ⟨[],[],[]⟩).bind λy6=>andThen (foldI As9 y4 0 y6) (λ_=>none) λz0=>andThen (whileN (As8 x0 x1 y4) 1152921504606846976 (0,z0)) (λ_=>none) λz1=>andThen (whileN (As7 x0 x1 y4) 1152921504606846976 (0,z1.2)) (λ_=>none) λz2=>(Qp z2.2).bind λy38=>some y38
def X1(y1:Int)(y3:Int)(y5:dV):Bool:=decide ((min y1 (w64 (y3-y5.Least)))>0)
def zP(x0:Ao)(x2:Int)(n0:Nat)(a0:Int)(z0:fb×(List a_)):eu (fb×(List a_)) Unit:=
 (Uo ⟨x0.Af,⟨x0.Ai.Closed,x0.Ai.Sources,z0.1,x0.Ai.Broken⟩,z0.2⟩ x2).bind λy1=>(getI z0.1 a0).bind λy3=>(getI x0.Af.Consumers a0).bind λy5=>bif (X1 y1 y3 y5)then (setI z0.1 a0 (w64 (y3-(min y1 (w64 (y3-y5.Least)))))).bind λy8=>(getI y8 a0).bind λy10=>(appI 25 z0.2 [⟨5,a0,y10⟩]).bind λy12=>eB (y8,y12) else eB (z0.1,z0.2)
def Ux(x0:Ao)(x1:fb)(x2:Int):Option Ao:=
 andThen (foldI (zP x0 x2) x1 0 (x0.Ai.Limits,x0.acts)) (λ_=>none) λz0=>some ⟨x0.Af,⟨x0.Ai.Closed,x0.Ai.Sources,z0.1,x0.Ai.Broken⟩,z0.2⟩
def Ae9(x0:dU)(x1:Int):Bool:=
 ((x0.Kind==3)&&(x0.B==x1))
def zQ(x0:Ao)(x1c0:Int)(n0:Nat)(a0:dU)(z0:fb):eu (fb) Unit:=
 (getI x0.Ai.Closed (cnt 0 n0)).bind λy1=>bif (y1&&(Ae9 a0 x1c0))then (appI 9 z0 [cnt 0 n0]).bind λy4=>eB y4 else eB z0
def Ap1(n1:Nat)(a1:Int)(z1:Sg6):eu (Sg6) Unit:=
 (Qd ⟨⟨z1.1,z1.2.1,z1.2.2.1,z1.2.2.2.1,z1.2.2.2.2.1,z1.2.2.2.2.2.1⟩,⟨z1.2.2.2.2.2.2.1,z1.2.2.2.2.2.2.2.1,z1.2.2.2.2.2.2.2.2.1,z1.2.2.2.2.2.2.2.2.2.1⟩,z1.2.2.2.2.2.2.2.2.2.2⟩ a1).bind λy6=>eB (y6.Af.Buses,y6.Af.Breakers,y6.Af.Sources,y6.Af.Consumers,y6.Af.Phase,y6.Af.Frequency,y6.Ai.Closed,y6.Ai.Sources,y6.Ai.Limits,y6.Ai.Broken,y6.acts)
def Z7(x0:Ao)(x1c0:Int):Option (Ao×Int):=
 andThen (foldI (zQ x0 x1c0) x0.Af.Breakers 0 []) (λ_=>none) λz0=>andThen (foldI Ap1 z0 0 (x0.Af.Buses,x0.Af.Breakers,x0.Af.Sources,x0.Af.Consumers,x0.Af.Phase,x0.Af.Frequency,x0.Ai.Closed,x0.Ai.Sources,x0.Ai.Limits,x0.Ai.Broken,x0.acts)) (λ_=>none) λz1=>some (⟨⟨z1.1,z1.2.1,z1.2.2.1,z1.2.2.2.1,z1.2.2.2.2.1,z1.2.2.2.2.2.1⟩,⟨z1.2.2.2.2.2.2.1,z1.2.2.2.2.2.2.2.1,z1.2.2.2.2.2.2.2.2.1,z1.2.2.2.2.2.2.2.2.2.1⟩,z1.2.2.2.2.2.2.2.2.2.2⟩,x1c0)
def zO(x2:Int)(n0:Nat)(a0:Int)(z0:Sg6):eu (Sg6) Unit:=
 (getI z0.2.2.2.2.2.2.2.2.1 a0).bind λy1=>(Ag [(decide (y1>0),true)] (Uo ⟨⟨z0.1,z0.2.1,z0.2.2.1,z0.2.2.2.1,z0.2.2.2.2.1,z0.2.2.2.2.2.1⟩,⟨z0.2.2.2.2.2.2.1,z0.2.2.2.2.2.2.2.1,z0.2.2.2.2.2.2.2.2.1,z0.2.2.2.2.2.2.2.2.2.1⟩,z0.2.2.2.2.2.2.2.2.2.2⟩ x2) default).bind λy3=>bif ((decide (y1>0))&&(decide (y3>0)))then (Z7 ⟨⟨z0.1,z0.2.1,z0.2.2.1,z0.2.2.2.1,z0.2.2.2.2.1,z0.2.2.2.2.2.1⟩,⟨z0.2.2.2.2.2.2.1,z0.2.2.2.2.2.2.2.1,z0.2.2.2.2.2.2.2.2.1,z0.2.2.2.2.2.2.2.2.2.1⟩,z0.2.2.2.2.2.2.2.2.2.2⟩ a0).bind λy6=>eB (y6.1.Af.Buses,y6.1.Af.Breakers,y6.1.Af.Sources,y6.1.Af.Consumers,y6.1.Af.Phase,y6.1.Af.Frequency,y6.1.Ai.Closed,y6.1.Ai.Sources,y6.1.Ai.Limits,y6.1.Ai.Broken,y6.1.acts) else eB (z0.1,z0.2.1,z0.2.2.1,z0.2.2.2.1,z0.2.2.2.2.1,z0.2.2.2.2.2.1,z0.2.2.2.2.2.2.1,z0.2.2.2.2.2.2.2.1,z0.2.2.2.2.2.2.2.2.1,z0.2.2.2.2.2.2.2.2.2.1,z0.2.2.2.2.2.2.2.2.2.2)
def Uw(x0:Ao)(x1:fb)(x2:Int):Option Ao:=
 andThen (foldI (zO x2) x1 0 (x0.Af.Buses,x0.Af.Breakers,x0.Af.Sources,x0.Af.Consumers,x0.Af.Phase,x0.Af.Frequency,x0.Ai.Closed,x0.Ai.Sources,x0.Ai.Limits,x0.Ai.Broken,x0.acts)) (λ_=>none) λz0=>some ⟨⟨z0.1,z0.2.1,z0.2.2.1,z0.2.2.2.1,z0.2.2.2.2.1,z0.2.2.2.2.2.1⟩,⟨z0.2.2.2.2.2.2.1,z0.2.2.2.2.2.2.2.1,z0.2.2.2.2.2.2.2.2.1,z0.2.2.2.2.2.2.2.2.2.1⟩,z0.2.2.2.2.2.2.2.2.2.2⟩
def zT(y1:fb)(n0:Nat)(a0:Ae)(z0:Sg6):eu (Sg6) Unit:=
 (Yi y1).bind λy5=>(U0 y5 a0).bind λy7=>bif decide ((y7.2.Sources.length:Int)>0)then (getI y7.2.Buses 0).bind λy10=>(Ux ⟨⟨z0.1,z0.2.1,z0.2.2.1,z0.2.2.2.1,z0.2.2.2.2.1,z0.2.2.2.2.2.1⟩,⟨z0.2.2.2.2.2.2.1,z0.2.2.2.2.2.2.2.1,z0.2.2.2.2.2.2.2.2.1,z0.2.2.2.2.2.2.2.2.2.1⟩,z0.2.2.2.2.2.2.2.2.2.2⟩ y7.1 y10).bind λy12=>(getI y7.2.Buses 0).bind λy14=>(Uw y12 y7.1 y14).bind λy16=>eB (y16.Af.Buses,y16.Af.Breakers,y16.Af.Sources,y16.Af.Consumers,y16.Af.Phase,y16.Af.Frequency,y16.Ai.Closed,y16.Ai.Sources,y16.Ai.Limits,y16.Ai.Broken,y16.acts) else eB (z0.1,z0.2.1,z0.2.2.1,z0.2.2.2.1,z0.2.2.2.2.1,z0.2.2.2.2.2.1,z0.2.2.2.2.2.2.1,z0.2.2.2.2.2.2.2.1,z0.2.2.2.2.2.2.2.2.1,z0.2.2.2.2.2.2.2.2.2.1,z0.2.2.2.2.2.2.2.2.2.2)
def U8(x0:Ao):Option Ao:=
 (uV x0.Af).bind λy1=>(Ak5 x0.Af x0.Ai).bind λy3=>andThen (foldI (zT y1) y3 0 (x0.Af.Buses,x0.Af.Breakers,x0.Af.Sources,x0.Af.Consumers,x0.Af.Phase,x0.Af.Frequency,x0.Ai.Closed,x0.Ai.Sources,x0.Ai.Limits,x0.Ai.Broken,x0.acts)) (λ_=>none) λz0=>some ⟨⟨z0.1,z0.2.1,z0.2.2.1,z0.2.2.2.1,z0.2.2.2.2.1,z0.2.2.2.2.2.1⟩,⟨z0.2.2.2.2.2.2.1,z0.2.2.2.2.2.2.2.1,z0.2.2.2.2.2.2.2.2.1,z0.2.2.2.2.2.2.2.2.2.1⟩,z0.2.2.2.2.2.2.2.2.2.2⟩
def Afo(x0:Ao):Option Ao:=
 (jA x0).bind λy1=>(U8 y1).bind λy3=>some y3
def Afp(x0:c_)(x1:dZ):Option (dZ×(List a_)×Int):=
 (F56 x0 x1).bind λy1=>bif (y1 != 0)then some (⟨[],[],[],[]⟩,[],y1) else (F88 x1).bind λy4=>(Afo ⟨x0,y4,[]⟩).bind λy6=>some (y6.Ai,y6.acts,0)
def Alw(x0:c_)(x1:dZ):Option (dZ×(List a_)×Int):=
 (Afp x0 x1).bind λy1=>some (y1.1,y1.2.1,y1.2.2)
def Aem(x1:a_)(y1:dZ×Int):eu Int Unit:=
 bif (x1.Kind==7)then eB 1 else eB y1.2
def Aen(y1:dZ×Int)(n1:Nat)(a1:a_)(z1:Int×Int×(List dU)×(List eh)×(List dV)×Int×Int×fe×(List ee)×fb×(List dX)×(List d_)×(List dW)×fe×(List dW)×(List dZ)×fb):eu (Int×Int×(List dU)×(List eh)×(List dV)×Int×Int×fe×(List ee)×fb×(List dX)×(List d_)×(List dW)×fe×(List dW)×(List dZ)×fb) Unit:=
 (Vh ⟨⟨z1.1,⟨z1.2.2.2.2.2.2.2.1,z1.2.2.2.2.2.2.2.2.1,z1.2.2.2.2.2.2.2.2.2.1,z1.2.2.2.2.2.2.2.2.2.2.1⟩,z1.2.2.2.2.2.2.2.2.2.2.2.1,z1.2.2.2.2.2.2.2.2.2.2.2.2.1⟩,⟨z1.2.1,z1.2.2.1,z1.2.2.2.1,z1.2.2.2.2.1,z1.2.2.2.2.2.1,z1.2.2.2.2.2.2.1⟩,z1.2.2.2.2.2.2.2.2.2.2.2.2.2.2.1,z1.2.2.2.2.2.2.2.2.2.2.2.2.2.2.2.1⟩ a1 0).bind λy11=>bif (a1.Kind==2)then (getI z1.2.2.2.2.2.2.2.2.2.2.2.2.2.1 a1.Unit).bind λy14=>(setI z1.2.2.2.2.2.2.2.2.2.2.2.2.2.1 a1.Unit false).bind λy16=>(N_ y11 ⟨y16,y1.1.Sources,z1.2.2.2.2.2.2.2.2.2.2.2.2.2.2.2.2,y1.1.Broken⟩).bind λy18=>eB (y18.Aj.Time,y18.Af.Buses,y18.Af.Breakers,y18.Af.Sources,y18.Af.Consumers,y18.Af.Phase,y18.Af.Frequency,y18.Aj.Power.Closed,y18.Aj.Power.Sources,y18.Aj.Power.Limits,y18.Aj.Power.Broken,y18.Aj.Rosters,y18.Aj.Events,y16,y18.events,y18.states,z1.2.2.2.2.2.2.2.2.2.2.2.2.2.2.2.2) else (getI z1.2.2.2.2.2.2.2.2.2.2.2.2.2.2.2.2 a1.Unit).bind λy20=>(setI z1.2.2.2.2.2.2.2.2.2.2.2.2.2.2.2.2 a1.Unit a1.Value).bind λy22=>(N_ y11 ⟨z1.2.2.2.2.2.2.2.2.2.2.2.2.2.1,y1.1.Sources,y22,y1.1.Broken⟩).bind λy24=>eB (y24.Aj.Time,y24.Af.Buses,y24.Af.Breakers,y24.Af.Sources,y24.Af.Consumers,y24.Af.Phase,y24.Af.Frequency,y24.Aj.Power.Closed,y24.Aj.Power.Sources,y24.Aj.Power.Limits,y24.Aj.Power.Broken,y24.Aj.Rosters,y24.Aj.Events,z1.2.2.2.2.2.2.2.2.2.2.2.2.2.1,y24.events,y24.states,y22)
def R5(x0:Ax)(x1:a_):Option Ax:=
 (Er x0.Af x0.Aj.Power x0.Aj.Time x1).bind λy1=>andThen (Aem x1 y1) (λ_=>none) λz0=>(Vh x0 x1 z0).bind λy4=>bif (z0 != 0)then some y4 else (N_ y4 y1.1).bind λy7=>(Alw y7.Af y1.1).bind λy9=>andThen (foldI (Aen y1) y9.2.1 0 (y7.Aj.Time,y7.Af.Buses,y7.Af.Breakers,y7.Af.Sources,y7.Af.Consumers,y7.Af.Phase,y7.Af.Frequency,y7.Aj.Power.Closed,y7.Aj.Power.Sources,y7.Aj.Power.Limits,y7.Aj.Power.Broken,y7.Aj.Rosters,y7.Aj.Events,y1.1.Closed,y7.events,y7.states,y1.1.Limits)) (λ_=>none) λz1=>(F51 ⟨z1.2.2.2.2.2.2.2.2.2.2.2.2.2.1,y1.1.Sources,z1.2.2.2.2.2.2.2.2.2.2.2.2.2.2.2.2,y1.1.Broken⟩ y9.1).bind λy26=>bif !y26 then (N_ ⟨⟨z1.1,⟨z1.2.2.2.2.2.2.2.1,z1.2.2.2.2.2.2.2.2.1,z1.2.2.2.2.2.2.2.2.2.1,z1.2.2.2.2.2.2.2.2.2.2.1⟩,z1.2.2.2.2.2.2.2.2.2.2.2.1,z1.2.2.2.2.2.2.2.2.2.2.2.2.1⟩,⟨z1.2.1,z1.2.2.1,z1.2.2.2.1,z1.2.2.2.2.1,z1.2.2.2.2.2.1,z1.2.2.2.2.2.2.1⟩,z1.2.2.2.2.2.2.2.2.2.2.2.2.2.2.1,z1.2.2.2.2.2.2.2.2.2.2.2.2.2.2.2.1⟩ y9.1).bind λy29=>some ⟨⟨y29.Aj.Time,y9.1,y29.Aj.Rosters,y29.Aj.Events⟩,y29.Af,y29.events,y29.states⟩ else some ⟨⟨z1.1,y9.1,z1.2.2.2.2.2.2.2.2.2.2.2.1,z1.2.2.2.2.2.2.2.2.2.2.2.2.1⟩,⟨z1.2.1,z1.2.2.1,z1.2.2.2.1,z1.2.2.2.2.1,z1.2.2.2.2.2.1,z1.2.2.2.2.2.2.1⟩,z1.2.2.2.2.2.2.2.2.2.2.2.2.2.2.1,z1.2.2.2.2.2.2.2.2.2.2.2.2.2.2.2.1⟩
def Qj(x0:Int)(x1:Int):Bool:=
 ((decide (x0>=(-1)))&&(decide (x0<=x1)))
def Afa(x0:dU)(x1:Int):Bool:=
 ((x0.Kind==2)&&(x0.B==x1))
def Ur(x1c0:Int)(n0:Nat)(a0:dU)(z0:Unit):eu Unit (Int×Int):=
 bif Afa a0 x1c0 then eC (cnt 0 n0,x1c0) else eB ()
def Afb(x0:List dU)(x1c0:Int):Option (Int×Int):=
 andThen (foldI (Ur x1c0) x0 0 ()) some λz0=>some ((-1),x1c0)
def Yc(x0:c_)(x1:Int):Option Int:=
 (Afb x0.Breakers x1).bind λy1=>some y1.1
def Ada(x1:eo)(y1:Ae×Bool):Bool:=((!(F44 x1)) || (decide ((y1.1.Sources.length:Int)<2)))
def Aom(x1:eo)(y9:Int)(y11:eh)(y13:Int):Bool:=decide ((w64 (100*y13))<=(w64 (x1.Stop*(w64 (y9-y11.Rating)))))
def M6(x0:c_)(x1:eo)(x2:dZ)(x3:Int)(a0:Int×Int)(z0:Unit):eu Unit (Int×Bool):=
 (Yc x0 a0.2).bind λy4=>(I0 x2 2 y4).bind λy6=>bif y6 then eB () else (Yb x0 x2 x3).bind λy9=>(getI x0.Sources a0.2).bind λy11=>(Ya x0 x2 x3).bind λy13=>bif (Aom x1 y9 y11 y13)then eC (a0.2,true) else eB ()
def Ye(x0:c_)(x1:eo)(x2:dZ)(x3:Int):Option (Int×Bool):=
 (Hz x0 x2 x3).bind λy1=>bif (Ada x1 y1)then some (0,false) else andThen (foldE (M6 x0 x1 x2 x3) (bw y1.1.Sources) ()) (λv196_0=>some (v196_0.1,v196_0.2)) λz0=>some (0,false)
def Yd(x0:c_)(x1:eo)(x2:dZ)(x3:Int):Option Bool:=
 (Ag [(F44 x1,true)] (Yj x0 x2 x3) default).bind λy1=>(Ag [(((F44 x1)&&y1),true)] (Ya x0 x2 x3) default).bind λy3=>(Ag [(((F44 x1)&&y1),true)] (Yb x0 x2 x3) default).bind λy5=>some (((F44 x1)&&y1)&&(decide ((w64 (100*y3))>(w64 (x1.Start*y5)))))
def Hg(x0:Int)(x1:Bool)(x2:Int):Int:=
 bif !x1 then (-1) else bif (x0==(-1))then x2 else x0
def Ut(x0:c_)(x1:dZ)(x2:Ae)(x3:Int):Option Bool:=
 (Yc x0 x3).bind λy1=>(getI x0.Breakers y1).bind λy3=>(I0 x1 1 x3).bind λy5=>(Ag [(y5,false)] (I0 x1 2 y1) default).bind λy7=>(Ag [((y5 || y7),false)] (I0 x1 3 y3.A) default).bind λy9=>(Ag [(!((y5 || y7) || y9),true)] (N9 x2.Buses y3.A) default).bind λy11=>(Ag [(((!((y5 || y7) || y9))&&y11),true)] (N9 x2.Sources x3) default).bind λy13=>(Ag [((((!((y5 || y7) || y9))&&y11)&&(!y13)),true)] (getI x1.Sources x3) default).bind λy15=>some ((((!((y5 || y7) || y9))&&y11)&&(!y13))&&(y15.State != 3))
def Qi(x0:c_)(x1:dZ)(y1:Ae×Bool)(a0:Int)(n1:Nat)(a1:ee)(z1:Unit):eu Unit (Int×Bool):=
 (Ag [((a1.State==a0),true)] (Ut x0 x1 y1.1 (cnt 0 n1)) default).bind λy4=>bif ((a1.State==a0)&&y4)then eC (cnt 0 n1,true) else eB ()
def uW(x0:c_)(x1:dZ)(y1:Ae×Bool)(n0:Nat)(a0:Int)(z0:Unit):eu Unit (Int×Bool):=
 andThen (foldI (Qi x0 x1 y1 a0) x1.Sources 0 ()) (λv=>eC v) λz1=>eB ()
def uX(x0:c_)(x1:dZ)(x2:Int):Option (Int×Bool):=
 (Hz x0 x1 x2).bind λy1=>bif !y1.2 then some (0,false) else andThen (foldI (uW x0 x1 y1) [2,1,0] 0 ()) some λz0=>some (0,false)
def U4(x0:c_)(x1:dZ)(x2:Int)(x3:Int):Option ((List a_)×Bool):=
 (getI x1.Sources x3).bind λy1=>bif (y1.State==0)then some ([⟨3,x3,0⟩],false) else bif (y1.State==2)then (R8 x0 x1 x2).bind λy5=>(X_ x0 x1 y5.1).bind λy7=>(Yc x0 x3).bind λy9=>some ([⟨6,x3,y7.1⟩,⟨1,y9,0⟩],true) else some ([],false)
def Rt(x1:eo)(x4:Int)(x5:d_):Bool:=(((((!(F44 x1)) || (decide (x4<0))) || (decide (x4>2147483648))) || (!(Qj x5.High x4))) || (!(Qj x5.Low x4)))
def Rs(x0:c_)(x3:Int):Bool:=((decide (x3<0)) || (decide (x3>=x0.Buses)))
def K3(x1:eo)(x4:Int)(x5:d_)(y8:Bool)(y10:Int×Bool):Bool:=((y10.2&&((Hg x5.High y8 x4) != (-1)))&&(decide ((w64 (x4-(Hg x5.High y8 x4)))>=x1.Delay)))
def zU(x4:Int)(x5:d_)(y8:Bool)(y13:(List a_)×Bool):eu Int Unit:=
 bif y13.2 then eB (-1) else eB (Hg x5.High y8 x4)
def K2(x1:eo)(x4:Int)(x5:d_)(y6:Int×Bool):Bool:=(((Hg x5.Low y6.2 x4) != (-1))&&(decide ((w64 (x4-(Hg x5.Low y6.2 x4)))>=x1.Delay)))
def L_(x0:c_)(x1:eo)(x2:dZ)(x3:Int)(x4:Int)(x5:d_):Option (d_×(List a_)×Int):=
 (F56 x0 x2).bind λy1=>bif (y1 != 0)then some (⟨0,0⟩,[],y1) else bif (Rt x1 x4 x5)then some (⟨0,0⟩,[],1) else bif (Rs x0 x3)then some (⟨0,0⟩,[],10) else (Ye x0 x1 x2 x3).bind λy6=>(Yd x0 x1 x2 x3).bind λy8=>(uX x0 x2 x3).bind λy10=>bif (K3 x1 x4 x5 y8 y10)then (U4 x0 x2 x3 y10.1).bind λy13=>andThen (zU x4 x5 y8 y13) (λ_=>none) λz0=>some (⟨z0,Hg x5.Low y6.2 x4⟩,y13.1,0) else bif (K2 x1 x4 x5 y6)then (Yc x0 y6.1).bind λy17=>some (⟨Hg x5.High y8 x4,(-1)⟩,[⟨2,y17,0⟩,⟨4,y6.1,0⟩],0) else some (⟨Hg x5.High y8 x4,Hg x5.Low y6.2 x4⟩,[],0)
def X4(a0:Ae)(y7:Bool):Bool:=(((a0.Sources.length:Int)==0) || (!y7))
def Vj(n1:Nat)(a1:a_)(z1:Sg8):eu (Sg8) Unit:=
 (R5 ⟨⟨z1.1,⟨z1.2.2.2.2.2.2.2.1,z1.2.2.2.2.2.2.2.2.1,z1.2.2.2.2.2.2.2.2.2.1,z1.2.2.2.2.2.2.2.2.2.2.1⟩,z1.2.2.2.2.2.2.2.2.2.2.2.1,z1.2.2.2.2.2.2.2.2.2.2.2.2.1⟩,⟨z1.2.1,z1.2.2.1,z1.2.2.2.1,z1.2.2.2.2.1,z1.2.2.2.2.2.1,z1.2.2.2.2.2.2.1⟩,z1.2.2.2.2.2.2.2.2.2.2.2.2.2.1,z1.2.2.2.2.2.2.2.2.2.2.2.2.2.2⟩ a1).bind λy18=>eB (y18.Aj.Time,y18.Af.Buses,y18.Af.Breakers,y18.Af.Sources,y18.Af.Consumers,y18.Af.Phase,y18.Af.Frequency,y18.Aj.Power.Closed,y18.Aj.Power.Sources,y18.Aj.Power.Limits,y18.Aj.Power.Broken,y18.Aj.Rosters,y18.Aj.Events,y18.events,y18.states)
def zV(x1:eo)(n0:Nat)(a0:Ae)(z0:Int×Int×(List dU)×(List eh)×(List dV)×Int×Int×(List d_)×fe×(List ee)×fb×(List dX)×(List d_)×(List dW)×(List dW)×(List dZ)):eu (Int×Int×(List dU)×(List eh)×(List dV)×Int×Int×(List d_)×fe×(List ee)×fb×(List dX)×(List d_)×(List dW)×(List dW)×(List dZ)) Unit:=
 (getI a0.Buses 0).bind λy5=>(Ag [(((a0.Sources.length:Int)==0),false)] (Yj ⟨z0.2.1,z0.2.2.1,z0.2.2.2.1,z0.2.2.2.2.1,z0.2.2.2.2.2.1,z0.2.2.2.2.2.2.1⟩ ⟨z0.2.2.2.2.2.2.2.2.1,z0.2.2.2.2.2.2.2.2.2.1,z0.2.2.2.2.2.2.2.2.2.2.1,z0.2.2.2.2.2.2.2.2.2.2.2.1⟩ y5) default).bind λy7=>bif (X4 a0 y7)then eB (z0.1,z0.2.1,z0.2.2.1,z0.2.2.2.1,z0.2.2.2.2.1,z0.2.2.2.2.2.1,z0.2.2.2.2.2.2.1,z0.2.2.2.2.2.2.2.1,z0.2.2.2.2.2.2.2.2.1,z0.2.2.2.2.2.2.2.2.2.1,z0.2.2.2.2.2.2.2.2.2.2.1,z0.2.2.2.2.2.2.2.2.2.2.2.1,z0.2.2.2.2.2.2.2.2.2.2.2.2.1,z0.2.2.2.2.2.2.2.2.2.2.2.2.2.1,z0.2.2.2.2.2.2.2.2.2.2.2.2.2.2.1,z0.2.2.2.2.2.2.2.2.2.2.2.2.2.2.2) else (getI z0.2.2.2.2.2.2.2.2.2.2.2.2.1 y5).bind λy10=>(L_ ⟨z0.2.1,z0.2.2.1,z0.2.2.2.1,z0.2.2.2.2.1,z0.2.2.2.2.2.1,z0.2.2.2.2.2.2.1⟩ x1 ⟨z0.2.2.2.2.2.2.2.2.1,z0.2.2.2.2.2.2.2.2.2.1,z0.2.2.2.2.2.2.2.2.2.2.1,z0.2.2.2.2.2.2.2.2.2.2.2.1⟩ y5 z0.1 y10).bind λy12=>(getI z0.2.2.2.2.2.2.2.1 y5).bind λy14=>(setI z0.2.2.2.2.2.2.2.1 y5 y12.1).bind λy16=>andThen (foldI Vj y12.2.1 0 (z0.1,z0.2.1,z0.2.2.1,z0.2.2.2.1,z0.2.2.2.2.1,z0.2.2.2.2.2.1,z0.2.2.2.2.2.2.1,z0.2.2.2.2.2.2.2.2.1,z0.2.2.2.2.2.2.2.2.2.1,z0.2.2.2.2.2.2.2.2.2.2.1,z0.2.2.2.2.2.2.2.2.2.2.2.1,z0.2.2.2.2.2.2.2.2.2.2.2.2.1,z0.2.2.2.2.2.2.2.2.2.2.2.2.2.1,z0.2.2.2.2.2.2.2.2.2.2.2.2.2.2.1,z0.2.2.2.2.2.2.2.2.2.2.2.2.2.2.2)) (λ_=>none) λz1=>eB (z1.1,z1.2.1,z1.2.2.1,z1.2.2.2.1,z1.2.2.2.2.1,z1.2.2.2.2.2.1,z1.2.2.2.2.2.2.1,y16,z1.2.2.2.2.2.2.2.1,z1.2.2.2.2.2.2.2.2.1,z1.2.2.2.2.2.2.2.2.2.1,z1.2.2.2.2.2.2.2.2.2.2.1,z1.2.2.2.2.2.2.2.2.2.2.2.1,z1.2.2.2.2.2.2.2.2.2.2.2.2.1,z1.2.2.2.2.2.2.2.2.2.2.2.2.2.1,z1.2.2.2.2.2.2.2.2.2.2.2.2.2.2)
def jL(x0:Ax)(x1:eo):Option Ax:=
 (F45 x0.Af.Buses).bind λy1=>(Ak5 x0.Af x0.Aj.Power).bind λy3=>andThen (foldI (zV x1) y3 0 (x0.Aj.Time,x0.Af.Buses,x0.Af.Breakers,x0.Af.Sources,x0.Af.Consumers,x0.Af.Phase,x0.Af.Frequency,y1,x0.Aj.Power.Closed,x0.Aj.Power.Sources,x0.Aj.Power.Limits,x0.Aj.Power.Broken,x0.Aj.Rosters,x0.Aj.Events,x0.events,x0.states)) (λ_=>none) λz0=>some ⟨⟨z0.1,⟨z0.2.2.2.2.2.2.2.2.1,z0.2.2.2.2.2.2.2.2.2.1,z0.2.2.2.2.2.2.2.2.2.2.1,z0.2.2.2.2.2.2.2.2.2.2.2.1⟩,z0.2.2.2.2.2.2.2.1,z0.2.2.2.2.2.2.2.2.2.2.2.2.2.1⟩,⟨z0.2.1,z0.2.2.1,z0.2.2.2.1,z0.2.2.2.2.1,z0.2.2.2.2.2.1,z0.2.2.2.2.2.2.1⟩,z0.2.2.2.2.2.2.2.2.2.2.2.2.2.2.1,z0.2.2.2.2.2.2.2.2.2.2.2.2.2.2.2⟩
def jO(x0:Ax)(x1:dZ):Option Ax:=
 (F88 x0.Aj.Power).bind λy3=>(appI 97 x0.states [y3]).bind λy5=>some ⟨x0.Aj,x0.Af,x0.events,y5⟩
def Ayu(n0:Nat)(a0:a_)(z0:Sg8):eu (Sg8) Unit:=
 (R5 ⟨⟨z0.1,⟨z0.2.2.2.2.2.2.2.1,z0.2.2.2.2.2.2.2.2.1,z0.2.2.2.2.2.2.2.2.2.1,z0.2.2.2.2.2.2.2.2.2.2.1⟩,z0.2.2.2.2.2.2.2.2.2.2.2.1,z0.2.2.2.2.2.2.2.2.2.2.2.2.1⟩,⟨z0.2.1,z0.2.2.1,z0.2.2.2.1,z0.2.2.2.2.1,z0.2.2.2.2.2.1,z0.2.2.2.2.2.2.1⟩,z0.2.2.2.2.2.2.2.2.2.2.2.2.2.1,z0.2.2.2.2.2.2.2.2.2.2.2.2.2.2⟩ a0).bind λy10=>eB (y10.Aj.Time,y10.Af.Buses,y10.Af.Breakers,y10.Af.Sources,y10.Af.Consumers,y10.Af.Phase,y10.Af.Frequency,y10.Aj.Power.Closed,y10.Aj.Power.Sources,y10.Aj.Power.Limits,y10.Aj.Power.Broken,y10.Aj.Rosters,y10.Aj.Events,y10.events,y10.states)
def F61(x0:c_)(x1:eo)(x2:dY)(x3:List a_):Option (Ax×Int):=
 (F17 x0 x1 x2).bind λy1=>bif (y1 != 0)then none else bif decide ((x3.length:Int)>200)then none else bif (x2.Time==2147483648)then none else (F63 x0 x2).bind λy6=>(jP y6 x2.Power).bind λy8=>andThen (foldI Ayu x3 0 (y8.Aj.Time,y8.Af.Buses,y8.Af.Breakers,y8.Af.Sources,y8.Af.Consumers,y8.Af.Phase,y8.Af.Frequency,y8.Aj.Power.Closed,y8.Aj.Power.Sources,y8.Aj.Power.Limits,y8.Aj.Power.Broken,y8.Aj.Rosters,y8.Aj.Events,y8.events,y8.states)) (λ_=>none) λz0=>(jL ⟨⟨z0.1,⟨z0.2.2.2.2.2.2.2.1,z0.2.2.2.2.2.2.2.2.1,z0.2.2.2.2.2.2.2.2.2.1,z0.2.2.2.2.2.2.2.2.2.2.1⟩,z0.2.2.2.2.2.2.2.2.2.2.2.1,z0.2.2.2.2.2.2.2.2.2.2.2.2.1⟩,⟨z0.2.1,z0.2.2.1,z0.2.2.2.1,z0.2.2.2.2.1,z0.2.2.2.2.2.1,z0.2.2.2.2.2.2.1⟩,z0.2.2.2.2.2.2.2.2.2.2.2.2.2.1,z0.2.2.2.2.2.2.2.2.2.2.2.2.2.2⟩ x1).bind λy12=>(Er x0 y12.Aj.Power y12.Aj.Time ⟨7,0,0⟩).bind λy14=>(jO ⟨⟨y12.Aj.Time,y14.1,y12.Aj.Rosters,y12.Aj.Events⟩,y12.Af,y12.events,y12.states⟩ y14.1).bind λy16=>(appI 41 y16.Aj.Events y16.events).bind λy18=>(cutI y18 (max 0 (w64 ((y18.length:Int)-200))) (y18.length:Int)).bind λy21=>(vN y21).bind λy22=>some (⟨⟨w64 (y16.Aj.Time+1),y16.Aj.Power,y16.Aj.Rosters,y22⟩,y16.Af,y16.events,y16.states⟩,0)
def R6(x0:c_)(x1:eo)(x2:dY)(x3:List a_):Option Int:=
 (F17 x0 x1 x2).bind λy1=>bif (y1 != 0)then some y1 else bif decide ((x3.length:Int)>200)then some 2 else bif (x2.Time==2147483648)then some 16 else none
def F21(x0:c_)(x1:eo)(x2:dY)(x3:List a_):Option (dY×(List dW)×Int):=
 bif (F61 x0 x1 x2 x3).isSome then (F61 x0 x1 x2 x3).bind λy2=>bif (y2.2 != 0)then some (⟨0,⟨[],[],[],[]⟩,[],[]⟩,[],y2.2) else some (y2.1.Aj,y2.1.events,0) else (R6 x0 x1 x2 x3).bind λy5=>bif (y5 != 0)then some (⟨0,⟨[],[],[],[]⟩,[],[]⟩,[],y5) else none
def B5(x0:Int)(x1:Int)(x2:Int):Bool:=
 ((decide (x0>=x1))&&(decide (x0<=x2)))
def R9(x0:Int):Bool:=
 ((decide (x0>=0))&&(decide (x0<3600)))
def Ala(x0:b_):Int:=
 D1 (w64 (x0.To-x0.From))
def N8(x0:b_):Bool:=
 (((R9 x0.From)&&(R9 x0.To))&&(decide ((Ala x0)<1800)))
def Afm(x0:b_):Bool:=
 !(N8 x0)
def Uu(n0:Nat)(a0:b_)(z0:Unit):eu Unit Int:=
 bif Afm a0 then eC (cnt 0 n0) else eB ()
def Z4(x0:List b_):Option Int:=
 andThen (foldI Uu x0 0 ()) some λz0=>some (-1)
def Ql(x0:List b_):Option Bool:=
 (Z4 x0).bind λy1=>some (decide (y1>=0))
def Vg(x0:eq):Option Bool:=
 (Ag [(((((((B5 x0.Kind 1 3)&&(B5 x0.Station 0 1))&&(B5 x0.Max 0 5000))&&(B5 x0.Rate 0 5000))&&(B5 x0.Cost 1 100))&&(decide ((x0.Forbidden.length:Int)<=4))),true)] (Ql x0.Forbidden) default).bind λy1=>some (((((((B5 x0.Kind 1 3)&&(B5 x0.Station 0 1))&&(B5 x0.Max 0 5000))&&(B5 x0.Rate 0 5000))&&(B5 x0.Cost 1 100))&&(decide ((x0.Forbidden.length:Int)<=4)))&&(!y1))
def Alo(x0:eq):Option Bool:=
 (Vg x0).bind λy1=>some (!y1)
def U7(n0:Nat)(a0:eq)(z0:Unit):eu Unit Int:=
 (Alo a0).bind λy1=>bif y1 then eC (cnt 0 n0) else eB ()
def Z_(x0:List eq):Option Int:=
 andThen (foldI U7 x0 0 ()) some λz0=>some (-1)
def Qm(x0:List eq):Option Bool:=
 (Z_ x0).bind λy1=>some (decide (y1>=0))
def Ro(x0:ef):Bool:=(((decide ((min x0.Bow x0.Stern)<0)) || (decide ((max x0.Bow x0.Stern)>200))) || ((x0.Bow==0)&&(x0.Stern==0)))
def F68(x0:ef):Option Int:=
 bif decide ((x0.Thrusters.length:Int)>8)then some 2 else bif (Ro x0)then some 1 else (Qm x0.Thrusters).bind λy3=>bif y3 then some 14 else some 0
def Ak4(x0:dV)(x1:Int):Bool:=
 (x0.Thruster==x1)
def X8(x1c0:Int)(n0:Nat)(a0:dV)(z0:Unit):eu Unit (Int×Int):=
 bif Ak4 a0 x1c0 then eC (cnt 0 n0,x1c0) else eB ()
def Aax(x0:List dV)(x1c0:Int):Option (Int×Int):=
 andThen (foldI (X8 x1c0) x0 0 ()) some λz0=>some ((-1),x1c0)
def Afv(rec71:c_->dZ->Int->Option Bool)(x0:Int)(x1:c_)(x2:dZ):Option Bool:=
 (rec71 x1 x2 x0).bind λy1=>some (!y1)
def U5(x1c0:c_)(x1c1:dZ)(rec71:c_->dZ->Int->Option Bool)(n0:Nat)(a0:Int)(z0:Unit):eu Unit (Int×c_×dZ):=
 (Afv rec71 a0 x1c0 x1c1).bind λy1=>bif y1 then eC (cnt 0 n0,x1c0,x1c1) else eB ()
def Afk(rec71:c_->dZ->Int->Option Bool)(x0:fb)(x1c0:c_)(x1c1:dZ):Option (Int×c_×dZ):=
 andThen (foldI (U5 x1c0 x1c1 rec71) x0 0 ()) some λz0=>some ((-1),x1c0,x1c1)
def jJ(rec71:c_->dZ->Int->Option Bool)(x0:fb)(x1c0:c_)(x1c1:dZ):Option (Bool×c_×dZ):=
 (Afk rec71 x0 x1c0 x1c1).bind λy1=>some (decide (y1.1>=0),y1.2.1,y1.2.2)
def V6(y1:Int×Bool)(y3:Bool)(y5:Bool)(y7:Int)(y9:dV):Bool:=((((!y1.2) || (!y3)) || y5) || (decide (y7<y9.Least)))
def Aek(rec71:c_->dZ->Int->Option Bool)(x0:c_)(x1:dZ)(x2:Int):Option Bool:=
 (vI x0 x1 x2).bind λy1=>(Ag [(!y1.2,false)] (Yj x0 x1 y1.1) default).bind λy3=>(Ag [(((!y1.2) || (!y3)),false)] (I0 x1 4 x2) default).bind λy5=>(Ag [((((!y1.2) || (!y3)) || y5),false)] (getI x1.Limits x2) default).bind λy7=>(Ag [((((!y1.2) || (!y3)) || y5),false)] (getI x0.Consumers x2) default).bind λy9=>bif (V6 y1 y3 y5 y7 y9)then some false else (getI x0.Consumers x2).bind λy12=>(jJ rec71 y12.Needs x0 x1).bind λy14=>some (!y14.1)
def Aej:Nat->c_->dZ->Int->Option Bool
 |0=>λ_ _ _=>none
 |n+1=>Aek (Aej n)
def F71(x0:c_)(x1:dZ)(x2:Int):Option Bool:=Aej 1000 x0 x1 x2
def Afj(x0:E6):Bool:=
 ((decide ((max x0.X x0.Y)<=5000))&&(decide ((min x0.X x0.Y)>=(-5000))))
def Ate(x0:Int)(x1:Int):Option Int:=
 (nzI x1).bind λu2=>(nzI x1).bind λu4=>bif decide ((Int.tmod x0 x1)<0)then some (w64 ((w64 (Int.tdiv x0 x1))-1)) else some (w64 (Int.tdiv x0 x1))
def Atf(x0:Int)(x1:Int):Option Int:=
 (Ate (w64 (0-x0)) x1).bind λy1=>some (w64 (0-y1))
def X0(x0:Int)(x1:Int):Bool:=((((decide (x0<(-1000000000000000000))) || (decide (x0>1000000000000000000))) || (decide (x1<1))) || (decide (x1>1000000000)))
def Afe(x0:Int)(x1:Int):Option (Int×Int):=
 bif (X0 x0 x1)then some (0,1) else (Atf x0 x1).bind λy2=>some (y2,0)
def Alc(x0:Int)(x1:Int):Option (Int×Int):=
 (Afe x0 x1).bind λy1=>some (y1.1,y1.2)
def Aln(x0:eq)(x1:E6):Option (Int×Int):=
 (Vg x0).bind λy1=>bif ((!y1) || (!(Afj x1)))then some (0,1) else (Alc (w64 ((w64 ((w64 (x1.X*x1.X))+(w64 (x1.Y*x1.Y))))*x0.Cost)) 1000).bind λy4=>some (y4.1,y4.2)
def Aos(x0:Int):Bool:=((decide (x0<0)) || (decide (x0>1000000000000000000)))
def Aor(x0:Int)(z0:Int×Int):Bool:=decide ((w64 ((w64 (Int.tdiv (w64 ((w64 (z0.1+z0.2))+1)) 2))*(w64 (Int.tdiv (w64 ((w64 (z0.1+z0.2))+1)) 2))))<=x0)
def Aih(x0:Int)(z0:Int×Int):eu (Int×Int) Unit:=
 bif decide (z0.1<z0.2)then bif (Aor x0 z0)then eB (w64 (Int.tdiv (w64 ((w64 (z0.1+z0.2))+1)) 2),z0.2) else eB (z0.1,w64 ((w64 (Int.tdiv (w64 ((w64 (z0.1+z0.2))+1)) 2))-1)) else eF (z0.1,z0.2)
def Alm(x0:Int):Option (Int×Int):=
 bif (Aos x0)then some (0,1) else andThen (whileN (Aih x0) 1152921504606846976 (0,1000000000)) (λ_=>none) λz0=>some (z0.1,0)
def F72(x0:eq)(x1:Int):Option Int:=
 (Aln x0 ⟨x0.Max,0⟩).bind λy1=>bif ((y1.2 != 0) || (decide (x1<0)))then some 0 else bif decide (x1>=y1.1)then some x0.Max else (nzI x0.Cost).bind λu6=>(Alm (w64 (Int.tdiv (w64 (1000*x1)) x0.Cost))).bind λy7=>some y7.1
def Apx(x1:c_)(x2:dZ)(n0:Nat)(a0:eq)(z0:fb):eu (fb) Unit:=
 (Aax x1.Consumers (cnt 0 n0)).bind λy9=>(Ag [(decide (y9.1>=0),true)] (F71 x1 x2 y9.1) default).bind λy11=>bif ((decide (y9.1>=0))&&y11)then (getI x2.Limits y9.1).bind λy14=>(F72 a0 y14).bind λy16=>(getI z0 y9.2).bind λy18=>(setI z0 y9.2 y16).bind λy20=>eB y20 else eB z0
def F29(x0:ef)(x1:c_)(x2:dZ):Option (fb×Int):=
 (F68 x0).bind λy1=>bif (y1 != 0)then some ([],y1) else (F56 x1 x2).bind λy4=>bif (y4 != 0)then some ([],y4) else (mkI 9 (x0.Thrusters.length:Int) 0).bind λy7=>andThen (foldI (Apx x1 x2) x0.Thrusters 0 y7) (λ_=>none) λz0=>some (z0,0)
def Ae0(x1:fe)(n0:Nat)(a0:Bool)(z0:Unit):eu Unit Bool:=
 (getI x1 (cnt 0 n0)).bind λy2=>bif !(a0==y2)then eC false else eB ()
def F33(x0:fe)(x1:fe):Option Bool:=
 bif ((x0.length:Int) != (x1.length:Int))then some false else andThen (foldI (Ae0 x1) x0 0 ()) some λz0=>some true
def Ae1(x1:fb)(n0:Nat)(a0:Int)(z0:Unit):eu Unit Bool:=
 (getI x1 (cnt 0 n0)).bind λy2=>bif (a0 != y2)then eC false else eB ()
def F31(x0:fb)(x1:fb):Option Bool:=
 bif ((x0.length:Int) != (x1.length:Int))then some false else andThen (foldI (Ae1 x1) x0 0 ()) some λz0=>some true
def F59(x0:Ae):Bool:=
 decide ((x0.Sources.length:Int)>0)
def Aqb(n0:Nat)(a0:Ae)(z0:Unit):eu Unit Int:=
 bif F59 a0 then eC (cnt 0 n0) else eB ()
def Afy(x0:List Ae):Option Int:=
 andThen (foldI Aqb x0 0 ()) some λz0=>some (-1)
def Aay(x0:List Ae):Option Bool:=
 (Afy x0).bind λy1=>some (decide (y1>=0))
def F19(x0:c_)(x1:dZ):Option Bool:=
 (F56 x0 x1).bind λy1=>(Ag [((y1==0),true)] (F58 x0 x1) default).bind λy3=>(Ag [((y1==0),true)] (Aay y3) default).bind λy5=>some ((y1==0)&&(!y5))
def F7:Option Bool:=
 (F14 F32.1 F32.2).bind λy1=>(F21 F32.1 F32.2 y1.1 [⟨3,0,0⟩,⟨3,1,0⟩,⟨1,0,0⟩,⟨1,1,0⟩,⟨1,2,0⟩]).bind λy3=>(F21 F32.1 F32.2 y3.1 [⟨8,1,1⟩]).bind λy5=>(F29 ⟨0,1,[⟨2,0,1000,0,1,[]⟩]⟩ F32.1 y5.1.Power).bind λy7=>(Ag [(((((((y1.2==0)&&(y3.2.2==0))&&(y5.2.2==0))&&(y7.2==0))&&(y5.1.Time==2))&&((y5.2.1.length:Int)==3)),true)] (F33 y5.1.Power.Closed [true,false,true]) default).bind λy9=>(Ag [((((((((y1.2==0)&&(y3.2.2==0))&&(y5.2.2==0))&&(y7.2==0))&&(y5.1.Time==2))&&((y5.2.1.length:Int)==3))&&y9),true)] (F31 y5.1.Power.Limits [50]) default).bind λy11=>(Ag [(((((((((y1.2==0)&&(y3.2.2==0))&&(y5.2.2==0))&&(y7.2==0))&&(y5.1.Time==2))&&((y5.2.1.length:Int)==3))&&y9)&&y11),true)] (F31 y7.1 [223]) default).bind λy13=>(Ag [((((((((((y1.2==0)&&(y3.2.2==0))&&(y5.2.2==0))&&(y7.2==0))&&(y5.1.Time==2))&&((y5.2.1.length:Int)==3))&&y9)&&y11)&&y13),true)] (F19 F32.1 y5.1.Power) default).bind λy15=>some ((((((((((y1.2==0)&&(y3.2.2==0))&&(y5.2.2==0))&&(y7.2==0))&&(y5.1.Time==2))&&((y5.2.1.length:Int)==3))&&y9)&&y11)&&y13)&&(!y15))
def F8(x0:fb):Option Ab:=
 (cutI x0 0 (min (x0.length:Int) 600)).bind λy2=>some ⟨y2,0⟩
def F77(x0:Int)(x1:Int):Option Int:=
 bif decide (x1<1)then some 0 else (nzI x1).bind λu3=>(nzI x1).bind λu5=>some (Int.tmod (w64 ((Int.tmod x0 x1)+x1)) x1)
def F38(x0:Ab)(x1:Int):Option (Int×Ab):=
 bif decide (x0.At>=(x0.L.length:Int))then some (0,x0) else (getI x0.L (w64 ((w64 (x0.At+1))-1))).bind λy2=>(F77 y2 x1).bind λy4=>some (y4,⟨x0.L,w64 (x0.At+1)⟩)
def F39(x0:Ab)(x1:Int)(x2:Int):Option (Int×Ab):=
 (F38 x0 (w64 ((w64 (x2-x1))+1))).bind λy1=>some (w64 (x1+y1.1),y1.2)
def F11(x0:Ab)(x1:fb):Option (Int×Ab):=
 (F38 x0 (x1.length:Int)).bind λy1=>(getI x1 y1.1).bind λy3=>some (y3,y1.2)
def Aez(y1:Int×Ab)(z0:Sg3):eu (Sg3) Unit:=
 bif decide (z0.1<y1.1)then (F38 ⟨z0.2.1,z0.2.2.1⟩ 6).bind λy8=>bif decide (y8.1<5)then (F38 y8.2 z0.1).bind λy11=>(appI 25 z0.2.2.2 [⟨1,y11.1,z0.1⟩]).bind λy13=>eB (w64 (z0.1+1),y11.2.L,y11.2.At,y13) else eB (w64 (z0.1+1),y8.2.L,y8.2.At,z0.2.2.2) else eF (z0.1,z0.2.1,z0.2.2.1,z0.2.2.2)
def Apu(y1:Int×Ab)(z0:Sg3)(y15:Int×Ab):eu ((List dU)) Unit:=
 bif ((decide (y1.1>2))&&(y15.1==1))then (appI 25 z0.2.2.2 [⟨1,0,w64 (y1.1-1)⟩]).bind λy18=>eB y18 else eB z0.2.2.2
def Aey(y1:Int×Ab)(z2:Int×fb×Int×(List dU)×(List eh)):eu (Int×fb×Int×(List dU)×(List eh)) Unit:=
 bif decide (z2.1>0)then (F38 ⟨z2.2.1,z2.2.2.1⟩ y1.1).bind λy23=>(appI 25 z2.2.2.2.1 [⟨2,y23.1,(z2.2.2.2.2.length:Int)⟩]).bind λy25=>(F11 y23.2 [10,50,100]).bind λy27=>(F11 y27.2 [0,5,y27.1]).bind λy29=>(F11 y29.2 [0,1,3]).bind λy31=>(appI 25 z2.2.2.2.2 [⟨y27.1,y29.1,y31.1⟩]).bind λy33=>eB (w64 (z2.1-1),y31.2.L,y31.2.At,y25,y33) else eF (z2.1,z2.2.1,z2.2.2.1,z2.2.2.2.1,z2.2.2.2.2)
def Apt(y1:Int×Ab)(z3:Sg4)(y38:Int×Ab)(y40:List dU)(y42:Int×Ab):eu ((List dU)) Unit:=
 bif ((decide (y1.1>1))&&(y42.1==3))then (nzI y1.1).bind λu46=>(appI 25 y40 [⟨3,Int.tmod (w64 (y38.1+1)) y1.1,(z3.2.2.2.2.length:Int)⟩]).bind λy47=>eB y47 else eB y40
def Aua(z3:Sg4)(y57:Int×Ab):Bool:=((decide ((z3.2.2.2.2.length:Int)>0))&&(y57.1==3))
def Aex(y1:Int×Ab)(z3:Sg4):eu (Sg4) Unit:=
 bif decide (z3.1>0)then (F38 ⟨z3.2.1,z3.2.2.1⟩ y1.1).bind λy38=>(appI 25 z3.2.2.2.1 [⟨3,y38.1,(z3.2.2.2.2.length:Int)⟩]).bind λy40=>(Ag [(decide (y1.1>1),true)] (F38 y38.2 4) (default,y38.2)).bind λy42=>andThen (Apt y1 z3 y38 y40 y42) (λ_=>none) λz4=>(F11 y42.2 [0,5,20,40]).bind λy49=>(F11 y49.2 [0,w64 (Int.tdiv y49.1 2),y49.1]).bind λy51=>(F38 y51.2 3).bind λy53=>(F39 y53.2 (-1) 2).bind λy55=>(Ag [(decide ((z3.2.2.2.2.length:Int)>0),true)] (F38 y55.2 4) (default,y55.2)).bind λy57=>bif (Aua z3 y57)then (F38 y57.2 (z3.2.2.2.2.length:Int)).bind λy60=>(appI 57 z3.2.2.2.2 [⟨y49.1,y51.1,y53.1,y55.1,[y60.1]⟩]).bind λy62=>eB (w64 (z3.1-1),y60.2.L,y60.2.At,z4,y62) else (appI 57 z3.2.2.2.2 [⟨y49.1,y51.1,y53.1,y55.1,[]⟩]).bind λy64=>eB (w64 (z3.1-1),y57.2.L,y57.2.At,z4,y64) else eF (z3.1,z3.2.1,z3.2.2.1,z3.2.2.2.1,z3.2.2.2.2)
def F34(x0:Ab):Option (c_×Ab):=
 (F39 x0 1 4).bind λy1=>(F11 y1.2 [0,50,200,1800]).bind λy3=>(F11 y3.2 [0,10,50]).bind λy5=>andThen (whileN (Aez y1) 1152921504606846976 (1,y5.2.L,y5.2.At,[])) (λ_=>none) λz0=>(Ag [(decide (y1.1>2),true)] (F38 ⟨z0.2.1,z0.2.2.1⟩ 2) (default,⟨z0.2.1,z0.2.2.1⟩)).bind λy15=>andThen (Apu y1 z0 y15) (λ_=>none) λz1=>(F38 y15.2 5).bind λy20=>andThen (whileN (Aey y1) 1152921504606846976 (y20.1,y20.2.L,y20.2.At,z1,[])) (λ_=>none) λz2=>(F38 ⟨z2.2.1,z2.2.2.1⟩ 6).bind λy35=>andThen (whileN (Aex y1) 1152921504606846976 (y35.1,y35.2.L,y35.2.At,z2.2.2.2.1,[])) (λ_=>none) λz3=>some (⟨y1.1,z3.2.2.2.1,z2.2.2.2.2,z3.2.2.2.2,y3.1,y5.1⟩,⟨z3.2.1,z3.2.2.1⟩)
def F35(x0:Ab):Option (eo×Ab):=
 (F11 x0 [60,80,100]).bind λy1=>(F11 y1.2 [1,30,50]).bind λy3=>(F11 y3.2 [0,1,3]).bind λy5=>some (⟨y1.1,y3.1,y5.1⟩,y5.2)
def F95(x0:Int)(x1:Int)(x2:Int):Bool:=
 ((decide (x0>=x1))&&(decide (x0<=x2)))
def F96(x0:c_)(x1:dX):Bool:=
 bif (x1.Kind==1)then F95 x1.Number 0 (w64 ((x0.Sources.length:Int)-1)) else bif (x1.Kind==2)then F95 x1.Number 0 (w64 ((x0.Breakers.length:Int)-1)) else bif (x1.Kind==3)then F95 x1.Number 0 (w64 (x0.Buses-1)) else bif (x1.Kind==4)then F95 x1.Number 0 (w64 ((x0.Consumers.length:Int)-1)) else false
def Adf(x1:c_)(z0:Int×fb×Int×fe):Bool:=decide (z0.1<(x1.Breakers.length:Int))
def Ve(x1:c_)(z0:Int×fb×Int×fe):eu (Int×fb×Int×fe) Unit:=
 bif (Adf x1 z0)then (F38 ⟨z0.2.1,z0.2.2.1⟩ 2).bind λy2=>(appI 2 z0.2.2.2 [(y2.1==1)]).bind λy4=>eB (w64 (z0.1+1),y2.2.L,y2.2.At,y4) else eF (z0.1,z0.2.1,z0.2.2.1,z0.2.2.2)
def Ade(x1:c_)(z1:Int×fe):Bool:=decide (z1.1<(x1.Consumers.length:Int))
def zE(z1:Int×fe)(a2:dU)(y7:Bool):Bool:=(((a2.Kind==3)&&(a2.B==z1.1))&&y7)
def Vb(z1:Int×fe)(n2:Nat)(a2:dU)(z2:Bool×fe):eu (Bool×fe) Unit:=
 (Ag [(((a2.Kind==3)&&(a2.B==z1.1)),true)] (getI z2.2 (cnt 0 n2)) default).bind λy7=>bif (zE z1 a2 y7)then (getI z2.2 (cnt 0 n2)).bind λy10=>(setI z2.2 (cnt 0 n2) z2.1).bind λy12=>eB (false,y12) else eB (z2.1,z2.2)
def Vd(x1:c_)(z1:Int×fe):eu (Int×fe) Unit:=
 bif (Ade x1 z1)then andThen (foldI (Vb z1) x1.Breakers 0 (true,z1.2)) (λ_=>none) λz2=>eB (w64 (z1.1+1),z2.2) else eF (z1.1,z1.2)
def zD(x1:c_)(z3:Sg5):Bool:=decide (z3.1<(x1.Sources.length:Int))
def Va(x1:c_)(z3:Sg5):eu (Sg5) Unit:=
 bif (zD x1 z3)then (F11 ⟨z3.2.1,z3.2.2.1⟩ [0,1,2,2,2,3]).bind λy15=>(F38 y15.2 5).bind λy17=>(F11 y17.2 [5000,5000,5005,4950]).bind λy19=>(F11 y19.2 [0,0,40,1800,3590]).bind λy21=>(appI 33 z3.2.2.2 [⟨y15.1,y17.1,y19.1,y21.1⟩]).bind λy23=>eB (w64 (z3.1+1),y21.2.L,y21.2.At,y23) else eF (z3.1,z3.2.1,z3.2.2.1,z3.2.2.2)
def U_(n4:Nat)(a4:dV)(z4:fb×Int×fb):eu (fb×Int×fb) Unit:=
 (F11 ⟨z4.1,z4.2.1⟩ [a4.Load,a4.Load,a4.Least,w64 (Int.tdiv a4.Load 3)]).bind λy25=>(appI 9 z4.2.2 [y25.1]).bind λy27=>eB (y25.2.L,y25.2.At,y27)
def U9(x1:c_)(z5:Int×fb×Int×(List dX)):eu (Int×fb×Int×(List dX)) Unit:=
 bif decide (z5.1<=4)then (F38 ⟨z5.2.1,z5.2.2.1⟩ 5).bind λy30=>bif (y30.1==4)then (F38 y30.2 4).bind λy33=>bif F96 x1 ⟨z5.1,y33.1⟩ then (appI 17 z5.2.2.2 [⟨z5.1,y33.1⟩]).bind λy36=>eB (w64 (z5.1+1),y33.2.L,y33.2.At,y36) else eB (w64 (z5.1+1),y33.2.L,y33.2.At,z5.2.2.2) else eB (w64 (z5.1+1),y30.2.L,y30.2.At,z5.2.2.2) else eF (z5.1,z5.2.1,z5.2.2.1,z5.2.2.2)
def Vf(x0:Ab)(x1:c_):Option (dZ×Ab):=
 andThen (whileN (Ve x1) 1152921504606846976 (0,x0.L,x0.At,[])) (λ_=>none) λz0=>andThen (whileN (Vd x1) 1152921504606846976 (0,z0.2.2.2)) (λ_=>none) λz1=>andThen (whileN (Va x1) 1152921504606846976 (0,z0.2.1,z0.2.2.1,[])) (λ_=>none) λz3=>andThen (foldI U_ x1.Consumers 0 (z3.2.1,z3.2.2.1,[])) (λ_=>none) λz4=>andThen (whileN (U9 x1) 7 (1,z4.1,z4.2.1,[])) (λ_=>none) λz5=>some (⟨z1.2,z3.2.2.2,z4.2.2,z5.2.2.2⟩,⟨z5.2.1,z5.2.2.1⟩)
def Gr(x1:Int)(x2:Int)(a0:dU):Bool:=((a0.Kind==x1)&&((a0.B==x2) || ((x1==1)&&(a0.A==x2))))
def Ad2(x1:Int)(x2:Int)(n0:Nat)(a0:dU)(z0:fb):eu (fb) Unit:=
 bif (Gr x1 x2 a0)then (appI 9 z0 [cnt 0 n0]).bind λy2=>eB y2 else eB z0
def F98(x0:c_)(x1:Int)(x2:Int):Option (fb):=
 andThen (foldI (Ad2 x1 x2) x0.Breakers 0 []) (λ_=>none) λz0=>some z0
def Ake(x0:c_)(a0:dU):Bool:=!(F95 a0.B (w64 (a0.A+1)) (w64 (x0.Buses-1)))
def Akd(x0:c_)(a0:dU):Bool:=!(F95 a0.B 0 (w64 ((x0.Sources.length:Int)-1)))
def Akc(x0:c_)(a0:dU):Bool:=!(F95 a0.B 0 (w64 ((x0.Consumers.length:Int)-1)))
def V4(a0:dU)(a1:dU):Bool:=((a1.Kind==a0.Kind)&&((a1.A==a0.A)&&((a1.B==a0.B)&&true)))
def Zw(a0:dU)(n1:Nat)(a1:dU)(z1:Unit):eu Unit Bool:=
 bif (V4 a0 a1)then eC false else eB ()
def Aed(x0:c_)(n0:Nat)(a0:dU)(z0:Unit):eu Unit Bool:=
 bif !(F95 a0.A 0 (w64 (x0.Buses-1)))then eC false else bif (a0.Kind==1)then bif (Ake x0 a0)then eC false else eB () else bif (a0.Kind==2)then bif (Akd x0 a0)then eC false else eB () else bif (a0.Kind==3)then bif (Akc x0 a0)then eC false else (cutI x0.Breakers 0 (cnt 0 n0)).bind λy9=>andThen (foldI (Zw a0) y9 0 ()) (λv=>eC v) λz1=>eB () else eC false
def Ac3(x0:c_)(z2:Int):Bool:=decide (z2<(x0.Sources.length:Int))
def Aec(x0:c_)(z2:Int):eu Int Bool:=
 bif (Ac3 x0 z2)then (F98 x0 2 z2).bind λy12=>bif ((y12.length:Int) != 1)then eC false else eB (w64 (z2+1)) else eF z2
def Ac2(x0:c_)(z3:Int):Bool:=decide (z3<(x0.Consumers.length:Int))
def Aeb(x0:c_)(z3:Int):eu Int Bool:=
 bif (Ac2 x0 z3)then (F98 x0 3 z3).bind λy16=>bif decide ((y16.length:Int)<1)then eC false else eB (w64 (z3+1)) else eF z3
def F85(x0:c_):Option Bool:=
 andThen (foldI (Aed x0) x0.Breakers 0 ()) some λz0=>andThen (whileN (Aec x0) 1152921504606846976 0) some λz2=>andThen (whileN (Aeb x0) 1152921504606846976 0) some λz3=>some true
def Akb(a0:eh):Bool:=(((!(F95 a0.Rating 1 50000)) || (!(F95 a0.Least 0 a0.Rating))) || (!(F95 a0.Start 0 600)))
def Aea(n0:Nat)(a0:eh)(z0:Unit):eu Unit Bool:=
 bif (Akb a0)then eC false else eB ()
def F86(x0:c_):Option Bool:=
 andThen (foldI Aea x0.Sources 0 ()) some λz0=>some true
def Aka(a0:dV):Bool:=(((((!(F95 a0.Load 0 50000)) || (!(F95 a0.Least 0 a0.Load))) || (!(F95 a0.Preference 0 15))) || (!(F95 a0.Thruster (-1) 7))) || (decide ((a0.Needs.length:Int)>4)))
def At3(n0:Nat)(n1:Nat)(a1:Int)(y2:Int):Bool:=((!(F95 a1 0 (w64 ((cnt 0 n0)-1)))) || ((decide ((cnt 0 n1)>0))&&(decide (y2>=a1))))
def Ad8(n0:Nat)(a0:dV)(n1:Nat)(a1:Int)(z1:Unit):eu Unit Bool:=
 (Ag [(!(F95 a1 0 (w64 ((cnt 0 n0)-1))),false),(decide ((cnt 0 n1)>0),true)] (getI a0.Needs (w64 ((cnt 0 n1)-1))) default).bind λy2=>bif (At3 n0 n1 a1 y2)then eC false else eB ()
def Ad9(n0:Nat)(a0:dV)(z0:Unit):eu Unit Bool:=
 bif (Aka a0)then eC false else andThen (foldI (Ad8 n0 a0) a0.Needs 0 ()) (λv=>eC v) λz1=>eB ()
def F87(x0:c_):Option Bool:=
 andThen (foldI Ad9 x0.Consumers 0 ()) some λz0=>some true
def Ox(x0:c_):Bool:=(((((decide (x0.Buses<1)) || (decide (x0.Buses>6))) || (decide ((x0.Breakers.length:Int)>24))) || (decide ((x0.Sources.length:Int)>8))) || (decide ((x0.Consumers.length:Int)>16)))
def Aap(x0:c_)(y2:Bool)(y4:Bool)(y6:Bool):Bool:=(((((((!y2) || (!y4)) || (!y6)) || (decide (x0.Phase<0))) || (decide (x0.Phase>1800))) || (decide (x0.Frequency<0))) || (decide (x0.Frequency>6000)))
def F47(x0:c_):Option Int:=
 bif (Ox x0)then some 2 else (F85 x0).bind λy2=>(Ag [(!y2,false)] (F86 x0) default).bind λy4=>(Ag [(((!y2) || (!y4)),false)] (F87 x0) default).bind λy6=>bif (Aap x0 y2 y4 y6)then some 14 else some 0
def F97(x0:dX)(x1:dX):Bool:=
 ((decide (x0.Kind<x1.Kind)) || ((x0.Kind==x1.Kind)&&(decide (x0.Number<x1.Number))))
def Mu(x0:c_)(x1:dZ):Bool:=((((x1.Closed.length:Int) != (x0.Breakers.length:Int)) || ((x1.Sources.length:Int) != (x0.Sources.length:Int))) || ((x1.Limits.length:Int) != (x0.Consumers.length:Int)))
def Akk(a0:ee):Bool:=((((!(F95 a0.State 0 3)) || (!(F95 a0.Since 0 2147483648))) || (!(F95 a0.Frequency 0 6000))) || (!(F95 a0.Phase 0 3599)))
def Aes(n0:Nat)(a0:ee)(z0:Unit):eu Unit Int:=
 bif (Akk a0)then eC 11 else eB ()
def Aer(x0:c_)(n1:Nat)(a1:Int)(z1:Unit):eu Unit Int:=
 (getI x0.Consumers (cnt 0 n1)).bind λy6=>bif !(F95 a1 0 y6.Load)then eC 11 else eB ()
def Akj(x0:c_)(n2:Nat)(a2:dX)(y10:dX):Bool:=((!(F96 x0 a2)) || ((decide ((cnt 0 n2)>0))&&(!(F97 y10 a2))))
def Z0(x0:c_)(x1:dZ)(n2:Nat)(a2:dX)(z2:Unit):eu Unit Int:=
 (Ag [(!(F96 x0 a2),false),(decide ((cnt 0 n2)>0),true)] (getI x1.Broken (w64 ((cnt 0 n2)-1))) default).bind λy10=>bif (Akj x0 n2 a2 y10)then eC 11 else eB ()
def Aki(x0:c_)(z3:Int):Bool:=decide (z3<(x0.Consumers.length:Int))
def Aep(x1:dZ)(n4:Nat)(a4:Int)(z4:Int):eu Int Unit:=
 (getI x1.Closed a4).bind λy16=>bif y16 then eB (w64 (z4+1)) else eB z4
def Aeq(x0:c_)(x1:dZ)(z3:Int):eu Int Int:=
 bif (Aki x0 z3)then (F98 x0 3 z3).bind λy14=>andThen (foldI (Aep x1) y14 0 0) (λ_=>none) λz4=>bif decide (z4>1)then eC 11 else eB (w64 (z3+1)) else eF z3
def F54(x0:c_)(x1:dZ):Option Int:=
 (F47 x0).bind λy1=>bif (y1 != 0)then some y1 else bif (Mu x0 x1)then some 8 else andThen (foldI Aes x1.Sources 0 ()) some λz0=>andThen (foldI (Aer x0) x1.Limits 0 ()) some λz1=>bif decide ((x1.Broken.length:Int)>32)then some 11 else andThen (foldI (Z0 x0 x1) x1.Broken 0 ()) some λz2=>andThen (whileN (Aeq x0 x1) 1152921504606846976 0) some λz3=>some 0
def F37(x0:dZ):Option dZ:=
 (appI 2 [] x0.Closed).bind λy1=>(appI 33 [] x0.Sources).bind λy3=>(appI 9 [] x0.Limits).bind λy5=>(appI 17 [] x0.Broken).bind λy7=>some ⟨y1,y3,y5,y7⟩
def Ua(a1:dU)(y7:Bool)(y9:Bool)(y11:Bool):Bool:=(((a1.Kind==1)&&y7)&&(y9 || y11))
def Aie(x1:dZ)(n1:Nat)(a1:dU)(z1:fe):eu (fe) Unit:=
 (Ag [((a1.Kind==1),true)] (getI x1.Closed (cnt 0 n1)) default).bind λy7=>(Ag [(((a1.Kind==1)&&y7),true)] (getI z1 a1.A) default).bind λy9=>(Ag [(((a1.Kind==1)&&y7),true),(y9,false)] (getI z1 a1.B) default).bind λy11=>bif (Ua a1 y7 y9 y11)then (getI z1 a1.A).bind λy14=>(setI z1 a1.A true).bind λy16=>(getI y16 a1.B).bind λy18=>(setI y16 a1.B true).bind λy20=>eB y20 else eB z1
def Aif(x0:c_)(x1:dZ)(n0:Nat)(a0:Bool)(z0:fe):eu (fe) Unit:=
 andThen (foldI (Aie x1) x0.Breakers 0 z0) (λ_=>none) λz1=>eB z1
def Aid(n2:Nat)(a2:Bool)(z2:fb):eu (fb) Unit:=
 bif a2 then (appI 9 z2 [cnt 0 n2]).bind λy23=>eB y23 else eB z2
def Alh(x0:c_)(x1:dZ)(x2:Int):Option (fb):=
 (mkI 2 x0.Buses false).bind λy1=>(getI y1 x2).bind λy3=>(setI y1 x2 true).bind λy5=>andThen (foldI (Aif x0 x1) y5 0 y5) (λ_=>none) λz0=>andThen (foldI Aid z0 0 []) (λ_=>none) λz2=>some z2
def Zo(x0:c_)(x2:Int)(y1:Int)(y3:ee):Bool:=((((y1 != 0) || (decide (x2<0))) || (decide (x2>=(x0.Sources.length:Int)))) || (y3.State != 2))
def R_(x0:c_)(x1:dZ)(x2:Int):Option (Int×Bool):=
 (F54 x0 x1).bind λy1=>(Ag [((((y1 != 0) || (decide (x2<0))) || (decide (x2>=(x0.Sources.length:Int)))),false)] (getI x1.Sources x2) default).bind λy3=>bif (Zo x0 x2 y1 y3)then some (0,false) else (F98 x0 2 x2).bind λy6=>(getI y6 0).bind λy8=>(getI x1.Closed y8).bind λy10=>bif !y10 then some (0,false) else (getI x0.Breakers y8).bind λy13=>some (y13.A,true)
def vC(x1:Int)(n0:Nat)(a0:Int)(z0:Unit):eu Unit Bool:=
 bif (a0==x1)then eC true else eB ()
def K6(x0:fb)(x1:Int):Option Bool:=
 andThen (foldI (vC x1) x0 0 ()) some λz0=>some false
def Aoq(x0:c_)(x2:Int)(y1:Int):Bool:=(((y1 != 0) || (decide (x2<0))) || (decide (x2>=(x0.Consumers.length:Int))))
def vF(x0:c_)(x1:dZ)(n0:Nat)(a0:Int)(z0:Unit):eu Unit (Int×Bool):=
 (getI x1.Closed a0).bind λy6=>bif y6 then (getI x0.Breakers a0).bind λy9=>eC (y9.A,true) else eB ()
def vG(x0:c_)(x1:dZ)(x2:Int):Option (Int×Bool):=
 (F54 x0 x1).bind λy1=>bif (Aoq x0 x2 y1)then some (0,false) else (F98 x0 3 x2).bind λy4=>andThen (foldI (vF x0 x1) y4 0 ()) some λz0=>some (0,false)
def Zp(x0:c_)(x2:Int)(y1:Int):Bool:=(((y1 != 0) || (decide (x2<0))) || (decide (x2>=x0.Buses)))
def Aox(x0:c_)(z0:Int×fb):Bool:=decide (z0.1<(x0.Sources.length:Int))
def Aip(x0:c_)(x1:dZ)(y4:fb)(z0:Int×fb):eu (Int×fb) Unit:=
 bif (Aox x0 z0)then (R_ x0 x1 z0.1).bind λy7=>(Ag [(y7.2,true)] (K6 y4 y7.1) default).bind λy9=>bif (y7.2&&y9)then (appI 9 z0.2 [z0.1]).bind λy12=>eB (w64 (z0.1+1),y12) else eB (w64 (z0.1+1),z0.2) else eF (z0.1,z0.2)
def Aow(x0:c_)(z1:Int×fb):Bool:=decide (z1.1<(x0.Consumers.length:Int))
def Aio(x0:c_)(x1:dZ)(y4:fb)(z1:Int×fb):eu (Int×fb) Unit:=
 bif (Aow x0 z1)then (vG x0 x1 z1.1).bind λy15=>(Ag [(y15.2,true)] (K6 y4 y15.1) default).bind λy17=>bif (y15.2&&y17)then (appI 9 z1.2 [z1.1]).bind λy20=>eB (w64 (z1.1+1),y20) else eB (w64 (z1.1+1),z1.2) else eF (z1.1,z1.2)
def Ii(x0:c_)(x1:dZ)(x2:Int):Option (Ae×Bool):=
 (F54 x0 x1).bind λy1=>bif (Zp x0 x2 y1)then some (⟨[],[],[]⟩,false) else (Alh x0 x1 x2).bind λy4=>andThen (whileN (Aip x0 x1 y4) 1152921504606846976 (0,[])) (λ_=>none) λz0=>andThen (whileN (Aio x0 x1 y4) 1152921504606846976 (0,[])) (λ_=>none) λz1=>some (⟨y4,z0.2,z1.2⟩,true)
def Ain(x0:c_)(x1:dZ)(z0:Int×(List Ae)):eu (Int×(List Ae)) Unit:=
 bif decide (z0.1<x0.Buses)then (Ii x0 x1 z0.1).bind λy5=>(getI y5.1.Buses 0).bind λy7=>bif (y7==z0.1)then (appI 73 z0.2 [y5.1]).bind λy10=>eB (w64 (z0.1+1),y10) else eB (w64 (z0.1+1),z0.2) else eF (z0.1,z0.2)
def Vi(x0:c_)(x1:dZ):Option ((List Ae)):=
 (F54 x0 x1).bind λy1=>bif (y1 != 0)then some [] else andThen (whileN (Ain x0 x1) 1152921504606846976 (0,[])) (λ_=>none) λz0=>some z0.2
def Apg(x1:dZ)(a0:Ae)(n1:Nat)(a1:Int)(z1:(List ee)):eu ((List ee)) Unit:=
 (getI a0.Sources 0).bind λy5=>(getI x1.Sources y5).bind λy7=>(getI a0.Sources 0).bind λy9=>(getI x1.Sources y9).bind λy11=>(getI z1 a1).bind λy13=>(setI z1 a1 ⟨y13.State,y13.Since,y7.Frequency,y13.Phase⟩).bind λy15=>(getI y15 a1).bind λy17=>(setI y15 a1 ⟨y17.State,y17.Since,y17.Frequency,y11.Phase⟩).bind λy19=>eB y19
def Aph(x1:dZ)(n0:Nat)(a0:Ae)(z0:(List ee)):eu ((List ee)) Unit:=
 andThen (foldI (Apg x1 a0) a0.Sources 0 z0) (λ_=>none) λz1=>eB z1
def F99(x0:c_)(x1:dZ):Option dZ:=
 (F37 x1).bind λy1=>(Vi x0 x1).bind λy3=>andThen (foldI (Aph x1) y3 0 y1.Sources) (λ_=>none) λz0=>some ⟨y1.Closed,z0,y1.Limits,y1.Broken⟩
def F55(x0:c_)(x1:dZ):Option (dZ×Int):=
 (F54 x0 x1).bind λy1=>bif (y1 != 0)then some (⟨[],[],[],[]⟩,y1) else (F99 x0 x1).bind λy4=>some (y4,0)
def Aaw(x0:Ab)(x1:c_):Option (dZ×Ab):=
 (Vf x0 x1).bind λy1=>(F55 x1 y1.1).bind λy3=>some (y3.1,y1.2)
def Aew(x1:c_)(z0:Int×fb×Int×(List d_)):eu (Int×fb×Int×(List d_)) Unit:=
 bif decide (z0.1<x1.Buses)then (F39 ⟨z0.2.1,z0.2.2.1⟩ (-1) 4).bind λy6=>(F39 y6.2 (-1) 4).bind λy8=>(appI 17 z0.2.2.2 [⟨y6.1,y8.1⟩]).bind λy10=>eB (w64 (z0.1+1),y8.2.L,y8.2.At,y10) else eF (z0.1,z0.2.1,z0.2.2.1,z0.2.2.2)
def Aa0(x0:Ab)(x1:c_):Option (dY×Ab):=
 (F39 x0 5 20).bind λy1=>(Aaw y1.2 x1).bind λy3=>andThen (whileN (Aew x1) 1152921504606846976 (0,y3.2.L,y3.2.At,[])) (λ_=>none) λz0=>some (⟨y1.1,y3.1,z0.2.2.2,[]⟩,⟨z0.2.1,z0.2.2.1⟩)
def F9(x0:Ab):Option (Sg9):=
 (F34 x0).bind λy1=>(F35 y1.2).bind λy3=>(Aa0 y3.2 y1.1).bind λy5=>some (y1.1,y3.1,y5.1,y5.2)
def F40(x0:Ab):Option (Int×Ab):=
 (F11 x0 [(-1),0,1,4611686018427387904,(-4611686018427387904),9223372036854775807,(-9223372036854775808),1000000000,1000000001,(-1000000001),3600,1800,100000000,100000001,5001]).bind λy1=>some (y1.1,y1.2)
def Ahz(y1:dZ)(z0:Int×fe):Bool:=decide (z0.1<(y1.Closed.length:Int))
def Afw(y1:dZ)(z0:Int×fe):eu (Int×fe) Unit:=
 bif (Ahz y1 z0)then (getI z0.2 z0.1).bind λy46=>(setI z0.2 z0.1 true).bind λy48=>eB (w64 (z0.1+1),y48) else eF (z0.1,z0.2)
def Aa3(x0:Ab)(x1:dZ):Option (dZ×Ab):=
 (F37 x1).bind λy1=>(F38 x0 6).bind λy3=>bif (y3.1==0)then (appI 2 y1.Closed [true]).bind λy6=>some (⟨y6,y1.Sources,y1.Limits,y1.Broken⟩,y3.2) else bif (y3.1==1)then bif decide ((y1.Sources.length:Int)>0)then (F38 y3.2 (y1.Sources.length:Int)).bind λy10=>(F39 y10.2 (-1) 5).bind λy12=>(getI y1.Sources y10.1).bind λy14=>(setI y1.Sources y10.1 ⟨y12.1,y14.Since,y14.Frequency,y14.Phase⟩).bind λy16=>some (⟨y1.Closed,y16,y1.Limits,y1.Broken⟩,y12.2) else some (y1,y3.2) else bif (y3.1==2)then bif decide ((y1.Sources.length:Int)>0)then (F38 y3.2 (y1.Sources.length:Int)).bind λy20=>(F40 y20.2).bind λy22=>(getI y1.Sources y20.1).bind λy24=>(setI y1.Sources y20.1 ⟨y24.State,y24.Since,y24.Frequency,y22.1⟩).bind λy26=>some (⟨y1.Closed,y26,y1.Limits,y1.Broken⟩,y22.2) else some (y1,y3.2) else bif (y3.1==3)then bif decide ((y1.Limits.length:Int)>0)then (F38 y3.2 (y1.Limits.length:Int)).bind λy30=>(F40 y30.2).bind λy32=>(getI y1.Limits y30.1).bind λy34=>(setI y1.Limits y30.1 y32.1).bind λy36=>some (⟨y1.Closed,y1.Sources,y36,y1.Broken⟩,y32.2) else some (y1,y3.2) else bif (y3.1==4)then (F39 y3.2 0 5).bind λy39=>(F39 y39.2 (-1) 5).bind λy41=>(appI 17 y1.Broken [⟨y39.1,y41.1⟩]).bind λy43=>some (⟨y1.Closed,y1.Sources,y1.Limits,y43⟩,y41.2) else andThen (whileN (Afw y1) 1152921504606846976 (0,y1.Closed)) (λ_=>none) λz0=>some (⟨z0.2,y1.Sources,y1.Limits,y1.Broken⟩,y3.2)
def F78(x0:Ab):Option (b_×Ab):=
 (F11 x0 [0,450,800,1350,1800,2600,3500]).bind λy1=>(F11 y1.2 [0,100,300,900,1799]).bind λy3=>some (⟨y1.1,Int.tmod (w64 (y1.1+y3.1)) 3600⟩,y3.2)
def Aps(z0:Int×fb×Int×(List b_)):eu (Int×fb×Int×(List b_)) Unit:=
 bif decide (z0.1>0)then (F78 ⟨z0.2.1,z0.2.2.1⟩).bind λy14=>(appI 17 z0.2.2.2 [y14.1]).bind λy16=>eB (w64 (z0.1-1),y14.2.L,y14.2.At,y16) else eF (z0.1,z0.2.1,z0.2.2.1,z0.2.2.2)
def F41(x0:Ab):Option (eq×Ab):=
 (F39 x0 1 3).bind λy1=>(F38 y1.2 2).bind λy3=>(F11 y3.2 [0,1,7,20,40]).bind λy5=>(F11 y5.2 [0,1,5,50]).bind λy7=>(F11 y7.2 [1,2,3,100]).bind λy9=>(F38 y9.2 3).bind λy11=>andThen (whileN Aps 1152921504606846976 (y11.1,y11.2.L,y11.2.At,[])) (λ_=>none) λz0=>some (⟨y1.1,y3.1,y5.1,y7.1,y9.1,z0.2.2.2⟩,⟨z0.2.1,z0.2.2.1⟩)
def Aqa(z0:Int×fb×Int×(List eq)):eu (Int×fb×Int×(List eq)) Unit:=
 bif decide (z0.1>0)then (F41 ⟨z0.2.1,z0.2.2.1⟩).bind λy10=>(appI 65 z0.2.2.2 [y10.1]).bind λy12=>eB (w64 (z0.1-1),y10.2.L,y10.2.At,y12) else eF (z0.1,z0.2.1,z0.2.2.1,z0.2.2.2)
def F12(x0:Ab)(x1:Int):Option (ef×Ab):=
 (F11 x0 [0,1,30,60]).bind λy1=>(F11 y1.2 [1,25,40]).bind λy3=>(F38 y3.2 (w64 (x1+1))).bind λy5=>andThen (whileN Aqa 1152921504606846976 (y5.1,y5.2.L,y5.2.At,[])) (λ_=>none) λz0=>some (⟨y1.1,y3.1,z0.2.2.2⟩,⟨z0.2.1,z0.2.2.1⟩)
def Aev(y1:Int×Ab):eu Bool Unit:=
 bif (y1.1==1)then eB (y1.1==1) else eB (y1.1==2)
def Aeu(y1:Int×Ab):eu Bool Unit:=
 bif (y1.1==3)then eB (y1.1==3) else eB (y1.1==4)
def Aaz(x0:Ab)(x1:c_):Option (a_×Ab):=
 (F39 x0 1 9).bind λy1=>andThen (Aev y1) (λ_=>none) λz0=>bif z0 then (F38 y1.2 (w64 ((x1.Breakers.length:Int)+1))).bind λy5=>some (⟨y1.1,y5.1,0⟩,y5.2) else andThen (Aeu y1) (λ_=>none) λz1=>bif z1 then (F38 y1.2 (w64 ((x1.Sources.length:Int)+1))).bind λy9=>some (⟨y1.1,y9.1,0⟩,y9.2) else bif (y1.1==5)then (F38 y1.2 (w64 ((x1.Consumers.length:Int)+1))).bind λy12=>(F11 y12.2 [0,5,20,41]).bind λy14=>some (⟨y1.1,y12.1,y14.1⟩,y14.2) else bif (y1.1==6)then (F38 y1.2 (w64 ((x1.Sources.length:Int)+1))).bind λy17=>(F38 y17.2 (w64 (x1.Buses+1))).bind λy19=>some (⟨y1.1,y17.1,y19.1⟩,y19.2) else bif (y1.1==8)then (F39 y1.2 1 4).bind λy22=>(F38 y22.2 4).bind λy24=>some (⟨y1.1,y24.1,y22.1⟩,y24.2) else bif (y1.1==9)then (F39 y1.2 1 4).bind λy27=>(F38 y27.2 4).bind λy29=>some (⟨y1.1,y29.1,y27.1⟩,y29.2) else some (⟨y1.1,0,0⟩,y1.2)
def Afu(x1:c_)(z0:Int×fb×Int×(List a_)):eu (Int×fb×Int×(List a_)) Unit:=
 bif decide (z0.1>0)then (Aaz ⟨z0.2.1,z0.2.2.1⟩ x1).bind λy4=>(appI 25 z0.2.2.2 [y4.1]).bind λy6=>eB (w64 (z0.1-1),y4.2.L,y4.2.At,y6) else eF (z0.1,z0.2.1,z0.2.2.1,z0.2.2.2)
def Aa2(x0:Ab)(x1:c_)(x2:Int):Option ((List a_)×Ab):=
 (F38 x0 (w64 (x2+1))).bind λy1=>andThen (whileN (Afu x1) 1152921504606846976 (y1.1,y1.2.L,y1.2.At,[])) (λ_=>none) λz0=>some (z0.2.2.2,⟨z0.2.1,z0.2.2.1⟩)
def F48(x0:eo):Bool:=
 ((((((decide (x0.Stop>=1))&&(decide (x0.Stop<=99)))&&(decide (x0.Start>x0.Stop)))&&(decide (x0.Start<=100)))&&(decide (x0.Delay>=0)))&&(decide (x0.Delay<=600)))
def Aug(x0:c_)(z0:Int×(List ee)):Bool:=decide (z0.1<(x0.Sources.length:Int))
def Ap7(x0:c_)(z0:Int×(List ee)):eu (Int×(List ee)) Unit:=
 bif (Aug x0 z0)then (appI 33 z0.2 [⟨0,0,5000,0⟩]).bind λy8=>eB (w64 (z0.1+1),y8) else eF (z0.1,z0.2)
def Ap6(n1:Nat)(a1:dV)(z1:fb):eu (fb) Unit:=
 (appI 9 z1 [a1.Load]).bind λy10=>eB y10
def Ap5(x0:c_)(z2:Int×(List d_)):eu (Int×(List d_)) Unit:=
 bif decide (z2.1<x0.Buses)then (appI 17 z2.2 [⟨(-1),(-1)⟩]).bind λy13=>eB (w64 (z2.1+1),y13) else eF (z2.1,z2.2)
def F15(x0:c_)(x1:eo):Option (dY×Int):=
 (F47 x0).bind λy1=>bif (y1 != 0)then some (⟨0,⟨[],[],[],[]⟩,[],[]⟩,y1) else bif !(F48 x1)then some (⟨0,⟨[],[],[],[]⟩,[],[]⟩,1) else (mkI 2 (x0.Breakers.length:Int) false).bind λy5=>andThen (whileN (Ap7 x0) 1152921504606846976 (0,[])) (λ_=>none) λz0=>andThen (foldI Ap6 x0.Consumers 0 []) (λ_=>none) λz1=>andThen (whileN (Ap5 x0) 1152921504606846976 (0,[])) (λ_=>none) λz2=>some (⟨0,⟨y5,z0.2,z1,[]⟩,z2.2,[]⟩,0)
def Ako(x0:dZ)(x1:dZ)(y1:Bool)(y3:Bool):Bool:=((((!y1) || (!y3)) || ((x0.Sources.length:Int) != (x1.Sources.length:Int))) || ((x0.Broken.length:Int) != (x1.Broken.length:Int)))
def Akn(x0:dZ)(z0:Int):Bool:=decide (z0<(x0.Sources.length:Int))
def Akm(y7:ee)(y9:ee):Bool:=!((y7.State==y9.State)&&((y7.Since==y9.Since)&&((y7.Frequency==y9.Frequency)&&((y7.Phase==y9.Phase)&&true))))
def Ae4(x0:dZ)(x1:dZ)(z0:Int):eu Int Bool:=
 bif (Akn x0 z0)then (getI x0.Sources z0).bind λy7=>(getI x1.Sources z0).bind λy9=>bif (Akm y7 y9)then eC false else eB (w64 (z0+1)) else eF z0
def Akl(x0:dZ)(z1:Int):Bool:=decide (z1<(x0.Broken.length:Int))
def Ac6(y13:dX)(y15:dX):Bool:=!((y13.Kind==y15.Kind)&&((y13.Number==y15.Number)&&true))
def Ae3(x0:dZ)(x1:dZ)(z1:Int):eu Int Bool:=
 bif (Akl x0 z1)then (getI x0.Broken z1).bind λy13=>(getI x1.Broken z1).bind λy15=>bif (Ac6 y13 y15)then eC false else eB (w64 (z1+1)) else eF z1
def F26(x0:dZ)(x1:dZ):Option Bool:=
 (F33 x0.Closed x1.Closed).bind λy1=>(Ag [(!y1,false)] (F31 x0.Limits x1.Limits) default).bind λy3=>bif (Ako x0 x1 y1 y3)then some false else andThen (whileN (Ae4 x0 x1) 1152921504606846976 0) some λz0=>andThen (whileN (Ae3 x0 x1) 1152921504606846976 0) some λz1=>some true
def Aub(a0:dW)(y2:dW):Bool:=!((a0.Time==y2.Time)&&(((a0.Act.Kind==y2.Act.Kind)&&((a0.Act.Unit==y2.Act.Unit)&&((a0.Act.Value==y2.Act.Value)&&true)))&&((a0.Err==y2.Err)&&true)))
def Ap0(x1:List dW)(n0:Nat)(a0:dW)(z0:Unit):eu Unit Bool:=
 (getI x1 (cnt 0 n0)).bind λy2=>bif (Aub a0 y2)then eC false else eB ()
def F25(x0:List dW)(x1:List dW):Option Bool:=
 bif ((x0.length:Int) != (x1.length:Int))then some false else andThen (foldI (Ap0 x1) x0 0 ()) some λz0=>some true
def Auf(x0:dY)(x1:dY)(y1:Bool)(y3:Bool):Bool:=((((x0.Time != x1.Time) || (!y1)) || ((x0.Rosters.length:Int) != (x1.Rosters.length:Int))) || (!y3))
def Aue(x0:dY)(z0:Int):Bool:=decide (z0<(x0.Rosters.length:Int))
def Aud(y7:d_)(y9:d_):Bool:=!((y7.High==y9.High)&&((y7.Low==y9.Low)&&true))
def Ap4(x0:dY)(x1:dY)(z0:Int):eu Int Bool:=
 bif (Aue x0 z0)then (getI x0.Rosters z0).bind λy7=>(getI x1.Rosters z0).bind λy9=>bif (Aud y7 y9)then eC false else eB (w64 (z0+1)) else eF z0
def F16(x0:dY)(x1:dY):Option Bool:=
 (Ag [((x0.Time != x1.Time),false)] (F26 x0.Power x1.Power) default).bind λy1=>(Ag [((((x0.Time != x1.Time) || (!y1)) || ((x0.Rosters.length:Int) != (x1.Rosters.length:Int))),false)] (F25 x0.Events x1.Events) default).bind λy3=>bif (Auf x0 x1 y1 y3)then some false else andThen (whileN (Ap4 x0 x1) 1152921504606846976 0) some λz0=>some true
def V7(x1:eo)(x2:dY):Bool:=(((!(F48 x1)) || (decide (x2.Time<0))) || (decide (x2.Time>2147483648)))
def Akp(x2:dY)(a0:d_):Bool:=((((decide (a0.High<(-1))) || (decide (a0.High>x2.Time))) || (decide (a0.Low<(-1)))) || (decide (a0.Low>x2.Time)))
def Afi(x2:dY)(n0:Nat)(a0:d_)(z0:Unit):eu Unit Int:=
 bif (Akp x2 a0)then eC 11 else eB ()
def F18(x0:c_)(x1:eo)(x2:dY):Option Int:=
 (F54 x0 x2.Power).bind λy1=>bif (y1 != 0)then some y1 else bif (V7 x1 x2)then some 1 else bif ((x2.Rosters.length:Int) != x0.Buses)then some 8 else andThen (foldI (Afi x2) x2.Rosters 0 ()) some λz0=>(F55 x0 x2.Power).bind λy7=>(F26 y7.1 x2.Power).bind λy9=>bif !y9 then some 11 else some 0
def F60(x0:c_)(x1:dZ)(x2:Int):Option Bool:=
 (Ii x0 x1 x2).bind λy1=>some (y1.2&&(decide ((y1.1.Sources.length:Int)>0)))
def Aar(x0:c_)(z0:Int):Bool:=((decide (z0<x0.Buses))&&(decide (z0<6)))
def Aff(x0:c_)(x1:dZ)(z0:Int):eu Int Bool:=
 bif (Aar x0 z0)then (F60 x0 x1 z0).bind λy2=>bif y2 then eC false else eB (w64 (z0+1)) else eF z0
def F20(x0:c_)(x1:dZ):Option Bool:=
 andThen (whileN (Aff x0 x1) 9 0) some λz0=>(F54 x0 x1).bind λy5=>some (y5==0)
def Aou(x1:Int)(x2:Int)(a0:dX):Bool:=((a0.Kind==x1)&&(a0.Number==x2))
def vK(x1:Int)(x2:Int)(n0:Nat)(a0:dX)(z0:Unit):eu Unit Bool:=
 bif (Aou x1 x2 a0)then eC true else eB ()
def Ep(x0:dZ)(x1:Int)(x2:Int):Option Bool:=
 andThen (foldI (vK x1 x2) x0.Broken 0 ()) some λz0=>some false
def Aon(y1:Ae×Bool):Bool:=((!y1.2) || ((y1.1.Sources.length:Int)==0))
def Yh(x0:c_)(x1:dZ)(x2:Int):Option (Int×Bool):=
 (Ii x0 x1 x2).bind λy1=>bif (Aon y1)then some (0,false) else (getI y1.1.Sources 0).bind λy4=>some (y4,true)
def Gl(x0:Int):Int:=
 Int.tmod (w64 ((Int.tmod x0 3600)+3600)) 3600
def Aoi(x0:Int)(x1:Int):Bool:=decide ((Gl (w64 ((Gl x1)-(Gl x0))))>1800)
def uR(x0:Int)(x1:Int):Int:=
 bif (Aoi x0 x1)then w64 ((Gl (w64 ((Gl x1)-(Gl x0))))-3600) else Gl (w64 ((Gl x1)-(Gl x0)))
def Aok(x1:ee):Bool:=((decide (x1.Frequency<0)) || (decide (x1.Frequency>6000)))
def Aoj(x2:ee):Bool:=((decide (x2.Frequency<0)) || (decide (x2.Frequency>6000)))
def Uv(x0:c_)(x1:ee)(x2:ee):Bool:=
 bif (Aok x1)then false else bif (Aoj x2)then false else ((((decide ((w64 (x1.Frequency-x2.Frequency))>=(w64 (0-x0.Frequency))))&&(decide ((w64 (x1.Frequency-x2.Frequency))<=x0.Frequency)))&&(decide ((uR x1.Phase x2.Phase)>=(w64 (0-x0.Phase)))))&&(decide ((uR x1.Phase x2.Phase)<=x0.Phase)))
def T_(x0:c_)(x2:Int):Bool:=((decide (x2<0)) || (decide (x2>=(x0.Breakers.length:Int))))
def Adb(x0:c_)(y14:Int×Bool)(y22:Int×Bool)(y24:Bool)(y26:ee)(y28:ee):Bool:=(((y14.2&&y22.2)&&(!y24))&&(!(Uv x0 y26 y28)))
def Ale(x0:c_)(x1:dZ)(x2:Int):Option Int:=
 (F54 x0 x1).bind λy1=>bif (y1 != 0)then some y1 else bif (T_ x0 x2)then some 10 else (getI x0.Breakers x2).bind λy5=>(getI x1.Closed x2).bind λy7=>(Ag [(y7,false)] (Ep x1 2 x2) default).bind λy9=>(Ag [((y7 || y9),false)] (Ep x1 3 y5.A) default).bind λy11=>bif ((y7 || y9) || y11)then some 11 else (Yh x0 x1 y5.A).bind λy14=>bif (y5.Kind==1)then (Ep x1 3 y5.B).bind λy17=>bif y17 then some 11 else (Ii x0 x1 y5.A).bind λy20=>(Yh x0 x1 y5.B).bind λy22=>(Ag [((y14.2&&y22.2),true)] (K6 y20.1.Buses y5.B) default).bind λy24=>(Ag [(((y14.2&&y22.2)&&(!y24)),true)] (getI x1.Sources y14.1) default).bind λy26=>(Ag [(((y14.2&&y22.2)&&(!y24)),true)] (getI x1.Sources y22.1) default).bind λy28=>bif (Adb x0 y14 y22 y24 y26 y28)then some 12 else some 0 else bif (y5.Kind==2)then (Ep x1 1 y5.B).bind λy32=>(Ag [(y32,false)] (getI x1.Sources y5.B) default).bind λy34=>bif (y32 || (y34.State != 2))then some 11 else (Ag [(y14.2,true)] (getI x1.Sources y14.1) default).bind λy37=>(Ag [(y14.2,true)] (getI x1.Sources y5.B) default).bind λy39=>bif (y14.2&&(!(Uv x0 y37 y39)))then some 12 else some 0 else (vG x0 x1 y5.B).bind λy42=>(Ag [(y42.2,false)] (Ep x1 4 y5.B) default).bind λy44=>bif (y42.2 || y44)then some 11 else some 0
def Alv(x0:c_)(x1:dZ)(x2:Int):Option (dZ×Int):=
 (Ale x0 x1 x2).bind λy1=>bif (y1 != 0)then some (⟨[],[],[],[]⟩,y1) else (F37 x1).bind λy4=>(getI y4.Closed x2).bind λy6=>(setI y4.Closed x2 true).bind λy8=>(F99 x0 ⟨y8,y4.Sources,y4.Limits,y4.Broken⟩).bind λy10=>some (y10,0)
def Aya(x0:c_)(x2:Int):Bool:=((decide (x2<0)) || (decide (x2>=(x0.Breakers.length:Int))))
def Alu(x0:c_)(x1:dZ)(x2:Int):Option (dZ×Int):=
 (F54 x0 x1).bind λy1=>bif (y1 != 0)then some (⟨[],[],[],[]⟩,y1) else bif (Aya x0 x2)then some (⟨[],[],[],[]⟩,10) else (getI x1.Closed x2).bind λy5=>(Ag [(!y5,false)] (Ep x1 2 x2) default).bind λy7=>bif ((!y5) || y7)then some (⟨[],[],[],[]⟩,11) else (F37 x1).bind λy10=>(getI y10.Closed x2).bind λy12=>(setI y10.Closed x2 false).bind λy14=>some (⟨y14,y10.Sources,y10.Limits,y10.Broken⟩,0)
def Uc(x0:c_)(x2:Int)(x3:Int):Bool:=((((decide (x2<0)) || (decide (x2>=(x0.Sources.length:Int)))) || (decide (x3<0))) || (decide (x3>=x0.Buses)))
def vL(x0:c_)(x1:dZ)(x2:Int)(y10:Int×Bool):eu (fb) Unit:=
 bif y10.2 then (Ii x0 x1 y10.1).bind λy13=>eB y13.1.Sources else eB [x2]
def vM(x1:dZ)(y5:Int×Bool)(n1:Nat)(a1:Int)(z1:(List ee)):eu ((List ee)) Unit:=
 (getI x1.Sources y5.1).bind λy17=>(getI x1.Sources y5.1).bind λy19=>(getI z1 a1).bind λy21=>(setI z1 a1 ⟨y21.State,y21.Since,y17.Frequency,y21.Phase⟩).bind λy23=>(getI y23 a1).bind λy25=>(setI y23 a1 ⟨y25.State,y25.Since,y25.Frequency,y19.Phase⟩).bind λy27=>eB y27
def Alt(x0:c_)(x1:dZ)(x2:Int)(x3:Int):Option (dZ×Int):=
 (F54 x0 x1).bind λy1=>bif (y1 != 0)then some (⟨[],[],[],[]⟩,y1) else bif (Uc x0 x2 x3)then some (⟨[],[],[],[]⟩,10) else (Yh x0 x1 x3).bind λy5=>(getI x1.Sources x2).bind λy7=>bif ((y7.State != 2) || (!y5.2))then some (⟨[],[],[],[]⟩,11) else (R_ x0 x1 x2).bind λy10=>andThen (vL x0 x1 x2 y10) (λ_=>none) λz0=>(F37 x1).bind λy15=>andThen (foldI (vM x1 y5) z0 0 y15.Sources) (λ_=>none) λz1=>some (⟨y15.Closed,z1,y15.Limits,y15.Broken⟩,0)
def I1(x0:c_)(x1:Int)(x2:Int):Option (fb):=
 (F47 x0).bind λy1=>bif (y1 != 0)then some [] else (F98 x0 x1 x2).bind λy4=>some y4
def Aim(n0:Nat)(a0:ee)(z0:(List ee)):eu ((List ee)) Unit:=
 (getI z0 (cnt 0 n0)).bind λy6=>bif (y6.State==2)then (setI z0 (cnt 0 n0) ⟨y6.State,y6.Since,y6.Frequency,Gl (w64 (y6.Phase+(w64 (36*(w64 (y6.Frequency-5000))))))⟩).bind λy9=>eB y9 else eB z0
def Als(x0:c_)(x1:dZ):Option (dZ×Int):=
 (F54 x0 x1).bind λy1=>bif (y1 != 0)then some (⟨[],[],[],[]⟩,y1) else (F37 x1).bind λy4=>andThen (foldI Aim y4.Sources 0 y4.Sources) (λ_=>none) λz0=>some (⟨y4.Closed,z0,y4.Limits,y4.Broken⟩,0)
def Ub(x0:List dX)(x1:dX)(z0:Int)(y3:dX):Bool:=((decide (z0<(x0.length:Int)))&&(F97 y3 x1))
def Ail(x0:List dX)(x1:dX)(z0:Int):eu Int Unit:=
 (Ag [(decide (z0<(x0.length:Int)),true)] (getI x0 z0) default).bind λy3=>bif (Ub x0 x1 z0 y3)then eB (w64 (z0+1)) else eF z0
def Alr(x0:List dX)(x1:dX):Option ((List dX)):=
 andThen (whileN (Ail x0 x1) 1152921504606846976 0) (λ_=>none) λz0=>(cutI x0 0 z0).bind λy7=>(appI 17 [] y7).bind λy8=>(appI 17 y8 [x1]).bind λy10=>(cutI x0 z0 (x0.length:Int)).bind λy13=>(appI 17 y10 y13).bind λy14=>some y14
def I9(x2:Int)(x3:a_):Bool:=((((decide (x2<0)) || (decide (x2>2147483648))) || (decide (x3.Kind<1))) || (decide (x3.Kind>9)))
def Qb(x3:a_):eu Bool Unit:=
 bif (x3.Kind==3)then eB (x3.Kind==3) else eB (x3.Kind==4)
def Mt(x0:c_)(x3:a_):Bool:=((decide (x3.Unit<0)) || (decide (x3.Unit>=(x0.Sources.length:Int))))
def Apj(x3:a_)(y31:List ee)(y33:eh)(y35:Bool):eu ((List ee)) Unit:=
 bif ((y33.Start==0)&&(!y35))then (getI y31 x3.Unit).bind λy38=>(setI y31 x3.Unit ⟨2,y38.Since,y38.Frequency,y38.Phase⟩).bind λy40=>eB y40 else eB y31
def At6(y19:ee)(y42:Bool):Bool:=(((y19.State != 1)&&(y19.State != 2)) || y42)
def Zl(x0:c_)(x3:a_):Bool:=((decide (x3.Unit<0)) || (decide (x3.Unit>=(x0.Consumers.length:Int))))
def At5(x3:a_)(y51:dV):Bool:=((decide (x3.Value<0)) || (decide (x3.Value>y51.Load)))
def Zk(x2:Int)(y61:ee)(y67:Bool)(y69:eh):Bool:=(((y61.State==1)&&(!y67))&&(decide ((w64 (y61.Since+y69.Start))<=(w64 (x2+1)))))
def Apk(x0:c_)(x2:Int)(y59:dZ×Int)(n2:Nat)(a2:ee)(z2:(List ee)):eu ((List ee)) Unit:=
 (getI z2 (cnt 0 n2)).bind λy61=>(Ag [((y61.State==1),true)] (I1 x0 2 (cnt 0 n2)) default).bind λy63=>(Ag [((y61.State==1),true)] (getI y63 0) default).bind λy65=>(Ag [((y61.State==1),true)] (getI y59.1.Closed y65) default).bind λy67=>(Ag [(((y61.State==1)&&(!y67)),true)] (getI x0.Sources (cnt 0 n2)) default).bind λy69=>bif (Zk x2 y61 y67 y69)then (setI z2 (cnt 0 n2) ⟨2,y61.Since,y61.Frequency,y61.Phase⟩).bind λy72=>eB y72 else eB z2
def Ms(x0:c_)(x3:a_):Bool:=!(F96 x0 (⟨x3.Value,x3.Unit⟩:dX))
def T8(x3:a_)(a4:dX):Bool:=!((a4.Kind==x3.Value)&&((a4.Number==x3.Unit)&&true))
def Ael(x3:a_)(n4:Nat)(a4:dX)(z4:(List dX)):eu ((List dX)) Unit:=
 bif (T8 x3 a4)then (appI 17 z4 [a4]).bind λy83=>eB y83 else eB z4
def N3(x1:dZ)(x3:a_)(y5:dZ):eu ((List dX)×Int) (dZ×Int):=
 bif (x3.Kind==8)then bif decide ((x1.Broken.length:Int)>=32)then eC (⟨[],[],[],[]⟩,2) else (Alr y5.Broken ⟨x3.Value,x3.Unit⟩).bind λy80=>eB (y80,3) else andThen (foldI (Ael x3) x1.Broken 0 []) (λ_=>none) λz4=>eB (z4,0)
def F65(x0:c_)(x1:dZ)(x2:Int)(x3:a_):Option (dZ×Int):=
 (F54 x0 x1).bind λy1=>bif (y1 != 0)then some (⟨[],[],[],[]⟩,y1) else bif (I9 x2 x3)then some (⟨[],[],[],[]⟩,1) else (F37 x1).bind λy5=>bif (x3.Kind==1)then (Alv x0 x1 x3.Unit).bind λy8=>some (y8.1,y8.2) else bif (x3.Kind==2)then (Alu x0 x1 x3.Unit).bind λy11=>some (y11.1,y11.2) else bif (x3.Kind==6)then (Alt x0 x1 x3.Unit x3.Value).bind λy14=>some (y14.1,y14.2) else andThen (Qb x3) (λ_=>none) λz0=>bif z0 then bif (Mt x0 x3)then some (⟨[],[],[],[]⟩,10) else (getI x1.Sources x3.Unit).bind λy19=>(I1 x0 2 x3.Unit).bind λy21=>(getI y21 0).bind λy23=>bif (x3.Kind==3)then (Ag [((y19.State != 0),false)] (Ep x1 1 x3.Unit) default).bind λy26=>bif ((y19.State != 0) || y26)then some (⟨[],[],[],[]⟩,11) else (getI y5.Sources x3.Unit).bind λy29=>(setI y5.Sources x3.Unit ⟨1,x2,5000,0⟩).bind λy31=>(getI x0.Sources x3.Unit).bind λy33=>(Ag [((y33.Start==0),true)] (getI x1.Closed y23) default).bind λy35=>andThen (Apj x3 y31 y33 y35) (λ_=>none) λz1=>some (⟨y5.Closed,z1,y5.Limits,y5.Broken⟩,0) else (Ag [(((y19.State != 1)&&(y19.State != 2)),false)] (getI x1.Closed y23) default).bind λy42=>bif (At6 y19 y42)then some (⟨[],[],[],[]⟩,11) else (getI y5.Sources x3.Unit).bind λy45=>(setI y5.Sources x3.Unit ⟨0,y45.Since,y45.Frequency,y45.Phase⟩).bind λy47=>some (⟨y5.Closed,y47,y5.Limits,y5.Broken⟩,0) else bif (x3.Kind==5)then bif (Zl x0 x3)then some (⟨[],[],[],[]⟩,10) else (Ag [(decide (x3.Value<0),false)] (getI x0.Consumers x3.Unit) default).bind λy51=>bif (At5 x3 y51)then some (⟨[],[],[],[]⟩,1) else (getI y5.Limits x3.Unit).bind λy54=>(setI y5.Limits x3.Unit x3.Value).bind λy56=>some (⟨y5.Closed,y5.Sources,y56,y5.Broken⟩,0) else bif (x3.Kind==7)then (Als x0 x1).bind λy59=>andThen (foldI (Apk x0 x2 y59) y59.1.Sources 0 y59.1.Sources) (λ_=>none) λz2=>some (⟨y59.1.Closed,z2,y59.1.Limits,y59.1.Broken⟩,0) else bif (Ms x0 x3)then some (⟨[],[],[],[]⟩,10) else (Ep x1 x3.Value x3.Unit).bind λy75=>bif (y75==(x3.Kind==8))then some (⟨[],[],[],[]⟩,11) else andThen (N3 x1 x3 y5) some λz3=>bif (x3.Value==1)then (getI y5.Sources x3.Unit).bind λy86=>(setI y5.Sources x3.Unit ⟨z3.2,y86.Since,y86.Frequency,y86.Phase⟩).bind λy88=>some (⟨y5.Closed,y88,y5.Limits,z3.1⟩,0) else some (⟨y5.Closed,y5.Sources,y5.Limits,z3.1⟩,0)
def F66(x0:dY)(x1:a_)(x2:Int):Option dY:=
 (appI 41 [] x0.Events).bind λy1=>(appI 41 y1 [⟨x0.Time,x1,x2⟩]).bind λy3=>some ⟨x0.Time,x0.Power,x0.Rosters,y3⟩
def Ald(x0:c_)(x1:dZ)(x2:Int):Option Bool:=
 (getI x0.Breakers x2).bind λy1=>(Ep x1 3 y1.A).bind λy3=>bif y3 then some true else bif (y1.Kind==1)then (Ep x1 3 y1.B).bind λy7=>some y7 else bif (y1.Kind==2)then (Ep x1 1 y1.B).bind λy10=>(Ag [(y10,false)] (getI x1.Sources y1.B) default).bind λy12=>some (y10 || (y12.State != 2)) else (Ep x1 4 y1.B).bind λy14=>some y14
def Aot(x0:c_)(z0:Int×fe×(List a_)):Bool:=decide (z0.1<(x0.Breakers.length:Int))
def Aik(x0:c_)(x1:dZ)(z0:Int×fe×(List a_)):eu (Int×fe×(List a_)) Unit:=
 bif (Aot x0 z0)then (getI z0.2.1 z0.1).bind λy7=>(Ag [(y7,true)] (Ald x0 x1 z0.1) default).bind λy9=>bif (y7&&y9)then (setI z0.2.1 z0.1 false).bind λy12=>(appI 25 z0.2.2 [⟨2,z0.1,0⟩]).bind λy14=>eB (w64 (z0.1+1),y12,y14) else eB (w64 (z0.1+1),z0.2.1,z0.2.2) else eF (z0.1,z0.2.1,z0.2.2)
def Aij(x0:c_)(y4:dZ)(n1:Nat)(a1:dU)(z1:fe×(List a_)):eu (fe×(List a_)) Unit:=
 (Ag [((a1.Kind==3),true)] (getI z1.1 (cnt 0 n1)) default).bind λy16=>(Ag [(((a1.Kind==3)&&y16),true)] (F60 x0 ⟨z1.1,y4.Sources,y4.Limits,y4.Broken⟩ a1.A) default).bind λy18=>bif (((a1.Kind==3)&&y16)&&(!y18))then (getI z1.1 (cnt 0 n1)).bind λy21=>(setI z1.1 (cnt 0 n1) false).bind λy23=>(appI 25 z1.2 [⟨2,cnt 0 n1,0⟩]).bind λy25=>eB (y23,y25) else eB (z1.1,z1.2)
def Alq(x0:c_)(x1:dZ):Option (dZ×(List a_)×Int):=
 (F54 x0 x1).bind λy1=>bif (y1 != 0)then some (⟨[],[],[],[]⟩,[],y1) else (F37 x1).bind λy4=>andThen (whileN (Aik x0 x1) 1152921504606846976 (0,y4.Closed,[])) (λ_=>none) λz0=>andThen (foldI (Aij x0 y4) x0.Breakers 0 (z0.2.1,z0.2.2)) (λ_=>none) λz1=>(F55 x0 ⟨z1.1,y4.Sources,y4.Limits,y4.Broken⟩).bind λy27=>some (y27.1,z1.2,0)
def Ah9(z0:Int×fb)(n1:Nat)(a1:dV)(z1:fb):eu (fb) Unit:=
 bif (a1.Preference==z0.1)then (appI 9 z1 [cnt 0 n1]).bind λy6=>eB y6 else eB z1
def Aia(x0:c_)(z0:Int×fb):eu (Int×fb) Unit:=
 bif decide (z0.1<=15)then andThen (foldI (Ah9 z0) x0.Consumers 0 z0.2) (λ_=>none) λz1=>eB (w64 (z0.1+1),z1) else eF (z0.1,z0.2)
def Afn(x0:c_):Option (fb):=
 (F47 x0).bind λy1=>bif (y1 != 0)then some [] else andThen (whileN (Aia x0) 18 (0,[])) (λ_=>none) λz0=>some z0.2
def T9(y1:Ae×Bool):Bool:=((!y1.2) || ((y1.1.Sources.length:Int)==0))
def uZ(x1:dZ)(n0:Nat)(a0:Int)(z0:Int):eu Int Unit:=
 (getI x1.Limits a0).bind λy4=>eB (w64 (z0+y4))
def vA(x0:c_)(x1:dZ)(x2:Int):Option Int:=
 (Ii x0 x1 x2).bind λy1=>bif (T9 y1)then some 0 else andThen (foldI (uZ x1) y1.1.Consumers 0 0) (λ_=>none) λz0=>some z0
def Ah8(x0:c_)(n0:Nat)(a0:Int)(z0:Int):eu Int Unit:=
 (getI x0.Sources a0).bind λy3=>eB (w64 (z0+y3.Rating))
def Yg(x0:c_)(x1:dZ)(x2:Int):Option Int:=
 (Ii x0 x1 x2).bind λy1=>andThen (foldI (Ah8 x0) y1.1.Sources 0 0) (λ_=>none) λz0=>some z0
def V9(z1:Int×fb×(List a_))(y18:dV)(y20:Bool)(y22:Int):Bool:=(((decide (z1.1<=0)) || (!y20)) || (decide (y22<=y18.Least)))
def Qo(x0:c_)(a0:Ae)(n1:Nat)(a1:Int)(z1:Int×fb×(List a_)):eu (Int×fb×(List a_)) Unit:=
 (getI x0.Consumers a1).bind λy18=>(Ag [(decide (z1.1<=0),false)] (K6 a0.Consumers a1) default).bind λy20=>(Ag [(((decide (z1.1<=0)) || (!y20)),false)] (getI z1.2.1 a1) default).bind λy22=>bif (V9 z1 y18 y20 y22)then eB (z1.1,z1.2.1,z1.2.2) else (getI z1.2.1 a1).bind λy25=>(setI z1.2.1 a1 (w64 (y25-(min z1.1 (w64 (y25-y18.Least)))))).bind λy27=>(getI y27 a1).bind λy29=>(appI 25 z1.2.2 [⟨5,a1,y29⟩]).bind λy31=>eB (w64 (z1.1-(min z1.1 (w64 (y25-y18.Least)))),y27,y31)
def V8(z2:Int×fe×(List a_))(y33:Bool)(y35:Int):Bool:=(((decide (z2.1<=0)) || (!y33)) || (y35==0))
def vJ(n3:Nat)(a3:Int)(z3:fe×(List a_)):eu (fe×(List a_)) Unit:=
 (getI z3.1 a3).bind λy40=>bif y40 then (setI z3.1 a3 false).bind λy43=>(appI 25 z3.2 [⟨2,a3,0⟩]).bind λy45=>eB (y43,y45) else eB (z3.1,z3.2)
def Qn(x0:c_)(a0:Ae)(z1:Int×fb×(List a_))(n2:Nat)(a2:Int)(z2:Int×fe×(List a_)):eu (Int×fe×(List a_)) Unit:=
 (Ag [(decide (z2.1<=0),false)] (K6 a0.Consumers a2) default).bind λy33=>(Ag [(((decide (z2.1<=0)) || (!y33)),false)] (getI z1.2.1 a2) default).bind λy35=>bif (V8 z2 y33 y35)then eB (z2.1,z2.2.1,z2.2.2) else (I1 x0 3 a2).bind λy38=>andThen (foldI vJ y38 0 (z2.2.1,z2.2.2)) (λ_=>none) λz3=>(getI z1.2.1 a2).bind λy47=>eB (w64 (z2.1-y47),z3.1,z3.2)
def Aii(x0:c_)(x1:dZ)(y6:fb)(n0:Nat)(a0:Ae)(z0:fe×fb×(List a_)):eu (fe×fb×(List a_)) Unit:=
 (getI a0.Buses 0).bind λy10=>(vA x0 x1 y10).bind λy12=>(getI a0.Buses 0).bind λy14=>(Yg x0 x1 y14).bind λy16=>andThen (foldI (Qo x0 a0) y6 0 (w64 (y12-y16),z0.2.1,z0.2.2)) (λ_=>none) λz1=>andThen (foldI (Qn x0 a0 z1) y6 0 (z1.1,z0.1,z1.2.2)) (λ_=>none) λz2=>eB (z2.2.1,z1.2.1,z2.2.2)
def Alp(x0:c_)(x1:dZ):Option (dZ×(List a_)×Int):=
 (F54 x0 x1).bind λy1=>bif (y1 != 0)then some (⟨[],[],[],[]⟩,[],y1) else (F37 x1).bind λy4=>(Afn x0).bind λy6=>(Vi x0 x1).bind λy8=>andThen (foldI (Aii x0 x1 y6) y8 0 (y4.Closed,y4.Limits,[])) (λ_=>none) λz0=>some (⟨z0.1,y4.Sources,z0.2.1,y4.Broken⟩,z0.2.2,0)
def F67(x0:c_)(x1:dZ):Option (dZ×(List a_)×Int):=
 (Alq x0 x1).bind λy1=>bif (y1.2.2 != 0)then some (⟨[],[],[],[]⟩,[],y1.2.2) else (Alp x0 y1.1).bind λy4=>(appI 25 y1.2.1 y4.2.1).bind λy6=>some (y4.1,y6,0)
def Zy(x0:dY)(x1:a_)(x2:Int):Option dY:=
 (appI 41 [] x0.Events).bind λy1=>(appI 41 y1 [⟨x0.Time,x1,x2⟩]).bind λy3=>some ⟨x0.Time,x0.Power,x0.Rosters,y3⟩
def Ae2(x0:c_)(x1:dY)(x2:a_):eu (Int×fe×(List ee)×fb×(List dX)) Unit:=
 bif (x2.Kind != 7)then (F65 x0 x1.Power x1.Time x2).bind λy5=>eB (y5.2,y5.1.Closed,y5.1.Sources,y5.1.Limits,y5.1.Broken) else eB (1,[],[],[],[])
def Apy(a1:a_)(y12:dZ):eu (fe×fb) Unit:=
 bif (a1.Kind==2)then (getI y12.Closed a1.Unit).bind λy15=>(setI y12.Closed a1.Unit false).bind λy17=>eB (y17,y12.Limits) else (getI y12.Limits a1.Unit).bind λy19=>(setI y12.Limits a1.Unit a1.Value).bind λy21=>eB (y12.Closed,y21)
def Apz(n1:Nat)(a1:a_)(z1:Sg1):eu (Sg1) Unit:=
 (F37 ⟨z1.2.2.2.2.2.2.2.2.1,z1.2.2.2.2.2.2.2.2.2.1,z1.2.2.2.2.2.2.2.2.2.2.1,z1.2.2.2.2.2.2.2.2.2.2.2⟩).bind λy12=>andThen (Apy a1 y12) (λ_=>none) λz2=>(appI 97 z1.2.2.2.2.2.2.2.1 [⟨z2.1,y12.Sources,z2.2,y12.Broken⟩]).bind λy23=>(Zy ⟨z1.1,⟨z1.2.1,z1.2.2.1,z1.2.2.2.1,z1.2.2.2.2.1⟩,z1.2.2.2.2.2.1,z1.2.2.2.2.2.2.1⟩ a1 0).bind λy25=>eB (y25.Time,y25.Power.Closed,y25.Power.Sources,y25.Power.Limits,y25.Power.Broken,y25.Rosters,y25.Events,y23,z2.1,y12.Sources,z2.2,y12.Broken)
def F28(x0:c_)(x1:dY)(x2:a_):Option (dY×(List dZ)×Int):=
 (F54 x0 x1.Power).bind λy1=>bif (y1 != 0)then some (⟨0,⟨[],[],[],[]⟩,[],[]⟩,[],y1) else andThen (Ae2 x0 x1 x2) (λ_=>none) λz0=>(F66 x1 x2 z0.1).bind λy7=>bif (z0.1 != 0)then some (y7,[],0) else (F67 x0 ⟨z0.2.1,z0.2.2.1,z0.2.2.2.1,z0.2.2.2.2⟩).bind λy10=>andThen (foldI Apz y10.2.1 0 (y7.Time,y7.Power.Closed,y7.Power.Sources,y7.Power.Limits,y7.Power.Broken,y7.Rosters,y7.Events,[⟨z0.2.1,z0.2.2.1,z0.2.2.2.1,z0.2.2.2.2⟩],z0.2.1,z0.2.2.1,z0.2.2.2.1,z0.2.2.2.2)) (λ_=>none) λz1=>(F26 y10.1 ⟨z1.2.2.2.2.2.2.2.2.1,z1.2.2.2.2.2.2.2.2.2.1,z1.2.2.2.2.2.2.2.2.2.2.1,z1.2.2.2.2.2.2.2.2.2.2.2⟩).bind λy27=>bif !y27 then (appI 97 z1.2.2.2.2.2.2.2.1 [y10.1]).bind λy30=>some (⟨z1.1,y10.1,z1.2.2.2.2.2.1,z1.2.2.2.2.2.2.1⟩,y30,0) else some (⟨z1.1,y10.1,z1.2.2.2.2.2.1,z1.2.2.2.2.2.2.1⟩,z1.2.2.2.2.2.2.2.1,0)
def Atb(x0:c_)(x1:dY)(x2:a_):eu (Int×fe×(List ee)×fb×(List dX)) Unit:=
 bif (x2.Kind != 7)then (F65 x0 x1.Power x1.Time x2).bind λy5=>eB (y5.2,y5.1.Closed,y5.1.Sources,y5.1.Limits,y5.1.Broken) else eB (1,[],[],[],[])
def Ata(a1:a_)(y12:dZ):eu (fe×fb) Unit:=
 bif (a1.Kind==2)then (getI y12.Closed a1.Unit).bind λy15=>(setI y12.Closed a1.Unit false).bind λy17=>eB (y17,y12.Limits) else (getI y12.Limits a1.Unit).bind λy19=>(setI y12.Limits a1.Unit a1.Value).bind λy21=>eB (y12.Closed,y21)
def Atc(n1:Nat)(a1:a_)(z1:Sg1):eu (Sg1) Unit:=
 (F37 ⟨z1.2.2.2.2.2.2.2.2.1,z1.2.2.2.2.2.2.2.2.2.1,z1.2.2.2.2.2.2.2.2.2.2.1,z1.2.2.2.2.2.2.2.2.2.2.2⟩).bind λy12=>andThen (Ata a1 y12) (λ_=>none) λz2=>(appI 97 z1.2.2.2.2.2.2.2.1 [⟨z2.1,y12.Sources,z2.2,y12.Broken⟩]).bind λy23=>(Zy ⟨z1.1,⟨z1.2.1,z1.2.2.1,z1.2.2.2.1,z1.2.2.2.2.1⟩,z1.2.2.2.2.2.1,z1.2.2.2.2.2.2.1⟩ a1 0).bind λy25=>eB (y25.Time,y25.Power.Closed,y25.Power.Sources,y25.Power.Limits,y25.Power.Broken,y25.Rosters,y25.Events,y23,z2.1,y12.Sources,z2.2,y12.Broken)
def Aa1(x0:c_)(x1:dY)(x2:a_):Option (dY×(List dZ)×Int):=
 (F54 x0 x1.Power).bind λy1=>bif (y1 != 0)then some (⟨0,⟨[],[],[],[]⟩,[],[]⟩,[],y1) else andThen (Atb x0 x1 x2) (λ_=>none) λz0=>(Zy x1 x2 z0.1).bind λy7=>bif (z0.1 != 0)then some (y7,[],0) else (F67 x0 ⟨z0.2.1,z0.2.2.1,z0.2.2.2.1,z0.2.2.2.2⟩).bind λy10=>andThen (foldI Atc y10.2.1 0 (y7.Time,y7.Power.Closed,y7.Power.Sources,y7.Power.Limits,y7.Power.Broken,y7.Rosters,y7.Events,[⟨z0.2.1,z0.2.2.1,z0.2.2.2.1,z0.2.2.2.2⟩],z0.2.1,z0.2.2.1,z0.2.2.2.1,z0.2.2.2.2)) (λ_=>none) λz1=>(F26 y10.1 ⟨z1.2.2.2.2.2.2.2.2.1,z1.2.2.2.2.2.2.2.2.2.1,z1.2.2.2.2.2.2.2.2.2.2.1,z1.2.2.2.2.2.2.2.2.2.2.2⟩).bind λy27=>bif !y27 then (appI 97 z1.2.2.2.2.2.2.2.1 [y10.1]).bind λy30=>some (⟨z1.1,y10.1,z1.2.2.2.2.2.1,z1.2.2.2.2.2.2.1⟩,y30,0) else some (⟨z1.1,y10.1,z1.2.2.2.2.2.1,z1.2.2.2.2.2.2.1⟩,z1.2.2.2.2.2.2.2.1,0)
def Aoo(x1:eo)(y1:Ae×Bool):Bool:=(((!y1.2) || (!(F48 x1))) || (decide ((y1.1.Sources.length:Int)<2)))
def Ax9(x1:eo)(y14:Int)(y16:Int)(y18:eh):Bool:=decide ((w64 (100*y14))<=(w64 (x1.Stop*(w64 (y16-y18.Rating)))))
def vB(x0:c_)(x1:eo)(x2:dZ)(x3:Int)(y1:Ae×Bool)(z0:Int):eu Int (Int×Bool):=
 bif decide (z0>=0)then (getI y1.1.Sources z0).bind λy5=>(I1 x0 2 y5).bind λy7=>(getI y7 0).bind λy9=>(Ep x2 2 y9).bind λy11=>bif y11 then eB (w64 (z0-1)) else (vA x0 x2 x3).bind λy14=>(Yg x0 x2 x3).bind λy16=>(getI x0.Sources y5).bind λy18=>bif (Ax9 x1 y14 y16 y18)then eC (y5,true) else eB (w64 (z0-1)) else eF z0
def Alg(x0:c_)(x1:eo)(x2:dZ)(x3:Int):Option (Int×Bool):=
 (Ii x0 x2 x3).bind λy1=>bif (Aoo x1 y1)then some (0,false) else andThen (whileN (vB x0 x1 x2 x3 y1) 1152921504606846976 (w64 ((y1.1.Sources.length:Int)-1))) some λz0=>some (0,false)
def Afq(x0:c_)(x1:eo)(x2:dZ)(x3:Int):Option Bool:=
 (Ag [(F48 x1,true)] (F60 x0 x2 x3) default).bind λy1=>(Ag [(((F48 x1)&&y1),true)] (vA x0 x2 x3) default).bind λy3=>(Ag [(((F48 x1)&&y1),true)] (Yg x0 x2 x3) default).bind λy5=>some (((F48 x1)&&y1)&&(decide ((w64 (100*y3))>(w64 (x1.Start*y5)))))
def Ih(x0:Bool)(x1:Int)(x2:Int):Int:=
 bif !x0 then (-1) else bif decide (x1>=0)then x1 else x2
def Add(x1:dZ)(z0:Int):Bool:=decide (z0<(x1.Sources.length:Int))
def Ax8(y5:ee)(y13:Int×Bool)(y15:Bool)(y17:Bool)(y19:Bool)(y21:Bool):Bool:=((((((y5.State==2)&&(!y13.2))&&(!y15))&&(!y17))&&(!y19))&&y21)
def Wl(x0:c_)(x1:dZ)(y1:Ae×Bool)(z0:Int):eu Int (Int×Bool):=
 bif (Add x1 z0)then (getI x1.Sources z0).bind λy5=>(I1 x0 2 z0).bind λy7=>(getI y7 0).bind λy9=>(getI x0.Breakers y9).bind λy11=>(R_ x0 x1 z0).bind λy13=>(Ag [(((y5.State==2)&&(!y13.2)),true)] (Ep x1 1 z0) default).bind λy15=>(Ag [((((y5.State==2)&&(!y13.2))&&(!y15)),true)] (Ep x1 2 y9) default).bind λy17=>(Ag [(((((y5.State==2)&&(!y13.2))&&(!y15))&&(!y17)),true)] (Ep x1 3 y11.A) default).bind λy19=>(Ag [((((((y5.State==2)&&(!y13.2))&&(!y15))&&(!y17))&&(!y19)),true)] (K6 y1.1.Buses y11.A) default).bind λy21=>bif (Ax8 y5 y13 y15 y17 y19 y21)then eC (z0,true) else eB (w64 (z0+1)) else eF z0
def Adc(x1:dZ)(z1:Int):Bool:=decide (z1<(x1.Sources.length:Int))
def Ax7(y25:ee)(y33:Int×Bool)(y35:Bool)(y37:Bool)(y39:Bool)(y41:Bool):Bool:=((((((y25.State==1)&&(!y33.2))&&(!y35))&&(!y37))&&(!y39))&&y41)
def Wk(x0:c_)(x1:dZ)(y1:Ae×Bool)(z1:Int):eu Int (Int×Bool):=
 bif (Adc x1 z1)then (getI x1.Sources z1).bind λy25=>(I1 x0 2 z1).bind λy27=>(getI y27 0).bind λy29=>(getI x0.Breakers y29).bind λy31=>(R_ x0 x1 z1).bind λy33=>(Ag [(((y25.State==1)&&(!y33.2)),true)] (Ep x1 1 z1) default).bind λy35=>(Ag [((((y25.State==1)&&(!y33.2))&&(!y35)),true)] (Ep x1 2 y29) default).bind λy37=>(Ag [(((((y25.State==1)&&(!y33.2))&&(!y35))&&(!y37)),true)] (Ep x1 3 y31.A) default).bind λy39=>(Ag [((((((y25.State==1)&&(!y33.2))&&(!y35))&&(!y37))&&(!y39)),true)] (K6 y1.1.Buses y31.A) default).bind λy41=>bif (Ax7 y25 y33 y35 y37 y39 y41)then eC (z1,true) else eB (w64 (z1+1)) else eF z1
def uL(x1:dZ)(z2:Int):Bool:=decide (z2<(x1.Sources.length:Int))
def Av0(y45:ee)(y53:Int×Bool)(y55:Bool)(y57:Bool)(y59:Bool)(y61:Bool):Bool:=((((((y45.State==0)&&(!y53.2))&&(!y55))&&(!y57))&&(!y59))&&y61)
def Wj(x0:c_)(x1:dZ)(y1:Ae×Bool)(z2:Int):eu Int (Int×Bool):=
 bif (uL x1 z2)then (getI x1.Sources z2).bind λy45=>(I1 x0 2 z2).bind λy47=>(getI y47 0).bind λy49=>(getI x0.Breakers y49).bind λy51=>(R_ x0 x1 z2).bind λy53=>(Ag [(((y45.State==0)&&(!y53.2)),true)] (Ep x1 1 z2) default).bind λy55=>(Ag [((((y45.State==0)&&(!y53.2))&&(!y55)),true)] (Ep x1 2 y49) default).bind λy57=>(Ag [(((((y45.State==0)&&(!y53.2))&&(!y55))&&(!y57)),true)] (Ep x1 3 y51.A) default).bind λy59=>(Ag [((((((y45.State==0)&&(!y53.2))&&(!y55))&&(!y57))&&(!y59)),true)] (K6 y1.1.Buses y51.A) default).bind λy61=>bif (Av0 y45 y53 y55 y57 y59 y61)then eC (z2,true) else eB (w64 (z2+1)) else eF z2
def Alf(x0:c_)(x1:dZ)(x2:Int):Option (Int×Bool):=
 (Ii x0 x1 x2).bind λy1=>bif !y1.2 then some (0,false) else andThen (whileN (Wl x0 x1 y1) 1152921504606846976 0) some λz0=>andThen (whileN (Wk x0 x1 y1) 1152921504606846976 0) some λz1=>andThen (whileN (Wj x0 x1 y1) 1152921504606846976 0) some λz2=>some (0,false)
def Adi(x1:eo)(x4:Int)(x5:d_):Bool:=(((((((!(F48 x1)) || (decide (x4<0))) || (decide (x4>2147483648))) || (decide (x5.High<(-1)))) || (decide (x5.High>x4))) || (decide (x5.Low<(-1)))) || (decide (x5.Low>x4)))
def Aov(x0:c_)(x3:Int):Bool:=((decide (x3<0)) || (decide (x3>=x0.Buses)))
def Adh(x1:eo)(x4:Int)(x5:d_)(y8:Bool)(y10:Int×Bool):Bool:=(((decide ((Ih y8 x5.High x4)>=0))&&(decide ((w64 (x4-(Ih y8 x5.High x4)))>=x1.Delay)))&&y10.2)
def Adg(x1:eo)(x4:Int)(x5:d_)(y6:Int×Bool):Bool:=((decide ((Ih y6.2 x5.Low x4)>=0))&&(decide ((w64 (x4-(Ih y6.2 x5.Low x4)))>=x1.Delay)))
def Aly(x0:c_)(x1:eo)(x2:dZ)(x3:Int)(x4:Int)(x5:d_):Option (d_×(List a_)×Int):=
 (F54 x0 x2).bind λy1=>bif (y1 != 0)then some (⟨0,0⟩,[],y1) else bif (Adi x1 x4 x5)then some (⟨0,0⟩,[],1) else bif (Aov x0 x3)then some (⟨0,0⟩,[],10) else (Alg x0 x1 x2 x3).bind λy6=>(Afq x0 x1 x2 x3).bind λy8=>(Alf x0 x2 x3).bind λy10=>bif (Adh x1 x4 x5 y8 y10)then (getI x2.Sources y10.1).bind λy13=>bif (y13.State==0)then some (⟨Ih y8 x5.High x4,Ih y6.2 x5.Low x4⟩,[⟨3,y10.1,0⟩],0) else bif (y13.State==2)then (Yh x0 x2 x3).bind λy17=>(R_ x0 x2 y17.1).bind λy19=>(I1 x0 2 y10.1).bind λy21=>(getI y21 0).bind λy23=>some (⟨(-1),Ih y6.2 x5.Low x4⟩,[⟨6,y10.1,y19.1⟩,⟨1,y23,0⟩],0) else some (⟨Ih y8 x5.High x4,Ih y6.2 x5.Low x4⟩,[],0) else bif (Adg x1 x4 x5 y6)then (I1 x0 2 y6.1).bind λy26=>(getI y26 0).bind λy28=>some (⟨Ih y8 x5.High x4,(-1)⟩,[⟨2,y28,0⟩,⟨4,y6.1,0⟩],0) else some (⟨Ih y8 x5.High x4,Ih y6.2 x5.Low x4⟩,[],0)
def Zz(x0:c_)(n0:Nat)(a0:a_)(z0:Sg2):eu (Sg2) Unit:=
 (Aa1 x0 ⟨z0.1,⟨z0.2.1,z0.2.2.1,z0.2.2.2.1,z0.2.2.2.2.1⟩,z0.2.2.2.2.2.1,z0.2.2.2.2.2.2.2⟩ a0).bind λy6=>(appI 97 z0.2.2.2.2.2.2.1 y6.2.1).bind λy8=>eB (y6.1.Time,y6.1.Power.Closed,y6.1.Power.Sources,y6.1.Power.Limits,y6.1.Power.Broken,y6.1.Rosters,y8,y6.1.Events)
def Apn(n1:Nat)(a1:d_)(z1:(List d_)):eu ((List d_)) Unit:=
 (getI z1 (cnt 0 n1)).bind λy12=>(setI z1 (cnt 0 n1) ⟨(-1),(-1)⟩).bind λy14=>eB y14
def Akh(a2:Ae)(y20:Bool):Bool:=(((a2.Sources.length:Int)==0) || (!y20))
def Apl(x0:c_)(n3:Nat)(a3:a_)(z3:Sg2):eu (Sg2) Unit:=
 (Aa1 x0 ⟨z3.1,⟨z3.2.1,z3.2.2.1,z3.2.2.2.1,z3.2.2.2.2.1⟩,z3.2.2.2.2.2.1,z3.2.2.2.2.2.2.2⟩ a3).bind λy31=>(appI 97 z3.2.2.2.2.2.2.1 y31.2.1).bind λy33=>eB (y31.1.Time,y31.1.Power.Closed,y31.1.Power.Sources,y31.1.Power.Limits,y31.1.Power.Broken,y31.1.Rosters,y33,y31.1.Events)
def Apm(x0:c_)(x1:eo)(n2:Nat)(a2:Ae)(z2:Int×fe×(List ee)×fb×(List dX)×(List d_)×(List dZ)×(List dW)×(List d_)):eu (Int×fe×(List ee)×fb×(List dX)×(List d_)×(List dZ)×(List dW)×(List d_)) Unit:=
 (getI a2.Buses 0).bind λy18=>(Ag [(((a2.Sources.length:Int)==0),false)] (F60 x0 ⟨z2.2.1,z2.2.2.1,z2.2.2.2.1,z2.2.2.2.2.1⟩ y18) default).bind λy20=>bif (Akh a2 y20)then eB (z2.1,z2.2.1,z2.2.2.1,z2.2.2.2.1,z2.2.2.2.2.1,z2.2.2.2.2.2.1,z2.2.2.2.2.2.2.1,z2.2.2.2.2.2.2.2.1,z2.2.2.2.2.2.2.2.2) else (getI z2.2.2.2.2.2.1 y18).bind λy23=>(Aly x0 x1 ⟨z2.2.1,z2.2.2.1,z2.2.2.2.1,z2.2.2.2.2.1⟩ y18 z2.1 y23).bind λy25=>(getI z2.2.2.2.2.2.2.2.2 y18).bind λy27=>(setI z2.2.2.2.2.2.2.2.2 y18 y25.1).bind λy29=>andThen (foldI (Apl x0) y25.2.1 0 (z2.1,z2.2.1,z2.2.2.1,z2.2.2.2.1,z2.2.2.2.2.1,z2.2.2.2.2.2.1,z2.2.2.2.2.2.2.1,z2.2.2.2.2.2.2.2.1)) (λ_=>none) λz3=>eB (z3.1,z3.2.1,z3.2.2.1,z3.2.2.2.1,z3.2.2.2.2.1,z3.2.2.2.2.2.1,z3.2.2.2.2.2.2.1,z3.2.2.2.2.2.2.2,y29)
def F62(x0:c_)(x1:eo)(x2:dY)(x3:List a_):Option (dY×(List dW)×(List dZ)×Int):=
 (F18 x0 x1 x2).bind λy1=>bif (y1 != 0)then some (⟨0,⟨[],[],[],[]⟩,[],[]⟩,[],[],y1) else bif decide ((x3.length:Int)>200)then some (⟨0,⟨[],[],[],[]⟩,[],[]⟩,[],[],2) else bif decide (x2.Time>=2147483648)then some (⟨0,⟨[],[],[],[]⟩,[],[]⟩,[],[],16) else andThen (foldI (Zz x0) x3 0 (x2.Time,x2.Power.Closed,x2.Power.Sources,x2.Power.Limits,x2.Power.Broken,x2.Rosters,[x2.Power],[])) (λ_=>none) λz0=>(mkI 17 x0.Buses ⟨0,0⟩).bind λy10=>andThen (foldI Apn y10 0 y10) (λ_=>none) λz1=>(Vi x0 ⟨z0.2.1,z0.2.2.1,z0.2.2.2.1,z0.2.2.2.2.1⟩).bind λy16=>andThen (foldI (Apm x0 x1) y16 0 (z0.1,z0.2.1,z0.2.2.1,z0.2.2.2.1,z0.2.2.2.2.1,z0.2.2.2.2.2.1,z0.2.2.2.2.2.2.1,z0.2.2.2.2.2.2.2,z1)) (λ_=>none) λz2=>(F65 x0 ⟨z2.2.1,z2.2.2.1,z2.2.2.2.1,z2.2.2.2.2.1⟩ z2.1 ⟨7,0,0⟩).bind λy35=>(appI 97 z2.2.2.2.2.2.2.1 [y35.1]).bind λy37=>(appI 41 [] x2.Events).bind λy39=>(appI 41 y39 z2.2.2.2.2.2.2.2.1).bind λy41=>bif decide ((y41.length:Int)>200)then (cutI y41 (w64 ((y41.length:Int)-200)) (y41.length:Int)).bind λy45=>some (⟨w64 (z2.1+1),y35.1,z2.2.2.2.2.2.2.2.2,y45⟩,z2.2.2.2.2.2.2.2.1,y37,0) else some (⟨w64 (z2.1+1),y35.1,z2.2.2.2.2.2.2.2.2,y41⟩,z2.2.2.2.2.2.2.2.1,y37,0)
def F22(x0:c_)(x1:eo)(x2:dY)(x3:List a_):Option (dY×(List dW)×Int):=
 (F62 x0 x1 x2 x3).bind λy1=>some (y1.1,y1.2.1,y1.2.2.2)
def F23(x0:c_)(x1:eo)(x2:dY)(x3:List a_):Option ((List dZ)×Int):=
 bif (F61 x0 x1 x2 x3).isSome then (F61 x0 x1 x2 x3).bind λy2=>bif (y2.2 != 0)then some ([],y2.2) else some (y2.1.states,0) else (R6 x0 x1 x2 x3).bind λy5=>bif (y5 != 0)then some ([],y5) else none
def F24(x0:c_)(x1:eo)(x2:dY)(x3:List a_):Option ((List dZ)×Int):=
 (F62 x0 x1 x2 x3).bind λy1=>some (y1.2.2.1,y1.2.2.2)
def F27(x0:c_)(x1:dY)(x2:a_):Option (dY×(List dZ)×Int):=
 (F56 x0 x1.Power).bind λy1=>bif (y1 != 0)then some (⟨0,⟨[],[],[],[]⟩,[],[]⟩,[],y1) else (F63 x0 x1).bind λy4=>(R5 y4 x2).bind λy6=>(appI 41 y6.Aj.Events y6.events).bind λy8=>some (⟨y6.Aj.Time,y6.Aj.Power,y6.Aj.Rosters,y8⟩,y6.states,0)
def Ak9(x0:b_):Int:=
 Gl (w64 (x0.To-x0.From))
def uY(x0:b_):Bool:=
 (((((decide (x0.From>=0))&&(decide (x0.From<3600)))&&(decide (x0.To>=0)))&&(decide (x0.To<3600)))&&(decide ((Ak9 x0)<=1799)))
def Ke(x0:eq):Bool:=(((((((((((decide (x0.Kind<1)) || (decide (x0.Kind>3))) || (decide (x0.Station<0))) || (decide (x0.Station>1))) || (decide (x0.Max<0))) || (decide (x0.Max>5000))) || (decide (x0.Rate<0))) || (decide (x0.Rate>5000))) || (decide (x0.Cost<1))) || (decide (x0.Cost>100))) || (decide ((x0.Forbidden.length:Int)>4)))
def vH(n0:Nat)(a0:b_)(z0:Unit):eu Unit Bool:=
 bif !(uY a0)then eC false else eB ()
def Sa(x0:eq):Option Bool:=
 bif (Ke x0)then some false else andThen (foldI vH x0.Forbidden 0 ()) some λz0=>some true
def Akg(x0:ef):Bool:=(((((decide (x0.Bow<0)) || (decide (x0.Bow>200))) || (decide (x0.Stern<0))) || (decide (x0.Stern>200))) || ((w64 (x0.Bow+x0.Stern))==0))
def Aei(n0:Nat)(a0:eq)(z0:Unit):eu Unit Int:=
 (Sa a0).bind λy3=>bif !y3 then eC 14 else eB ()
def F73(x0:ef):Option Int:=
 bif decide ((x0.Thrusters.length:Int)>8)then some 2 else bif (Akg x0)then some 1 else andThen (foldI Aei x0.Thrusters 0 ()) some λz0=>some 0
def V5(y1:Int×Bool)(y3:Bool)(y5:Bool)(y7:Int)(y9:dV):Bool:=((((!y1.2) || (!y3)) || y5) || (decide (y7<y9.Least)))
def Aeh(x0:c_)(x1:dZ)(rec74:c_->dZ->Int->Option Bool)(n0:Nat)(a0:Int)(z0:Unit):eu Unit Bool:=
 (rec74 x0 x1 a0).bind λy14=>bif !y14 then eC false else eB ()
def Aeg(rec74:c_->dZ->Int->Option Bool)(x0:c_)(x1:dZ)(x2:Int):Option Bool:=
 (vG x0 x1 x2).bind λy1=>(Ag [(!y1.2,false)] (F60 x0 x1 y1.1) default).bind λy3=>(Ag [(((!y1.2) || (!y3)),false)] (Ep x1 4 x2) default).bind λy5=>(Ag [((((!y1.2) || (!y3)) || y5),false)] (getI x1.Limits x2) default).bind λy7=>(Ag [((((!y1.2) || (!y3)) || y5),false)] (getI x0.Consumers x2) default).bind λy9=>bif (V5 y1 y3 y5 y7 y9)then some false else (getI x0.Consumers x2).bind λy12=>andThen (foldI (Aeh x0 x1 rec74) y12.Needs 0 ()) some λz0=>some true
def Aef:Nat->c_->dZ->Int->Option Bool
 |0=>λ_ _ _=>none
 |n+1=>Aeg (Aef n)
def F74(x0:c_)(x1:dZ)(x2:Int):Option Bool:=Aef 1000 x0 x1 x2
def Afh(x0:E6):Bool:=
 ((((decide (x0.X>=(-5000)))&&(decide (x0.X<=5000)))&&(decide (x0.Y>=(-5000))))&&(decide (x0.Y<=5000)))
def Ak8(x0:Int)(x1:Int):Bool:=
 ((decide (x0>=(w64 (0-x1))))&&(decide (x0<=x1)))
def Afd(x0:Int)(x1:Int):Bool:=
 (((Ak8 x0 1000000000000000000)&&(decide (x1>=1)))&&(decide (x1<=1000000000)))
def Atd(x0:Int)(x1:Int):Option Int:=
 (nzI x1).bind λu2=>(nzI x1).bind λu4=>bif decide ((Int.tmod x0 x1)<0)then some (w64 ((w64 (Int.tdiv x0 x1))-1)) else some (w64 (Int.tdiv x0 x1))
def Alb(x0:Int)(x1:Int):Option (Int×Int):=
 bif !(Afd x0 x1)then some (0,1) else (Atd (w64 (0-x0)) x1).bind λy2=>some (w64 (0-y2),0)
def Aft(x0:eq)(x1:E6):Option (Int×Int):=
 (Sa x0).bind λy1=>bif ((!y1) || (!(Afh x1)))then some (0,1) else (Alb (w64 ((w64 ((w64 (x1.X*x1.X))+(w64 (x1.Y*x1.Y))))*x0.Cost)) 1000).bind λy4=>some (y4.1,y4.2)
def Api(x0:eq)(x1:Int)(z0:Int):eu Int Int:=
 bif decide (z0>0)then (Aft x0 ⟨z0,0⟩).bind λy5=>bif decide (y5.1<=x1)then eC z0 else eB (w64 (z0-1)) else eF z0
def F75(x0:eq)(x1:Int):Option Int:=
 (Sa x0).bind λy1=>bif !y1 then some 0 else andThen (whileN (Api x0 x1) 1152921504606846976 x0.Max) some λz0=>some 0
def Apv(x1:c_)(x2:dZ)(n0:Nat)(a0:eq)(n1:Nat)(a1:dV)(z1:fb):eu (fb) Unit:=
 bif (a1.Thruster==(cnt 0 n0))then (F74 x1 x2 (cnt 0 n1)).bind λy10=>bif y10 then (getI x2.Limits (cnt 0 n1)).bind λy13=>(F75 a0 y13).bind λy15=>(getI z1 (cnt 0 n0)).bind λy17=>(setI z1 (cnt 0 n0) y15).bind λy19=>eF y19 else eF z1 else eB z1
def Apw(x1:c_)(x2:dZ)(n0:Nat)(a0:eq)(z0:fb):eu (fb) Unit:=
 andThen (foldI (Apv x1 x2 n0 a0) x1.Consumers 0 z0) (λ_=>none) λz1=>eB z1
def F30(x0:ef)(x1:c_)(x2:dZ):Option (fb×Int):=
 (F73 x0).bind λy1=>bif (y1 != 0)then some ([],y1) else (F54 x1 x2).bind λy4=>bif (y4 != 0)then some ([],y4) else (mkI 9 (x0.Thrusters.length:Int) 0).bind λy7=>andThen (foldI (Apw x1 x2) x0.Thrusters 0 y7) (λ_=>none) λz0=>some (z0,0)
def Ax5(x3:dY)(x4:List a_)(y1:Bool)(y3:Bool):Bool:=((((!y1) || (!(F5 x3))) || (decide ((x4.length:Int)>8))) || (!y3))
def Ac5(y48:dY×(List dW)×Int)(y50:dY×(List dW)×Int)(y52:(List dZ)×Int)(y54:(List dZ)×Int)(y56:Bool)(y58:Bool):Bool:=(((((!y56) || (!y58)) || (y48.2.2 != y50.2.2)) || ((y52.1.length:Int) != (y54.1.length:Int))) || (y52.2 != y54.2))
def Azo(y54:(List dZ)×Int)(n4:Nat)(a4:dZ)(z4:Unit):eu Unit Bool:=
 (getI y54.1 (cnt 0 n4)).bind λy61=>(F26 a4 y61).bind λy63=>bif !y63 then eC false else eB ()
def Ac4(y66:dY×(List dZ)×Int)(y68:dY×(List dZ)×Int)(y70:Bool):Bool:=(((!y70) || ((y66.2.1.length:Int) != (y68.2.1.length:Int))) || (y66.2.2 != y68.2.2))
def Azn(y68:dY×(List dZ)×Int)(n6:Nat)(a6:dZ)(z6:Unit):eu Unit Bool:=
 (getI y68.2.1 (cnt 0 n6)).bind λy73=>(F26 a6 y73).bind λy75=>bif !y75 then eC false else eB ()
def Aum(y21:c_)(y34:dY)(n5:Nat)(a5:a_)(z5:Unit):eu Unit Bool:=
 (F27 y21 y34 a5).bind λy66=>(F28 y21 y34 a5).bind λy68=>(F16 y66.1 y68.1).bind λy70=>bif (Ac4 y66 y68 y70)then eC false else andThen (foldI (Azn y68) y66.2.1 0 ()) (λv=>eC v) λz6=>eB ()
def Wi(x4:List a_)(y18:(List a_)×Ab)(y21:c_)(y24:eo)(y34:dY)(z3:Int):eu Int Bool:=
 bif decide (z3<2)then (getI ([y18.1,x4]:List (List a_)) z3).bind λy46=>(F21 y21 y24 y34 y46).bind λy48=>(F22 y21 y24 y34 y46).bind λy50=>(F23 y21 y24 y34 y46).bind λy52=>(F24 y21 y24 y34 y46).bind λy54=>(F16 y48.1 y50.1).bind λy56=>(Ag [(!y56,false)] (F25 y48.2.1 y50.2.1) default).bind λy58=>bif (Ac5 y48 y50 y52 y54 y56 y58)then eC false else andThen (foldI (Azo y54) y52.1 0 ()) (λv=>eC v) λz4=>andThen (foldI (Aum y21 y34) y46 0 ()) (λv=>eC v) λz5=>eB (w64 (z3+1)) else eF z3
def Ak6(x5:ef)(y16:ef×Ab)(y21:c_)(y34:dY)(z7:Int):eu Int Bool:=
 bif decide (z7<2)then (getI ([y16.1,x5]:List ef) z7).bind λy79=>(F29 y79 y21 y34.Power).bind λy81=>(F30 y79 y21 y34.Power).bind λy83=>(F31 y81.1 y83.1).bind λy85=>bif ((!y85) || (y81.2 != y83.2))then eC false else eB (w64 (z7+1)) else eF z7
def Aun(x3:dY)(x4:List a_)(x5:ef)(y10:Sg9)(y12:dZ×Ab)(y14:Int×Ab)(y16:ef×Ab)(y18:(List a_)×Ab)(y21:c_)(y24:eo)(z2:Int):eu Int Bool:=
 bif decide (z2<4)then (getI ([y10.2.2.1,⟨y10.2.2.1.Time,y12.1,y10.2.2.1.Rosters,y10.2.2.1.Events⟩,⟨y14.1,y10.2.2.1.Power,y10.2.2.1.Rosters,y10.2.2.1.Events⟩,x3]:List dY) z2).bind λy34=>(F17 y21 y24 y34).bind λy36=>(F18 y21 y24 y34).bind λy38=>(Ag [((y36 != y38),false)] (F19 y21 y34.Power) default).bind λy40=>(Ag [((y36 != y38),false)] (F20 y21 y34.Power) default).bind λy42=>bif ((y36 != y38) || (!(y40==y42)))then eC false else andThen (whileN (Wi x4 y18 y21 y24 y34) 5 0) (λv=>eC v) λz3=>andThen (whileN (Ak6 x5 y16 y21 y34) 5 0) (λv=>eC v) λz7=>eB (w64 (z2+1)) else eF z2
def Auo(x2:eo)(x3:dY)(x4:List a_)(x5:ef)(y10:Sg9)(y12:dZ×Ab)(y14:Int×Ab)(y16:ef×Ab)(y18:(List a_)×Ab)(y21:c_)(z1:Int):eu Int Bool:=
 bif decide (z1<2)then (getI ([y10.2.1,x2]:List eo) z1).bind λy24=>(F14 y21 y24).bind λy26=>(F15 y21 y24).bind λy28=>(F16 y26.1 y28.1).bind λy30=>bif ((!y30) || (y26.2 != y28.2))then eC false else andThen (whileN (Aun x3 x4 x5 y10 y12 y14 y16 y18 y21 y24) 7 0) (λv=>eC v) λz2=>eB (w64 (z1+1)) else eF z1
def Azp(x1:c_)(x2:eo)(x3:dY)(x4:List a_)(x5:ef)(y10:Sg9)(y12:dZ×Ab)(y14:Int×Ab)(y16:ef×Ab)(y18:(List a_)×Ab)(z0:Int):eu Int Bool:=
 bif decide (z0<2)then (getI ([y10.1,x1]:List c_) z0).bind λy21=>andThen (whileN (Auo x2 x3 x4 x5 y10 y12 y14 y16 y18 y21) 5 0) (λv=>eC v) λz1=>eB (w64 (z0+1)) else eF z0
def F3(x0:fb)(x1:c_)(x2:eo)(x3:dY)(x4:List a_)(x5:ef):Option Bool:=
 (F4 x1 x3.Power).bind λy1=>(Ag [((((!y1) || (!(F5 x3))) || (decide ((x4.length:Int)>8))),false)] (F6 x5) default).bind λy3=>bif (Ax5 x3 x4 y1 y3)then (F7).bind λy6=>some y6 else (F8 x0).bind λy8=>(F9 y8).bind λy10=>(Aa3 y10.2.2.2 y10.2.2.1.Power).bind λy12=>(F11 y12.2 [(-1),2147483648,2147483649]).bind λy14=>(F12 y14.2 3).bind λy16=>(Aa2 y16.2 y10.1 4).bind λy18=>andThen (whileN (Azp x1 x2 x3 x4 x5 y10 y12 y14 y16 y18) 5 0) some λz0=>(F7).bind λy88=>some y88
end Go.Proofs.YtkcebipolafapaaGreat
