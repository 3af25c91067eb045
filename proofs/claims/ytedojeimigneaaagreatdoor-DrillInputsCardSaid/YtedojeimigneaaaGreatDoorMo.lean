import Derived.Test.YtedojeimigneaaaGreatDoorTy
import Derived.Test.YtedojeimigneaaaGreatDoorFm
set_option linter.unusedVariables false
namespace Go.Proofs.YtedojeimigneaaaGreatDoor
open Go.SL
abbrev Sg0:=Int×ez×Int×(List Ai)
abbrev Sg1:=Int×ez×Int×(List Ai)×(List Bb)
abbrev Sg2:=Int×ez×Int×(List Bb)
abbrev Sg3:=Int×ez×Int×(List Bf)
abbrev Sg4:=Int×ez×Int×(List Em)
def F4:Option Bool:=some true
def F5(x0:ez):Option Ab:=
 (cutI x0 0 (min (x0.length:Int) 600)).bind λy2=>some ⟨y2,0⟩
def F30(x0:Int)(x1:Int):Option Int:=
 bif decide (x1<1)then some 0 else (nzI x1).bind λu3=>(nzI x1).bind λu5=>some (Int.tmod (w64 ((Int.tmod x0 x1)+x1)) x1)
def F15(x0:Ab)(x1:Int):Option (Int×Ab):=
 bif decide (x0.At>=(x0.L.length:Int))then some (0,x0) else (getI x0.L (w64 ((w64 (x0.At+1))-1))).bind λy2=>(F30 y2 x1).bind λy4=>some (y4,⟨x0.L,w64 (x0.At+1)⟩)
def F18(x0:Ab)(x1:ez):Option (Int×Ab):=
 (F15 x0 (x1.length:Int)).bind λy1=>(getI x1 y1.1).bind λy3=>some (y3,y1.2)
def Aie(n0:Nat)(a0:Int)(z0:ez×Int×ez):a_ (ez×Int×ez) Unit:=
 (F18 ⟨z0.1,z0.2.1⟩ [0,100,(-300),700,(-1000),1000]).bind λy3=>(getI z0.2.2 (cnt 0 n0)).bind λy5=>(setI z0.2.2 (cnt 0 n0) y3.1).bind λy7=>b_ (y3.2.L,y3.2.At,y7)
def vY(x0:Ab):Option (ez×Ab):=
 (mkI 9 12 0).bind λy1=>andThen (foldI Aie y1 0 (x0.L,x0.At,y1)) (λ_=>none) λz0=>some (z0.2.2,⟨z0.1,z0.2.1⟩)
def F79(x0:Ab):Option (Fg×Ab):=
 (vY x0).bind λy1=>(vY y1.2).bind λy3=>(vY y3.2).bind λy5=>some (⟨y1.1,y3.1,y5.1⟩,y5.2)
def F31(x0:Ab):Option (H3×Ab):=
 (F79 x0).bind λy1=>(F79 y1.2).bind λy3=>(F79 y3.2).bind λy5=>(F18 y5.2 [1000,1,30,5000,1000000]).bind λy7=>(F18 y7.2 [100000,1,500,1073741824]).bind λy9=>(F18 y9.2 [0,1,w64 (Int.tdiv y7.1 10),y7.1]).bind λy11=>(F18 y11.2 [0,1,w64 (Int.tdiv y9.1 10),y9.1]).bind λy13=>some (⟨y1.1,y3.1,y5.1,y7.1,y9.1,min y11.1 y7.1,min y13.1 y9.1⟩,y13.2)
def F39(x0:Ab)(x1:Int)(x2:Int):Option (Int×Ab):=
 (F15 x0 (w64 ((w64 (x2-x1))+1))).bind λy1=>some (w64 (x1+y1.1),y1.2)
def Ame(x0:Ab):Option (Dw×Ab):=
 (F18 x0 [0,450,800,1350,1800,2600,3500]).bind λy1=>(F18 y1.2 [0,100,300,900,1799]).bind λy3=>some (⟨y1.1,Int.tmod (w64 (y1.1+y3.1)) 3600⟩,y3.2)
def Aql(z0:Int×ez×Int×(List Dw)):a_ (Int×ez×Int×(List Dw)) Unit:=
 bif decide (z0.1>0)then (Ame ⟨z0.2.1,z0.2.2.1⟩).bind λy14=>(appI 17 z0.2.2.2 [y14.1]).bind λy16=>b_ (w64 (z0.1-1),y14.2.L,y14.2.At,y16) else dX (z0.1,z0.2.1,z0.2.2.1,z0.2.2.2)
def F80(x0:Ab):Option (B0×Ab):=
 (F39 x0 1 3).bind λy1=>(F15 y1.2 2).bind λy3=>(F18 y3.2 [0,1,7,20,40]).bind λy5=>(F18 y5.2 [0,1,5,50]).bind λy7=>(F18 y7.2 [1,2,3,100]).bind λy9=>(F15 y9.2 3).bind λy11=>andThen (whileN Aql 1152921504606846976 (y11.1,y11.2.L,y11.2.At,[])) (λ_=>none) λz0=>some (⟨y1.1,y3.1,y5.1,y7.1,y9.1,z0.2.2.2⟩,⟨z0.2.1,z0.2.2.1⟩)
def Aq6(z0:Int×ez×Int×(List B0)):a_ (Int×ez×Int×(List B0)) Unit:=
 bif decide (z0.1>0)then (F80 ⟨z0.2.1,z0.2.2.1⟩).bind λy10=>(appI 65 z0.2.2.2 [y10.1]).bind λy12=>b_ (w64 (z0.1-1),y10.2.L,y10.2.At,y12) else dX (z0.1,z0.2.1,z0.2.2.1,z0.2.2.2)
def F32(x0:Ab)(x1:Int):Option (Gb×Ab):=
 (F18 x0 [0,1,30,60]).bind λy1=>(F18 y1.2 [1,25,40]).bind λy3=>(F15 y3.2 (w64 (x1+1))).bind λy5=>andThen (whileN Aq6 1152921504606846976 (y5.1,y5.2.L,y5.2.At,[])) (λ_=>none) λz0=>some (⟨y1.1,y3.1,z0.2.2.2⟩,⟨z0.2.1,z0.2.2.1⟩)
def Afh(y1:Int×Ab)(z0:Sg0):a_ (Sg0) Unit:=
 bif decide (z0.1<y1.1)then (F15 ⟨z0.2.1,z0.2.2.1⟩ 6).bind λy8=>bif decide (y8.1<5)then (F15 y8.2 z0.1).bind λy11=>(appI 25 z0.2.2.2 [⟨1,y11.1,z0.1⟩]).bind λy13=>b_ (w64 (z0.1+1),y11.2.L,y11.2.At,y13) else b_ (w64 (z0.1+1),y8.2.L,y8.2.At,z0.2.2.2) else dX (z0.1,z0.2.1,z0.2.2.1,z0.2.2.2)
def Aq5(y1:Int×Ab)(z0:Sg0)(y15:Int×Ab):a_ ((List Ai)) Unit:=
 bif ((decide (y1.1>2))&&(y15.1==1))then (appI 25 z0.2.2.2 [⟨1,0,w64 (y1.1-1)⟩]).bind λy18=>b_ y18 else b_ z0.2.2.2
def Afg(y1:Int×Ab)(z2:Int×ez×Int×(List Ai)×(List Ca)):a_ (Int×ez×Int×(List Ai)×(List Ca)) Unit:=
 bif decide (z2.1>0)then (F15 ⟨z2.2.1,z2.2.2.1⟩ y1.1).bind λy23=>(appI 25 z2.2.2.2.1 [⟨2,y23.1,(z2.2.2.2.2.length:Int)⟩]).bind λy25=>(F18 y23.2 [10,50,100]).bind λy27=>(F18 y27.2 [0,5,y27.1]).bind λy29=>(F18 y29.2 [0,1,3]).bind λy31=>(appI 25 z2.2.2.2.2 [⟨y27.1,y29.1,y31.1⟩]).bind λy33=>b_ (w64 (z2.1-1),y31.2.L,y31.2.At,y25,y33) else dX (z2.1,z2.2.1,z2.2.2.1,z2.2.2.2.1,z2.2.2.2.2)
def Aq4(y1:Int×Ab)(z3:Sg1)(y38:Int×Ab)(y40:List Ai)(y42:Int×Ab):a_ ((List Ai)) Unit:=
 bif ((decide (y1.1>1))&&(y42.1==3))then (nzI y1.1).bind λu46=>(appI 25 y40 [⟨3,Int.tmod (w64 (y38.1+1)) y1.1,(z3.2.2.2.2.length:Int)⟩]).bind λy47=>b_ y47 else b_ y40
def A0s(z3:Sg1)(y57:Int×Ab):Bool:=((decide ((z3.2.2.2.2.length:Int)>0))&&(y57.1==3))
def Aff(y1:Int×Ab)(z3:Sg1):a_ (Sg1) Unit:=
 bif decide (z3.1>0)then (F15 ⟨z3.2.1,z3.2.2.1⟩ y1.1).bind λy38=>(appI 25 z3.2.2.2.1 [⟨3,y38.1,(z3.2.2.2.2.length:Int)⟩]).bind λy40=>(Aw [(decide (y1.1>1),true)] (F15 y38.2 4) (default,y38.2)).bind λy42=>andThen (Aq4 y1 z3 y38 y40 y42) (λ_=>none) λz4=>(F18 y42.2 [0,5,20,40]).bind λy49=>(F18 y49.2 [0,w64 (Int.tdiv y49.1 2),y49.1]).bind λy51=>(F15 y51.2 3).bind λy53=>(F39 y53.2 (-1) 2).bind λy55=>(Aw [(decide ((z3.2.2.2.2.length:Int)>0),true)] (F15 y55.2 4) (default,y55.2)).bind λy57=>bif (A0s z3 y57)then (F15 y57.2 (z3.2.2.2.2.length:Int)).bind λy60=>(appI 57 z3.2.2.2.2 [⟨y49.1,y51.1,y53.1,y55.1,[y60.1]⟩]).bind λy62=>b_ (w64 (z3.1-1),y60.2.L,y60.2.At,z4,y62) else (appI 57 z3.2.2.2.2 [⟨y49.1,y51.1,y53.1,y55.1,[]⟩]).bind λy64=>b_ (w64 (z3.1-1),y57.2.L,y57.2.At,z4,y64) else dX (z3.1,z3.2.1,z3.2.2.1,z3.2.2.2.1,z3.2.2.2.2)
def F33(x0:Ab):Option (Ae×Ab):=
 (F39 x0 1 4).bind λy1=>(F18 y1.2 [0,50,200,1800]).bind λy3=>(F18 y3.2 [0,10,50]).bind λy5=>andThen (whileN (Afh y1) 1152921504606846976 (1,y5.2.L,y5.2.At,[])) (λ_=>none) λz0=>(Aw [(decide (y1.1>2),true)] (F15 ⟨z0.2.1,z0.2.2.1⟩ 2) (default,⟨z0.2.1,z0.2.2.1⟩)).bind λy15=>andThen (Aq5 y1 z0 y15) (λ_=>none) λz1=>(F15 y15.2 5).bind λy20=>andThen (whileN (Afg y1) 1152921504606846976 (y20.1,y20.2.L,y20.2.At,z1,[])) (λ_=>none) λz2=>(F15 ⟨z2.2.1,z2.2.2.1⟩ 6).bind λy35=>andThen (whileN (Aff y1) 1152921504606846976 (y35.1,y35.2.L,y35.2.At,z2.2.2.2.1,[])) (λ_=>none) λz3=>some (⟨y1.1,z3.2.2.2.1,z2.2.2.2.2,z3.2.2.2.2,y3.1,y5.1⟩,⟨z3.2.1,z3.2.2.1⟩)
def F34(x0:Ab):Option (Ff×Ab):=
 (F18 x0 [60,80,100]).bind λy1=>(F18 y1.2 [1,30,50]).bind λy3=>(F18 y3.2 [0,1,3]).bind λy5=>some (⟨y1.1,y3.1,y5.1⟩,y5.2)
def F81(x0:Ab):Option (Br×Ab):=
 (F15 x0 4).bind λy1=>(F18 y1.2 [0,10,100]).bind λy3=>(F18 y3.2 [1,3,10]).bind λy5=>(F18 y5.2 [0,0,2,4]).bind λy7=>some (⟨y1.1,y3.1,y5.1,y7.1⟩,y7.2)
def Aq2(z0:Int×ez×Int×(List Br)):a_ (Int×ez×Int×(List Br)) Unit:=
 bif decide (z0.1>0)then (F81 ⟨z0.2.1,z0.2.2.1⟩).bind λy4=>(appI 33 z0.2.2.2 [y4.1]).bind λy6=>b_ (w64 (z0.1-1),y4.2.L,y4.2.At,y6) else dX (z0.1,z0.2.1,z0.2.2.1,z0.2.2.2)
def F35(x0:Ab)(x1:Int):Option ((List Br)×Ab):=
 (F15 x0 (w64 (x1+1))).bind λy1=>andThen (whileN Aq2 1152921504606846976 (y1.1,y1.2.L,y1.2.At,[])) (λ_=>none) λz0=>some (z0.2.2.2,⟨z0.2.1,z0.2.2.1⟩)
def F36(x0:Ab):Option (G5×Ab):=
 (F18 x0 [0,10,100,1000]).bind λy1=>(F18 y1.2 [0,1,5]).bind λy3=>(F18 y3.2 [0,50,500]).bind λy5=>(F18 y5.2 [0,100]).bind λy7=>(F18 y7.2 [0,3]).bind λy9=>(F18 y9.2 [0,70]).bind λy11=>(F18 y11.2 [0,500,10000]).bind λy13=>(F18 y13.2 [0,20,60]).bind λy15=>(F18 y15.2 [0,500,3000]).bind λy17=>some (⟨y1.1,y3.1,y5.1,y7.1,y9.1,y11.1,y13.1,y15.1,y17.1⟩,y17.2)
def F82(x0:Ab)(x1:List ByteArray):Option (ByteArray×Ab):=
 (F15 x0 (x1.length:Int)).bind λy1=>(getI x1 y1.1).bind λy3=>some (y3,y1.2)
def F83(x0:Ab):Option (G0×Ab):=
 (F18 x0 [0,300,500,2000]).bind λy1=>(F18 y1.2 [0,0,200]).bind λy3=>(F18 y3.2 [0,0,(-100)]).bind λy5=>(F18 y5.2 [0,500,3000]).bind λy7=>some (⟨⟨y3.1,y5.1⟩,y1.1,w64 (y1.1+y7.1)⟩,y7.2)
def F37(x0:Ab):Option (Eb×Ab):=
 (F82 x0 [(⟨#[100,114,105,108,108]⟩:ByteArray),(⟨#[100,105,118,101]⟩:ByteArray),(⟨#[97,45,49]⟩:ByteArray)]).bind λy1=>(F39 y1.2 1 3).bind λy3=>(F83 y3.2).bind λy5=>(F18 y5.2 [0,10,50,1000]).bind λy7=>some (⟨y1.1,y3.1,y5.1,y7.1⟩,y7.2)
def Aq0(x1:Int)(x2:Int)(z0:Int×ez×Int×ez):a_ (Int×ez×Int×ez) Unit:=
 bif decide (z0.1<x1)then (F15 ⟨z0.2.1,z0.2.2.1⟩ x2).bind λy2=>bif (y2.1==(w64 (x2-1)))then (appI 9 z0.2.2.2 [z0.1]).bind λy5=>b_ (w64 (z0.1+1),y2.2.L,y2.2.At,y5) else b_ (w64 (z0.1+1),y2.2.L,y2.2.At,z0.2.2.2) else dX (z0.1,z0.2.1,z0.2.2.1,z0.2.2.2)
def F41(x0:Ab)(x1:Int)(x2:Int):Option (ez×Ab):=
 andThen (whileN (Aq0 x1 x2) 1152921504606846976 (0,x0.L,x0.At,[])) (λ_=>none) λz0=>some (z0.2.2.2,⟨z0.2.1,z0.2.2.1⟩)
def Ak5(z0:Sg4)(y3:Int×Ab):Bool:=((decide (z0.1<=y3.1)) || (z0.1==0))
def Aq1(z0:Sg4):a_ (Sg4) Unit:=
 (F15 ⟨z0.2.1,z0.2.2.1⟩ 5).bind λy3=>bif (Ak5 z0 y3)then bif (z0.1==12)then dX (z0.1,y3.2.L,y3.2.At,z0.2.2.2) else (Ai4 [IntKind.wrap .u8 (w64 (97+z0.1))]).bind λy17=>(nzI (Ad4 (⟨#[115]⟩:ByteArray) y17)).bind λu20=>(F18 y3.2 [1,2,3,7]).bind λy21=>(F39 y21.2 1 3).bind λy23=>(F41 y23.2 z0.1 2).bind λy25=>(appI 57 z0.2.2.2 [⟨((⟨#[115]⟩:ByteArray)++y17),y21.1,y23.1,y25.1⟩]).bind λy27=>b_ (w64 (z0.1+1),y25.2.L,y25.2.At,y27) else dX (z0.1,y3.2.L,y3.2.At,z0.2.2.2)
def F38(x0:Ab):Option (C6×Ab):=
 andThen (whileN Aq1 1152921504606846976 (0,x0.L,x0.At,[])) (λ_=>none) λz0=>some (⟨z0.2.2.2⟩,⟨z0.2.1,z0.2.2.1⟩)
def F40(x0:Ab):Option (Int×Ab):=
 (F18 x0 [0,1,299,300,450,900,1800,2701,3599]).bind λy1=>some (y1.1,y1.2)
def Ahs(a0:Aa)(z1:ez×Int×(List Bl))(a1:Aa)(y1:Int×Ab):Bool:=(((!((a0.Kind==a1.Kind)&&((a0.Number==a1.Number)&&true)))&&(decide ((z1.2.2.length:Int)<20)))&&(y1.1==6))
def Afq(a0:Aa)(n1:Nat)(a1:Aa)(z1:ez×Int×(List Bl)):a_ (ez×Int×(List Bl)) Unit:=
 (Aw [(((!((a0.Kind==a1.Kind)&&((a0.Number==a1.Number)&&true)))&&(decide ((z1.2.2.length:Int)<20))),true)] (F15 ⟨z1.1,z1.2.1⟩ 7) (default,⟨z1.1,z1.2.1⟩)).bind λy1=>bif (Ahs a0 z1 a1 y1)then (appI 33 z1.2.2 [⟨a0,a1⟩]).bind λy4=>b_ (y1.2.L,y1.2.At,y4) else b_ (y1.2.L,y1.2.At,z1.2.2)
def Afr(x1:List Aa)(n0:Nat)(a0:Aa)(z0:ez×Int×(List Bl)):a_ (ez×Int×(List Bl)) Unit:=
 andThen (foldI (Afq a0) x1 0 (z0.1,z0.2.1,z0.2.2)) (λ_=>none) λz1=>b_ (z1.1,z1.2.1,z1.2.2)
def Abn(x0:Ab)(x1:List Aa):Option ((List Bl)×Ab):=
 andThen (foldI (Afr x1) x1 0 (x0.L,x0.At,[])) (λ_=>none) λz0=>some (z0.2.2,⟨z0.1,z0.2.1⟩)
def F70(x0:Aa)(x1:Aa):Bool:=
 ((decide (x0.Kind<x1.Kind)) || ((x0.Kind==x1.Kind)&&(decide (x0.Number<x1.Number))))
def vH(x0:List Aa)(x1:Aa)(z0:Int)(y3:Aa):Bool:=((decide (z0<(x0.length:Int)))&&(F70 y3 x1))
def Ae4(x0:List Aa)(x1:Aa)(z0:Int):a_ Int Unit:=
 (Aw [(decide (z0<(x0.length:Int)),true)] (getI x0 z0) default).bind λy3=>bif (vH x0 x1 z0 y3)then b_ (w64 (z0+1)) else dX z0
def vG(x0:List Aa)(x1:Aa)(z0:Int)(y6:Aa):Bool:=((decide (z0<(x0.length:Int)))&&((y6.Kind==x1.Kind)&&((y6.Number==x1.Number)&&true)))
def Ts(x0:List Aa)(x1:Aa):Option ((List Aa)):=
 andThen (whileN (Ae4 x0 x1) 1152921504606846976 0) (λ_=>none) λz0=>(Aw [(decide (z0<(x0.length:Int)),true)] (getI x0 z0) default).bind λy6=>bif (vG x0 x1 z0 y6)then some x0 else (bndI x0.length 0 z0).bind λu10=>(bndI x0.length z0 (x0.length:Int)).bind λu12=>(appI 17 [x1] ((x0.drop (Int.toNat z0)).take ((Int.toNat (x0.length:Int))-(Int.toNat z0)))).bind λy13=>(appI 17 (x0.take ((Int.toNat z0)-0)) y13).bind λy15=>some y15
def Ahr(x1:List Aa)(z0:Sg3):Bool:=((decide (z0.1>0))&&(decide ((x1.length:Int)>0)))
def Afo(n1:Nat)(a1:Aa)(z1:ez×Int×(List Aa)):a_ (ez×Int×(List Aa)) Unit:=
 (F15 ⟨z1.1,z1.2.1⟩ 4).bind λy10=>bif (y10.1==3)then (Ts z1.2.2 a1).bind λy13=>b_ (y10.2.L,y10.2.At,y13) else b_ (y10.2.L,y10.2.At,z1.2.2)
def Afp(x1:List Aa)(z0:Sg3):a_ (Sg3) Unit:=
 bif (Ahr x1 z0)then (getI [(⟨#[111,110,101]⟩:ByteArray),(⟨#[116,119,111]⟩:ByteArray),(⟨#[103,45,51]⟩:ByteArray),(⟨#[120]⟩:ByteArray)] z0.1).bind λy4=>(F15 ⟨z0.2.1,z0.2.2.1⟩ (x1.length:Int)).bind λy6=>(getI x1 y6.1).bind λy8=>andThen (foldI Afo x1 0 (y6.2.L,y6.2.At,[y8])) (λ_=>none) λz1=>(appI 41 z0.2.2.2 [⟨y4,z1.2.2⟩]).bind λy15=>b_ (w64 (z0.1-1),z1.1,z1.2.1,y15) else dX (z0.1,z0.2.1,z0.2.2.1,z0.2.2.2)
def Abm(x0:Ab)(x1:List Aa):Option ((List Bf)×Ab):=
 (F15 x0 4).bind λy1=>andThen (whileN (Afp x1) 1152921504606846976 (y1.1,y1.2.L,y1.2.At,[])) (λ_=>none) λz0=>some (z0.2.2.2,⟨z0.2.1,z0.2.2.1⟩)
def Ak7(y5:Ae×Ab)(z0:Sg2):Bool:=decide (z0.1<(y5.1.Aj.length:Int))
def Agc(y3:Gb×Ab)(y5:Ae×Ab)(z0:Sg2):a_ (Sg2) Unit:=
 bif (Ak7 y5 z0)then (F39 ⟨z0.2.1,z0.2.2.1⟩ (-1) (w64 ((y3.1.A2.length:Int)-1))).bind λy26=>(getI z0.2.2.2 z0.1).bind λy28=>(setI z0.2.2.2 z0.1 ⟨y28.Load,y28.Least,y28.Dk,y26.1,y28.Needs⟩).bind λy30=>b_ (w64 (z0.1+1),y26.2.L,y26.2.At,y30) else dX (z0.1,z0.2.1,z0.2.2.1,z0.2.2.2)
def Arx(n1:Nat)(n2:Nat)(a2:Int)(z2:(List Aa)):a_ ((List Aa)) Unit:=
 (appI 17 z2 [⟨cnt 0 n1,a2⟩]).bind λy34=>b_ y34
def Agb(n1:Nat)(a1:Int)(z1:ez×Int×(List Aa)):a_ (ez×Int×(List Aa)) Unit:=
 (F41 ⟨z1.1,z1.2.1⟩ (min a1 3) 2).bind λy32=>andThen (foldI (Arx n1) y32.1 0 z1.2.2) (λ_=>none) λz2=>b_ (y32.2.L,y32.2.At,z2)
def F16(x0:Ab):Option (Ar×Ab):=
 (F31 x0).bind λy1=>(F32 y1.2 2).bind λy3=>(F33 y3.2).bind λy5=>(F34 y5.2).bind λy7=>(F35 y7.2 3).bind λy9=>(F36 y9.2).bind λy11=>(F18 y11.2 [0,1,3]).bind λy13=>(F37 y13.2).bind λy15=>(F38 y15.2).bind λy17=>(F39 y17.2 (-50) 50).bind λy19=>(F39 y19.2 (-50) 50).bind λy21=>(F40 y21.2).bind λy23=>andThen (whileN (Agc y3 y5) 1152921504606846976 (0,y23.2.L,y23.2.At,y5.1.Aj)) (λ_=>none) λz0=>andThen (foldI Agb [0,(y5.1.Ad.length:Int),(y5.1.Ag.length:Int),y5.1.Ap,(z0.2.2.2.length:Int),(y3.1.A2.length:Int),(y9.1.length:Int),0,0,2] 0 (z0.2.1,z0.2.2.1,[])) (λ_=>none) λz1=>(Abn ⟨z1.1,z1.2.1⟩ z1.2.2).bind λy36=>(Abm y36.2 z1.2.2).bind λy38=>some (⟨y1.1,y3.1,⟨y5.1.Ap,y5.1.Ag,y5.1.Ad,z0.2.2.2,y5.1.Phase,y5.1.Ax⟩,y7.1,⟨z1.2.2,y36.1,y38.1⟩,y9.1,y11.1,⟨⟨y19.1,y21.1⟩,y23.1⟩,y13.1,y15.1,y17.1⟩,y38.2)
def A80(a0:Aa)(z1:ez×Int×(List Bl))(a1:Aa)(y1:Int×Ab):Bool:=(((!((a0.Kind==a1.Kind)&&((a0.Number==a1.Number)&&true)))&&(decide ((z1.2.2.length:Int)<20)))&&(y1.1==6))
def A7f(a0:Aa)(n1:Nat)(a1:Aa)(z1:ez×Int×(List Bl)):a_ (ez×Int×(List Bl)) Unit:=
 (Aw [(((!((a0.Kind==a1.Kind)&&((a0.Number==a1.Number)&&true)))&&(decide ((z1.2.2.length:Int)<20))),true)] (F15 ⟨z1.1,z1.2.1⟩ 7) (default,⟨z1.1,z1.2.1⟩)).bind λy1=>bif (A80 a0 z1 a1 y1)then (appI 33 z1.2.2 [⟨a0,a1⟩]).bind λy4=>b_ (y1.2.L,y1.2.At,y4) else b_ (y1.2.L,y1.2.At,z1.2.2)
def A7g(x1:List Aa)(n0:Nat)(a0:Aa)(z0:ez×Int×(List Bl)):a_ (ez×Int×(List Bl)) Unit:=
 andThen (foldI (A7f a0) x1 0 (z0.1,z0.2.1,z0.2.2)) (λ_=>none) λz1=>b_ (z1.1,z1.2.1,z1.2.2)
def F28(x0:Ab)(x1:List Aa):Option ((List Bl)×Ab):=
 andThen (foldI (A7g x1) x1 0 (x0.L,x0.At,[])) (λ_=>none) λz0=>some (z0.2.2,⟨z0.1,z0.2.1⟩)
def A8z(x1:List Aa)(z0:Sg3):Bool:=((decide (z0.1>0))&&(decide ((x1.length:Int)>0)))
def A7d(n1:Nat)(a1:Aa)(z1:ez×Int×(List Aa)):a_ (ez×Int×(List Aa)) Unit:=
 (F15 ⟨z1.1,z1.2.1⟩ 4).bind λy10=>bif (y10.1==3)then (Ts z1.2.2 a1).bind λy13=>b_ (y10.2.L,y10.2.At,y13) else b_ (y10.2.L,y10.2.At,z1.2.2)
def A7e(x1:List Aa)(z0:Sg3):a_ (Sg3) Unit:=
 bif (A8z x1 z0)then (getI [(⟨#[111,110,101]⟩:ByteArray),(⟨#[116,119,111]⟩:ByteArray),(⟨#[103,45,51]⟩:ByteArray),(⟨#[120]⟩:ByteArray)] z0.1).bind λy4=>(F15 ⟨z0.2.1,z0.2.2.1⟩ (x1.length:Int)).bind λy6=>(getI x1 y6.1).bind λy8=>andThen (foldI A7d x1 0 (y6.2.L,y6.2.At,[y8])) (λ_=>none) λz1=>(appI 41 z0.2.2.2 [⟨y4,z1.2.2⟩]).bind λy15=>b_ (w64 (z0.1-1),z1.1,z1.2.1,y15) else dX (z0.1,z0.2.1,z0.2.2.1,z0.2.2.2)
def F29(x0:Ab)(x1:List Aa):Option ((List Bf)×Ab):=
 (F15 x0 4).bind λy1=>andThen (whileN (A7e x1) 1152921504606846976 (y1.1,y1.2.L,y1.2.At,[])) (λ_=>none) λz0=>some (z0.2.2.2,⟨z0.2.1,z0.2.2.1⟩)
def Ary(z0:Int×ez×Int×(List Ai)×(List B0)×(List Bb)):a_ (Int×ez×Int×(List Ai)×(List B0)×(List Bb)) Unit:=
 bif decide (z0.1<4)then (appI 25 z0.2.2.2.1 [⟨3,Int.tmod z0.1 2,z0.1⟩]).bind λy16=>(F18 ⟨z0.2.1,z0.2.2.1⟩ [0,5,20]).bind λy18=>(F15 y18.2 3).bind λy20=>(appI 57 z0.2.2.2.2.2 [⟨20,y18.1,y20.1,z0.1,[]⟩]).bind λy22=>(F18 y20.2 [50,50,5]).bind λy24=>(F18 y24.2 [1,2]).bind λy26=>(appI 65 z0.2.2.2.2.1 [⟨3,w64 (Int.tdiv z0.1 2),40,y24.1,y26.1,[]⟩]).bind λy28=>b_ (w64 (z0.1+1),y26.2.L,y26.2.At,y16,y28,y22) else dX (z0.1,z0.2.1,z0.2.2.1,z0.2.2.2.1,z0.2.2.2.2.1,z0.2.2.2.2.2)
def F14(x0:Ab):Option (Ar×Ab):=
 (F16 x0).bind λy1=>(appI 25 [⟨1,0,1⟩] [⟨2,0,0⟩]).bind λy3=>(F15 y1.2 3).bind λy5=>(appI 25 [] [⟨100,0,y5.1⟩]).bind λy7=>(appI 25 y3 [⟨2,1,1⟩]).bind λy9=>(F15 y5.2 3).bind λy11=>(appI 25 y7 [⟨100,0,y11.1⟩]).bind λy13=>andThen (whileN Ary 7 (0,y11.2.L,y11.2.At,y9,[],[])) (λ_=>none) λz0=>(F28 ⟨z0.2.1,z0.2.2.1⟩ [⟨1,0⟩,⟨1,1⟩,⟨5,0⟩,⟨5,1⟩,⟨6,0⟩,⟨9,0⟩]).bind λy30=>(F29 y30.2 [⟨1,0⟩,⟨1,1⟩,⟨5,0⟩,⟨5,1⟩,⟨6,0⟩,⟨9,0⟩]).bind λy32=>some (⟨y1.1.Hull,⟨30,30,z0.2.2.2.2.1⟩,⟨2,z0.2.2.2.1,y13,z0.2.2.2.2.2,1800,50⟩,y1.1.Table,⟨[⟨1,0⟩,⟨1,1⟩,⟨5,0⟩,⟨5,1⟩,⟨6,0⟩,⟨9,0⟩],y30.1,y32.1⟩,[⟨0,100,3,0⟩,⟨1,100,3,0⟩,⟨2,100,3,0⟩],⟨10,0,5,0,0,0,0,20,100⟩,y1.1.Target,y1.1.Delay,⟨y1.1.Operation.Name,y1.1.Operation.Class,⟨y1.1.Target.Place,1000,3000⟩,y1.1.Operation.Drift⟩,y1.1.Sequence⟩,y32.2)
def F17(x0:Ab):Option (Gd×Ab):=
 (F40 x0).bind λy1=>(F18 y1.2 [0,0,50,100,200]).bind λy3=>(F40 y3.2).bind λy5=>(F18 y5.2 [0,0,30]).bind λy7=>some (⟨⟨y1.1,y3.1⟩,⟨y5.1,y7.1⟩,⟨0,0⟩⟩,y7.2)
def F84(x0:Aa):Bool:=
 ((((decide (x0.Kind>=1))&&(decide (x0.Kind<=9)))&&(decide (x0.Number>=0)))&&(decide (x0.Number<=63)))
def F42(x0:Am):Bool:=
 ((((decide (x0.Time>=0))&&(decide (x0.Time<=2147483648)))&&((x0.Kind==1) || (x0.Kind==2)))&&(F84 x0.Part))
def Ad8(z0:ez)(a0:Am)(z1:Int)(y3:Int):Bool:=((decide (z1<(z0.length:Int)))&&(decide (y3<a0.Time)))
def Aqy(z0:ez)(a0:Am)(z1:Int):a_ Int Unit:=
 (Aw [(decide (z1<(z0.length:Int)),true)] (getI z0 z1) default).bind λy3=>bif (Ad8 z0 a0 z1 y3)then b_ (w64 (z1+1)) else dX z1
def Apo(z0:ez)(a0:Am)(z1:Int)(y6:Int):Bool:=((z1==(z0.length:Int)) || (y6 != a0.Time))
def Aqz(n0:Nat)(a0:Am)(z0:ez):a_ (ez) Unit:=
 andThen (whileN (Aqy z0 a0) 1152921504606846976 0) (λ_=>none) λz1=>(Aw [((z1==(z0.length:Int)),false)] (getI z0 z1) default).bind λy6=>bif (Apo z0 a0 z1 y6)then (bndI z0.length 0 z1).bind λu10=>(bndI z0.length z1 (z0.length:Int)).bind λu12=>(appI 9 ([a0.Time]:ez) ((z0.drop (Int.toNat z1)).take ((Int.toNat (z0.length:Int))-(Int.toNat z1)))).bind λy13=>(appI 9 (z0.take ((Int.toNat z1)-0)) y13).bind λy15=>b_ y15 else b_ z0
def F43(x0:List Am):Option (ez):=
 andThen (foldI Aqz x0 0 []) (λ_=>none) λz0=>some z0
def Aqv(n0:Nat)(a0:Am)(z0:(List Aa)):a_ ((List Aa)) Unit:=
 (Ts z0 a0.Part).bind λy1=>b_ y1
def F44(x0:List Am):Option ((List Aa)):=
 andThen (foldI Aqv x0 0 []) (λ_=>none) λz0=>some z0
def A0r(x1:Aa)(a0:Aa):Bool:=((a0.Kind==x1.Kind)&&((a0.Number==x1.Number)&&true))
def Ae5(x1:Aa)(n0:Nat)(a0:Aa)(z0:Unit):a_ Unit Bool:=
 bif (A0r x1 a0)then c_ true else b_ ()
def F45(x0:List Aa)(x1:Aa):Option Bool:=
 andThen (foldI (Ae5 x1) x0 0 ()) some λz0=>some false
def Ak4(x1:Aa)(a0:Aa):Bool:=!((a0.Kind==x1.Kind)&&((a0.Number==x1.Number)&&true))
def Aqu(x1:Aa)(n0:Nat)(a0:Aa)(z0:(List Aa)):a_ ((List Aa)) Unit:=
 bif (Ak4 x1 a0)then (appI 17 z0 [a0]).bind λy2=>b_ y2 else b_ z0
def F47(x0:List Aa)(x1:Aa):Option ((List Aa)):=
 andThen (foldI (Aqu x1) x0 0 []) (λ_=>none) λz0=>some z0
def Arw(n0:Nat)(a0:Am)(z0:Unit):a_ Unit ((List Am)×Int):=
 bif !(F42 a0)then c_ ([],1) else b_ ()
def A6o(a1:Int)(a2:Aa)(a3:Am):Bool:=((a3.Time==a1)&&((a3.Part.Kind==a2.Kind)&&((a3.Part.Number==a2.Number)&&true)))
def Art(a1:Int)(a2:Aa)(n3:Nat)(a3:Am)(z3:Int):a_ Int Unit:=
 bif (A6o a1 a2 a3)then b_ a3.Kind else b_ z3
def Aru(x0:List Am)(a1:Int)(n2:Nat)(a2:Aa)(z2:(List Am)×(List Aa)):a_ ((List Am)×(List Aa)) Unit:=
 andThen (foldI (Art a1 a2) x0 0 0) (λ_=>none) λz3=>(Aw [((z3==0),false)] (F45 z2.2 a2) default).bind λy8=>bif ((z3==0) || ((z3==1)==y8))then b_ (z2.1,z2.2) else (appI 33 z2.1 [⟨a1,z3,a2⟩]).bind λy11=>bif (z3==1)then (Ts z2.2 a2).bind λy14=>b_ (y11,y14) else (F47 z2.2 a2).bind λy16=>b_ (y11,y16)
def Arv(x0:List Am)(n1:Nat)(a1:Int)(z1:(List Am)×(List Aa)):a_ ((List Am)×(List Aa)) Unit:=
 (F44 x0).bind λy5=>andThen (foldI (Aru x0 a1) y5 0 (z1.1,z1.2)) (λ_=>none) λz2=>b_ (z2.1,z2.2)
def F19(x0:List Am):Option ((List Am)×Int):=
 andThen (foldI Arw x0 0 ()) some λz0=>bif decide ((x0.length:Int)>60)then some ([],2) else (F43 x0).bind λy3=>andThen (foldI (Arv x0) y3 0 ([],[])) (λ_=>none) λz1=>bif decide ((z1.1.length:Int)>24)then some ([],2) else some (z1.1,0)
def A01(y1:Ar×Ab)(y3:Int×Ab):a_ (Ab×Ar) Unit:=
 bif (y3.1==0)then (F16 y3.2).bind λy6=>b_ (y6.2,y6.1) else b_ (y3.2,y1.1)
def A00(y8:Int×Ab)(y10:Int×Ab):a_ (Ab×C8) Unit:=
 bif (y10.1==1)then (F17 y10.2).bind λy13=>b_ (y13.2,⟨[],y13.1,w64 (1+y8.1)⟩) else b_ (y10.2,⟨[],⟨⟨0,0⟩,⟨0,0⟩,⟨0,0⟩⟩,w64 (1+y8.1)⟩)
def A02(z2:Int×Ab×(List Am)):a_ (Int×Ab×(List Am)) Unit:=
 bif decide (z2.1>0)then (F15 z2.2.1 7).bind λy18=>(F15 y18.2 4).bind λy20=>(F18 y20.2 [1,2,3,5,6,9]).bind λy22=>(F15 y22.2 3).bind λy24=>(appI 33 z2.2.2 [⟨y18.1,w64 (1+(w64 (Int.tdiv y20.1 3))),⟨y22.1,y24.1⟩⟩]).bind λy26=>b_ (w64 (z2.1-1),y24.2,y26) else dX (z2.1,z2.2.1,z2.2.2)
def F6(x0:Ab):Option (Ar×C8×Ab):=
 (F14 x0).bind λy1=>(F15 y1.2 4).bind λy3=>andThen (A01 y1 y3) (λ_=>none) λz0=>(F15 z0.1 7).bind λy8=>(F15 y8.2 2).bind λy10=>andThen (A00 y8 y10) (λ_=>none) λz1=>(F15 z1.1 4).bind λy15=>andThen (whileN A02 1152921504606846976 (y15.1,y15.2,[])) (λ_=>none) λz2=>(F19 z2.2.2).bind λy28=>some (z0.2,⟨y28.1,z1.2.Weather,z1.2.Ticks⟩,z2.2.1)
def F85(x0:Ff):Bool:=
 ((((((decide (x0.Stop>=1))&&(decide (x0.Stop<=99)))&&(decide (x0.Start>x0.Stop)))&&(decide (x0.Start<=100)))&&(decide (x0.Delay>=0)))&&(decide (x0.Delay<=600)))
def Apw(x0:Int)(a0:Int):Bool:=((decide (a0<(w64 (0-x0)))) || (decide (a0>x0)))
def Aia(x0:Int)(n0:Nat)(a0:Int)(z0:Unit):a_ Unit Bool:=
 bif (Apw x0 a0)then c_ false else b_ ()
def vV(x0:Int)(x1:ez):Option Bool:=
 andThen (foldI (Aia x0) x1 0 ()) some λz0=>some true
def vT(x0:ez):Option (Ii×Bool):=Aaq vV x0
def Amd(x0:Fg):Option (Hy×Bool):=
 (getI [x0.Surge,x0.Sway,x0.Yaw] 0).bind λy1=>(vT y1).bind λy3=>bif !y3.2 then some (⟨⟨0,0,0,0,0,0,0,0,0,0,0,0⟩,⟨0,0,0,0,0,0,0,0,0,0,0,0⟩,⟨0,0,0,0,0,0,0,0,0,0,0,0⟩⟩,false) else (getI [x0.Surge,x0.Sway,x0.Yaw] 1).bind λy6=>(vT y6).bind λy8=>bif !y8.2 then some (⟨y3.1,⟨0,0,0,0,0,0,0,0,0,0,0,0⟩,⟨0,0,0,0,0,0,0,0,0,0,0,0⟩⟩,false) else (getI [x0.Surge,x0.Sway,x0.Yaw] 2).bind λy11=>(vT y11).bind λy13=>bif !y13.2 then some (⟨y3.1,y8.1,⟨0,0,0,0,0,0,0,0,0,0,0,0⟩⟩,false) else some (⟨y3.1,y8.1,y13.1⟩,true)
def Aqk(n0:Nat)(a0:Fg)(z0:Unit):a_ Unit Int:=
 (Amd a0).bind λy1=>bif !y1.2 then c_ 60 else b_ ()
def Aa5(x0:H3):Bool:=((((((((decide (x0.Mass<1)) || (decide (x0.Mass>1000000))) || (decide (x0.Inertia<1))) || (decide (x0.Inertia>1073741824))) || (decide (x0.Drag<0))) || (decide (x0.Drag>x0.Mass))) || (decide (x0.Spin<0))) || (decide (x0.Spin>x0.Inertia)))
def F87(x0:H3):Option Int:=
 andThen (foldI Aqk [x0.Wind,x0.Current,x0.Wave] 0 ()) some λz0=>bif (Aa5 x0)then some 60 else some 0
def Abh(x0:Ar):Option Int:=
 (F87 x0.Hull).bind λy1=>some y1
def D1(x0:Int)(x1:Int)(x2:Int):Bool:=
 ((decide (x0>=x1))&&(decide (x0<=x2)))
def Vx(x0:Int):Bool:=
 ((decide (x0>=0))&&(decide (x0<3600)))
def Hn(x0:Int):Int:=
 bif decide ((Int.tmod x0 3600)<0)then w64 ((Int.tmod x0 3600)+3600) else Int.tmod x0 3600
def Au7(x0:Dw):Int:=
 Hn (w64 (x0.To-x0.From))
def Afm(x0:Dw):Bool:=
 (((Vx x0.From)&&(Vx x0.To))&&(decide ((Au7 x0)<1800)))
def Aly(x0:Dw):Bool:=
 !(Afm x0)
def zU(n0:Nat)(a0:Dw)(z0:Unit):a_ Unit Int:=
 bif Aly a0 then c_ (cnt 0 n0) else b_ ()
def Ae8(x0:List Dw):Option Int:=
 andThen (foldI zU x0 0 ()) some λz0=>some (-1)
def jL(x0:List Dw):Option Bool:=
 (Ae8 x0).bind λy1=>some (decide (y1>=0))
def Amc(x0:B0):Option Bool:=
 (Aw [(((((((D1 x0.Kind 1 3)&&(D1 x0.Station 0 1))&&(D1 x0.Max 0 5000))&&(D1 x0.Rate 0 5000))&&(D1 x0.Cost 1 100))&&(decide ((x0.Gn.length:Int)<=4))),true)] (jL x0.Gn) default).bind λy1=>some (((((((D1 x0.Kind 1 3)&&(D1 x0.Station 0 1))&&(D1 x0.Max 0 5000))&&(D1 x0.Rate 0 5000))&&(D1 x0.Cost 1 100))&&(decide ((x0.Gn.length:Int)<=4)))&&(!y1))
def Avb(x0:B0):Option Bool:=
 (Amc x0).bind λy1=>some (!y1)
def Aae(n0:Nat)(a0:B0)(z0:Unit):a_ Unit Int:=
 (Avb a0).bind λy1=>bif y1 then c_ (cnt 0 n0) else b_ ()
def Afn(x0:List B0):Option Int:=
 andThen (foldI Aae x0 0 ()) some λz0=>some (-1)
def qC(x0:List B0):Option Bool:=
 (Afn x0).bind λy1=>some (decide (y1>=0))
def Ak2(x0:Gb):Bool:=(((decide ((min x0.Bow x0.Stern)<0)) || (decide ((max x0.Bow x0.Stern)>200))) || ((x0.Bow==0)&&(x0.Stern==0)))
def F89(x0:Gb):Option Int:=
 bif decide ((x0.A2.length:Int)>8)then some 2 else bif (Ak2 x0)then some 1 else (qC x0.A2).bind λy3=>bif y3 then some 14 else some 0
def Abg(x0:Ar):Option Int:=
 (F89 x0.Ship).bind λy1=>some y1
def Bd(x0:Int)(x1:Int)(x2:Int):Bool:=
 ((decide (x0>=x1))&&(decide (x0<=x2)))
def A7h(x1:Int)(n0:Nat)(a0:Int)(z0:Unit):a_ Unit Int:=
 bif (x1==a0)then c_ (cnt 0 n0) else b_ ()
def F27(x0:ez)(x1:Int):Option Int:=
 andThen (foldI (A7h x1) x0 0 ()) some λz0=>some (-1)
def V7(x0:ez)(x1:Int):Option Bool:=
 (F27 x0 x1).bind λy1=>some (decide (y1>=0))
def Au9(x0:ez):Bool:=
 ((x0.length:Int)==0)
def Aqx(n0:Nat)(a0:ez)(z0:Unit):a_ Unit Int:=
 bif Au9 a0 then c_ (cnt 0 n0) else b_ ()
def Ae7(x0:List ez):Option Int:=
 andThen (foldI Aqx x0 0 ()) some λz0=>some (-1)
def jJ(x0:List ez):Option Bool:=
 (Ae7 x0).bind λy1=>some (decide (y1>=0))
def Aef(x0:Ae)(a0:Ai):Bool:=((a0.Kind==1)&&(Bd a0.B (w64 (a0.A+1)) (w64 (x0.Ap-1))))
def Aee(z0:ez×(List ez))(a0:Ai)(y7:Int):Bool:=(((a0.Kind==2)&&(Bd a0.B 0 (w64 ((z0.1.length:Int)-1))))&&(y7==0))
def Ap0(z0:ez×(List ez))(a0:Ai)(y16:Bool):Bool:=(((a0.Kind==3)&&(Bd a0.B 0 (w64 ((z0.2.length:Int)-1))))&&(!y16))
def Aid(x0:Ae)(n0:Nat)(a0:Ai)(z0:ez×(List ez)):a_ (ez×(List ez)) Bool:=
 bif !(Bd a0.A 0 (w64 (x0.Ap-1)))then c_ false else bif (Aef x0 a0)then b_ (z0.1,z0.2) else (Aw [(((a0.Kind==2)&&(Bd a0.B 0 (w64 ((z0.1.length:Int)-1)))),true)] (getI z0.1 a0.B) default).bind λy7=>bif (Aee z0 a0 y7)then (getI z0.1 a0.B).bind λy10=>(setI z0.1 a0.B (w64 (y10+1))).bind λy12=>b_ (y12,z0.2) else (Aw [(((a0.Kind==3)&&(Bd a0.B 0 (w64 ((z0.2.length:Int)-1)))),true)] (getI z0.2 a0.B) default).bind λy14=>(Aw [(((a0.Kind==3)&&(Bd a0.B 0 (w64 ((z0.2.length:Int)-1)))),true)] (V7 y14 a0.A) default).bind λy16=>bif (Ap0 z0 a0 y16)then (getI z0.2 a0.B).bind λy19=>(appI 9 y19 [a0.A]).bind λy21=>(setI z0.2 a0.B y21).bind λy23=>b_ (z0.1,y23) else c_ false
def Amb(x0:Ae):Option Bool:=
 (mkI 9 (x0.Ad.length:Int) 0).bind λy1=>(mkI 25 (x0.Aj.length:Int) ([]:ez)).bind λy3=>andThen (foldI (Aid x0) x0.Ag 0 (y1,y3)) some λz0=>(V7 z0.1 0).bind λy27=>(Aw [(!y27,true)] (jJ z0.2) default).bind λy29=>some ((!y27)&&(!y29))
def Aga(x0:Ca):Bool:=
 (((Bd x0.Rating 1 50000)&&(Bd x0.Least 0 x0.Rating))&&(Bd x0.Start 0 600))
def Apz(x1:Int)(n0:Nat)(a0:Int)(y1:Int):Bool:=((!(Bd a0 0 (w64 (x1-1)))) || ((decide ((cnt 0 n0)>0))&&(decide (y1>=a0))))
def vX(x0:Bb)(x1:Int)(n0:Nat)(a0:Int)(z0:Unit):a_ Unit Bool:=
 (Aw [(!(Bd a0 0 (w64 (x1-1))),false),(decide ((cnt 0 n0)>0),true)] (getI x0.Needs (w64 ((cnt 0 n0)-1))) default).bind λy1=>bif (Apz x1 n0 a0 y1)then c_ false else b_ ()
def Af9(x0:Bb)(x1:Int):Option Bool:=
 andThen (foldI (vX x0 x1) x0.Needs 0 ()) some λz0=>some (((((Bd x0.Load 0 50000)&&(Bd x0.Least 0 x0.Load))&&(Bd x0.Dk 0 15))&&(Bd x0.Thruster (-1) 7))&&(decide ((x0.Needs.length:Int)<=4)))
def A0o(x0:Ae):Bool:=((((!(Bd x0.Ap 1 6)) || (decide ((x0.Ag.length:Int)>24))) || (decide ((x0.Ad.length:Int)>8))) || (decide ((x0.Aj.length:Int)>16)))
def A7c(n0:Nat)(a0:Ca)(z0:Bool):a_ Bool Unit:=
 b_ (z0&&(Aga a0))
def Aqj(n1:Nat)(a1:Bb)(z1:Bool):a_ Bool Unit:=
 (Aw [(z1,true)] (Af9 a1 (cnt 0 n1)) default).bind λy4=>b_ (z1&&y4)
def F91(x0:Ae):Option Int:=
 bif (A0o x0)then some 2 else (Amb x0).bind λy2=>andThen (foldI A7c x0.Ad 0 ((y2&&(Bd x0.Phase 0 1800))&&(Bd x0.Ax 0 6000))) (λ_=>none) λz0=>andThen (foldI Aqj x0.Aj 0 z0) (λ_=>none) λz1=>bif !z1 then some 14 else some 0
def Abf(x0:Ar):Option Int:=
 (F91 x0.Board).bind λy1=>some y1
def Alm(x0:Int):Int:=
 x0
def V2(x0:Aa):Bool:=
 ((((decide (x0.Kind>=1))&&(decide (x0.Kind<=9)))&&(decide (x0.Number>=0)))&&(decide (x0.Number<=63)))
def Afl(x0:Aa):Bool:=
 !(V2 x0)
def Ars(n0:Nat)(a0:Aa)(z0:Unit):a_ Unit Int:=
 bif Afl a0 then c_ (cnt 0 n0) else b_ ()
def Af5(x0:List Aa):Option Int:=
 andThen (foldI Ars x0 0 ()) some λz0=>some (-1)
def qG(x0:List Aa):Option Bool:=
 (Af5 x0).bind λy1=>some (decide (y1>=0))
def Yo(x0:Int):Bool:=
 (x0 != x0)
def Js(x0:Int)(x1:Int):Int:=
 bif Yo x0 then bif Yo x1 then 0 else (-1) else bif Yo x1 then 1 else bif decide (x0<x1)then (-1) else bif decide (x0>x1)then 1 else 0
def Ah5(n0:Nat)(a0:Int)(z0:Unit):a_ Unit Int:=
 bif (a0 != 0)then c_ a0 else b_ ()
def V5(x0:ez):Option Int:=
 andThen (foldI Ah5 x0 0 ()) some λz0=>some 0
def Mf(x0:Aa)(x1:Aa):Option Int:=
 (V5 [Js x0.Kind x1.Kind,Js x0.Number x1.Number]).bind λy1=>some y1
def Aad(x0:List Aa)(z0:Int):a_ Int Bool:=
 bif decide (z0<(x0.length:Int))then (getI x0 (w64 (z0-1))).bind λy2=>(getI x0 z0).bind λy4=>(Mf y2 y4).bind λy6=>bif decide (y6>=0)then c_ false else b_ (w64 (z0+1)) else dX z0
def V1(x0:List Aa):Option Bool:=
 andThen (whileN (Aad x0) 1152921504606846976 1) some λz0=>some true
def Ama(x0:List Aa):Option Bool:=
 (qG x0).bind λy1=>(Aw [(!y1,true)] (V1 x0) default).bind λy3=>some ((!y1)&&y3)
def A6l(x1:Aa)(a0:Aa):Bool:=((x1.Kind==a0.Kind)&&((x1.Number==a0.Number)&&true))
def A2w(x1:Aa)(n0:Nat)(a0:Aa)(z0:Unit):a_ Unit Int:=
 bif (A6l x1 a0)then c_ (cnt 0 n0) else b_ ()
def Alu(x0:List Aa)(x1:Aa):Option Int:=
 andThen (foldI (A2w x1) x0 0 ()) some λz0=>some (-1)
def Afz(x0:List Aa)(x1:Aa):Option Bool:=
 (Alu x0 x1).bind λy1=>some (decide (y1>=0))
def vZ(x0:List Aa)(x1:Aa):Option Bool:=
 (Afz x0 x1).bind λy1=>some y1
def Alx(x0:Bl)(x1:Bl):Option Int:=
 (Mf x0.From x1.From).bind λy1=>(Mf x0.To x1.To).bind λy3=>(V5 [y1,y3]).bind λy5=>some y5
def Aac(x0:List Bl)(z0:Int):a_ Int Bool:=
 bif decide (z0<(x0.length:Int))then (getI x0 (w64 (z0-1))).bind λy2=>(getI x0 z0).bind λy4=>(Alx y2 y4).bind λy6=>bif decide (y6>=0)then c_ false else b_ (w64 (z0+1)) else dX z0
def jH(x0:List Bl):Option Bool:=
 andThen (whileN (Aac x0) 1152921504606846976 1) some λz0=>some true
def Apy(a0:Bl)(y1:Bool)(y3:Bool):Bool:=(((!y1) || (!y3)) || ((a0.From.Kind==a0.To.Kind)&&((a0.From.Number==a0.To.Number)&&true)))
def Aic(x0:Bw)(n0:Nat)(a0:Bl)(z0:Unit):a_ Unit Bool:=
 (vZ x0.Parts a0.From).bind λy1=>(Aw [(!y1,false)] (vZ x0.Parts a0.To) default).bind λy3=>bif (Apy a0 y1 y3)then c_ false else b_ ()
def Al9(x0:Bw):Option Bool:=
 andThen (foldI (Aic x0) x0.Links 0 ()) some λz0=>(jH x0.Links).bind λy6=>some y6
def A6q(x0:ByteArray):Bool:=((decide ((x0.size:Int)<1)) || (decide ((x0.size:Int)>12)))
def A6p(n0:Nat)(a0:Int):Bool:=((!((decide (a0>=97))&&(decide (a0<=122))))&&(((cnt 0 n0)==0) || ((a0 != 45)&&((decide (a0<48)) || (decide (a0>57))))))
def A22(n0:Nat)(a0:Int)(z0:Unit):a_ Unit Bool:=
 bif (A6p n0 a0)then c_ false else b_ ()
def Qm(x0:ByteArray):Option Bool:=
 bif (A6q x0)then some false else (Zz x0).bind λy2=>andThen (foldI A22 y2 0 ()) some λz0=>some true
def Afk(x0:Bf)(x1:Bf):Bool:=
 (x0.Name.toList==x1.Name.toList)
def zT(x1c0:Bf)(n0:Nat)(a0:Bf)(z0:Unit):a_ Unit (Int×Bf):=
 bif Afk a0 x1c0 then c_ (cnt 0 n0,x1c0) else b_ ()
def Ae6(x0:List Bf)(x1c0:Bf):Option (Int×Bf):=
 andThen (foldI (zT x1c0) x0 0 ()) some λz0=>some ((-1),x1c0)
def jA(x0:List Bf)(x1c0:Bf):Option (Bool×Bf):=
 (Ae6 x0 x1c0).bind λy1=>some (decide (y1.1>=0),y1.2)
def Afj(x0:Aa)(x1:Bw):Option Bool:=
 (vZ x1.Parts x0).bind λy1=>some (!y1)
def Aaj(x1c0:Bw)(n0:Nat)(a0:Aa)(z0:Unit):a_ Unit (Int×Bw):=
 (Afj a0 x1c0).bind λy1=>bif y1 then c_ (cnt 0 n0,x1c0) else b_ ()
def Af4(x0:List Aa)(x1c0:Bw):Option (Int×Bw):=
 andThen (foldI (Aaj x1c0) x0 0 ()) some λz0=>some ((-1),x1c0)
def qE(x0:List Aa)(x1c0:Bw):Option (Bool×Bw):=
 (Af4 x0 x1c0).bind λy1=>some (decide (y1.1>=0),y1.2)
def Apx(y1:Bool)(y5:Bool×Bf)(y7:Bool×Bw)(y9:Bool):Bool:=(((((!y1) || y5.1) || ((y5.2.Parts.length:Int)==0)) || y7.1) || (!y9))
def Aib(n0:Nat)(a0:Bf)(z0:(List Aa)×(List Bl)×(List Bf)):a_ ((List Aa)×(List Bl)×(List Bf)) Bool:=
 (Qm a0.Name).bind λy1=>(Aw [(!y1,false)] (cutI z0.2.2 0 (cnt 0 n0)) default).bind λy4=>(Aw [(!y1,false)] (jA y4 a0) (default,a0)).bind λy5=>(Aw [((((!y1) || y5.1) || ((y5.2.Parts.length:Int)==0)),false)] (qE y5.2.Parts ⟨z0.1,z0.2.1,z0.2.2⟩) (default,⟨z0.1,z0.2.1,z0.2.2⟩)).bind λy7=>(Aw [(((((!y1) || y5.1) || ((y5.2.Parts.length:Int)==0)) || y7.1),false)] (V1 y5.2.Parts) default).bind λy9=>bif (Apx y1 y5 y7 y9)then c_ false else b_ (y7.2.Parts,y7.2.Links,y7.2.Groups)
def Al8(x0:Bw):Option Bool:=
 andThen (foldI Aib x0.Groups 0 (x0.Parts,x0.Links,x0.Groups)) some λz0=>some true
def Ak1(x0:Bw):Bool:=(((decide ((x0.Parts.length:Int)>40)) || (decide ((x0.Links.length:Int)>60))) || (decide ((x0.Groups.length:Int)>6)))
def F94(x0:Bw):Option Int:=
 bif (Ak1 x0)then some 2 else (Ama x0.Parts).bind λy2=>(Aw [(!y2,false)] (Al9 x0) default).bind λy4=>(Aw [(((!y2) || (!y4)),false)] (Al8 x0) default).bind λy6=>bif (((!y2) || (!y4)) || (!y6))then some 63 else some 0
def Abe(x0:Ar):Option Int:=
 (F94 x0.Design).bind λy1=>some y1
def J9(x0:Int)(x1:Int)(x2:Int):Bool:=
 ((decide (x0>=x1))&&(decide (x0<=x2)))
def Al6(x0:Br):Bool:=
 ((((J9 x0.Cause 0 7)&&(J9 x0.Speed 0 1000))&&(J9 x0.Stale 1 600))&&(J9 x0.Freeze 0 600))
def Al7(x0:Br):Bool:=
 !(Al6 x0)
def Aab(n0:Nat)(a0:Br)(z0:Unit):a_ Unit Int:=
 bif Al7 a0 then c_ (cnt 0 n0) else b_ ()
def Afi(x0:List Br):Option Int:=
 andThen (foldI Aab x0 0 ()) some λz0=>some (-1)
def Af8(x0:List Br):Option Bool:=
 (Afi x0).bind λy1=>some (decide (y1>=0))
def F96(x0:List Br):Option Int:=
 bif decide ((x0.length:Int)>8)then some 2 else (Af8 x0).bind λy2=>bif y2 then some 1 else some 0
def Abd(x0:Ar):Option Int:=
 (F96 x0.References).bind λy1=>some y1
def Ak0(a0:Int):Bool:=((decide (a0<0)) || (decide (a0>100000)))
def Aqi(n0:Nat)(a0:Int)(z0:Unit):a_ Unit Int:=
 bif (Ak0 a0)then c_ 62 else b_ ()
def Aa4(x0:G5):Bool:=((((((decide (x0.MostSum<0)) || (decide (x0.MostSum>10000000))) || (decide (x0.MostForce<0))) || (decide (x0.MostForce>5000))) || (decide (x0.MostYaw<0))) || (decide (x0.MostYaw>500000)))
def F98(x0:G5):Option Int:=
 andThen (foldI Aqi [x0.Near,x0.Sum,x0.Calm,x0.Point,x0.Drift,x0.Still] 0 ()) some λz0=>bif (Aa4 x0)then some 62 else some 0
def Abc(x0:Ar):Option Int:=
 (F98 x0.Gains).bind λy1=>some y1
def vW(x0:Int)(x1:Int)(x2:Int):Bool:=
 ((decide (x0>=x1))&&(decide (x0<=x2)))
def Af7(x0:Int):Bool:=
 vW x0 1 3
def Np(x0:G4):Bool:=
 ((decide ((max x0.X x0.Y)<=100000000))&&(decide ((min x0.X x0.Y)>=(-100000000))))
def Aed(x0:G0):Bool:=((((!(Np x0.Place)) || (decide (x0.Yellow<0))) || (decide (x0.Yellow>x0.Red))) || (decide (x0.Red>1000000)))
def Al5(x0:G0):Int:=
 bif (Aed x0)then 65 else 0
def Aeg(x0:Eb)(y1:Bool):Bool:=(((!y1) || (!(Af7 x0.Class))) || (!(vW x0.Drift 0 1000)))
def Amq(x0:Eb):Option Int:=
 (Qm x0.Name).bind λy1=>bif (Aeg x0 y1)then some 66 else some (Al5 x0.Circle)
def Abb(x0:Ar):Option Int:=
 (Amq x0.Operation).bind λy1=>some y1
def Amp(x0:C6):Option (Int):=Aa3 Qm x0
def qJ(x0:Ar):Option Int:=
 (Amp x0.Sequence).bind λy1=>some y1
def Tw(x0:Int):Bool:=
 ((decide (x0>=0))&&(decide (x0<3600)))
def Agn(x0:Bb)(x1:Ar):Bool:=
 decide (x0.Thruster>=(x1.Ship.A2.length:Int))
def Aak(x1c0:Ar)(n0:Nat)(a0:Bb)(z0:Unit):a_ Unit (Int×Ar):=
 bif Agn a0 x1c0 then c_ (cnt 0 n0,x1c0) else b_ ()
def Af6(x0:List Bb)(x1c0:Ar):Option (Int×Ar):=
 andThen (foldI (Aak x1c0) x0 0 ()) some λz0=>some ((-1),x1c0)
def qH(x0:List Bb)(x1c0:Ar):Option (Bool×Ar):=
 (Af6 x0 x1c0).bind λy1=>some (decide (y1.1>=0),y1.2)
def yC(x0:Ar)(x1:Aa):Bool:=
 bif (x1.Kind==1)then decide (x1.Number<(x0.Board.Ad.length:Int)) else bif (x1.Kind==2)then decide (x1.Number<(x0.Board.Ag.length:Int)) else bif (x1.Kind==3)then decide (x1.Number<x0.Board.Ap) else bif (x1.Kind==4)then decide (x1.Number<(x0.Board.Aj.length:Int)) else bif (x1.Kind==5)then decide (x1.Number<(x0.Ship.A2.length:Int)) else bif (x1.Kind==6)then decide (x1.Number<(x0.References.length:Int)) else true
def Agm(x0:Aa)(x1:Ar):Bool:=
 !(yC x1 x0)
def Aai(x1c0:Ar)(n0:Nat)(a0:Aa)(z0:Unit):a_ Unit (Int×Ar):=
 bif Agm a0 x1c0 then c_ (cnt 0 n0,x1c0) else b_ ()
def Af3(x0:List Aa)(x1c0:Ar):Option (Int×Ar):=
 andThen (foldI (Aai x1c0) x0 0 ()) some λz0=>some ((-1),x1c0)
def Wc(x0:List Aa)(x1c0:Ar):Option (Bool×Ar):=
 (Af3 x0 x1c0).bind λy1=>some (decide (y1.1>=0),y1.2)
def Ae3(x0:Ar):a_ Int Unit:=
 bif !(F85 x0.Table)then b_ 1 else b_ 0
def Aa6(x0:Ar)(y27:Bool×Ar)(y29:Bool×Ar):Bool:=((((((!(Np x0.Target.Place)) || (!(Tw x0.Target.Heading))) || (decide (x0.Delay<0))) || (decide (x0.Delay>600))) || y27.1) || y29.1)
def F48(x0:Ar):Option Int:=
 andThen (Ae3 x0) (λ_=>none) λz0=>(Abh x0).bind λy2=>bif (y2 != 0)then some y2 else (Abg x0).bind λy5=>bif (y5 != 0)then some y5 else (Abf x0).bind λy8=>bif (y8 != 0)then some y8 else bif ((Alm z0) != 0)then some (Alm z0) else (Abe x0).bind λy12=>bif (y12 != 0)then some y12 else (Abd x0).bind λy15=>bif (y15 != 0)then some y15 else (Abc x0).bind λy18=>bif (y18 != 0)then some y18 else (Abb x0).bind λy21=>bif (y21 != 0)then some y21 else (qJ x0).bind λy24=>bif (y24 != 0)then some y24 else (Aw [(((((!(Np x0.Target.Place)) || (!(Tw x0.Target.Heading))) || (decide (x0.Delay<0))) || (decide (x0.Delay>600))),false)] (qH x0.Board.Aj x0) (default,x0)).bind λy27=>(Aw [((((((!(Np x0.Target.Place)) || (!(Tw x0.Target.Heading))) || (decide (x0.Delay<0))) || (decide (x0.Delay>600))) || y27.1),false)] (Wc y27.2.Design.Parts y27.2) (default,y27.2)).bind λy29=>bif (Aa6 x0 y27 y29)then some 73 else some 0
def Alw(x0:Int)(x1:Int):Int×Int:=
 (IntKind.wrap .u64 ((IntKind.wrap .u64 ((IntKind.wrap .u64 ((I_ .u64 x0 32)*(I_ .u64 x1 32)))+(I_ .u64 (IntKind.wrap .u64 ((IntKind.wrap .u64 ((I_ .u64 x0 32)*(Qi .u64 x1 4294967295)))+(I_ .u64 (IntKind.wrap .u64 ((Qi .u64 x0 4294967295)*(Qi .u64 x1 4294967295))) 32))) 32)))+(I_ .u64 (IntKind.wrap .u64 ((Qi .u64 (IntKind.wrap .u64 ((IntKind.wrap .u64 ((I_ .u64 x0 32)*(Qi .u64 x1 4294967295)))+(I_ .u64 (IntKind.wrap .u64 ((Qi .u64 x0 4294967295)*(Qi .u64 x1 4294967295))) 32))) 4294967295)+(IntKind.wrap .u64 ((Qi .u64 x0 4294967295)*(I_ .u64 x1 32))))) 32)),IntKind.wrap .u64 (x0*x1))
def H8(x0:Int)(x1:Int):Int×Int:=
 ((Alw x0 x1).1,(Alw x0 x1).2)
def A20(x1:Int):a_ Unit Unit:=
 bif decide (x1<0)then none else b_ ()
def A6n(x0:List Cw)(x1:Int):Bool:=((decide (((H8 (IntKind.wrap .u64 (x0.length:Int)) (IntKind.wrap .u64 x1)).1)>0)) || (decide (((H8 (IntKind.wrap .u64 (x0.length:Int)) (IntKind.wrap .u64 x1)).2)>9223372036854775807)))
def A2z(x0:List Cw)(x1:Int):a_ Unit Unit:=
 bif (A6n x0 x1)then none else b_ ()
def A6m(z2:Int×(List Cw)):Bool:=decide (z2.1<(z2.2.length:Int))
def A21(z2:Int×(List Cw)):a_ (Int×(List Cw)) Unit:=
 bif (A6m z2)then (bndI z2.2.length z2.1 (z2.2.length:Int)).bind λu7=>(bndI z2.2.length 0 z2.1).bind λu9=>b_ (w64 (z2.1+((Nat.min ((z2.2.drop 0).take ((Int.toNat z2.1)-0)).length ((Int.toNat (z2.2.length:Int))-(Int.toNat z2.1))):Int)),(J8 z2.2 (Int.toNat z2.1) ((Int.toNat (z2.2.length:Int))-(Int.toNat z2.1)) ((z2.2.drop 0).take ((Int.toNat z2.1)-0)))) else dX (z2.1,z2.2)
def A7l(x0:List Cw)(x1:Int):Option ((List Cw)):=
 andThen (A20 x1) (λ_=>none) λz0=>andThen (A2z x0 x1) (λ_=>none) λz1=>(mkI 17 (w64 ((H8 (IntKind.wrap .u64 (x0.length:Int)) (IntKind.wrap .u64 x1)).2)) ⟨0,0⟩).bind λy3=>andThen (whileN A21 1152921504606846976 (((Nat.min x0.length y3.length):Int),(J8 y3 0 y3.length x0))) (λ_=>none) λz2=>some z2.2
def Tv(x0:Int):Option ((List Cw)):=
 (A7l [⟨(-1),(-1)⟩] x0).bind λy1=>some y1
def A3a(x1:Int):a_ Unit Unit:=
 bif decide (x1<0)then none else b_ ()
def A6t(x0:List An)(x1:Int):Bool:=((decide (((H8 (IntKind.wrap .u64 (x0.length:Int)) (IntKind.wrap .u64 x1)).1)>0)) || (decide (((H8 (IntKind.wrap .u64 (x0.length:Int)) (IntKind.wrap .u64 x1)).2)>9223372036854775807)))
def A29(x0:List An)(x1:Int):a_ Unit Unit:=
 bif (A6t x0 x1)then none else b_ ()
def A6s(z2:Int×(List An)):Bool:=decide (z2.1<(z2.2.length:Int))
def A3b(z2:Int×(List An)):a_ (Int×(List An)) Unit:=
 bif (A6s z2)then (bndI z2.2.length z2.1 (z2.2.length:Int)).bind λu7=>(bndI z2.2.length 0 z2.1).bind λu9=>b_ (w64 (z2.1+((Nat.min ((z2.2.drop 0).take ((Int.toNat z2.1)-0)).length ((Int.toNat (z2.2.length:Int))-(Int.toNat z2.1))):Int)),(J8 z2.2 (Int.toNat z2.1) ((Int.toNat (z2.2.length:Int))-(Int.toNat z2.1)) ((z2.2.drop 0).take ((Int.toNat z2.1)-0)))) else dX (z2.1,z2.2)
def Nn(x0:List An)(x1:Int):Option ((List An)):=
 andThen (A3a x1) (λ_=>none) λz0=>andThen (A29 x0 x1) (λ_=>none) λz1=>(mkI 33 (w64 ((H8 (IntKind.wrap .u64 (x0.length:Int)) (IntKind.wrap .u64 x1)).2)) ⟨0,0,0,0⟩).bind λy3=>andThen (whileN A3b 1152921504606846976 (((Nat.min x0.length y3.length):Int),(J8 y3 0 y3.length x0))) (λ_=>none) λz2=>some z2.2
def Aqt(n0:Nat)(a0:Bb)(z0:ez):a_ (ez) Unit:=
 (appI 9 z0 [a0.Load]).bind λy11=>b_ y11
def F49(x0:Ae)(x1:Ff):Option (Jp×Int):=
 (F91 x0).bind λy1=>bif (y1 != 0)then some (⟨0,⟨[],[],[],[]⟩,[],[]⟩,y1) else bif !(F85 x1)then some (⟨0,⟨[],[],[],[]⟩,[],[]⟩,1) else (Tv x0.Ap).bind λy5=>(mkI 2 (x0.Ag.length:Int) false).bind λy7=>(Nn [⟨0,0,5000,0⟩] (x0.Ad.length:Int)).bind λy9=>andThen (foldI Aqt x0.Aj 0 []) (λ_=>none) λz0=>some (⟨0,⟨y7,y9,z0,[]⟩,y5,[]⟩,0)
def F50:D_:=
 ⟨[],14695981039346656037⟩
def F51(x0:Int)(x1:Int)(x2:ez):B9:=
 ⟨x0,x1,x2⟩
def Ava:Int:=
 14695981039346656037
def A2y(x0:Int):a_ Bool Unit:=
 bif (x0==1)then b_ (x0==1) else bif (x0==2)then b_ (x0==2) else b_ (x0==3)
def A2x(x0:Int):a_ Bool Unit:=
 bif (x0==4)then b_ (x0==4) else bif (x0==5)then b_ (x0==5) else b_ (x0==7)
def A7k(x0:Int):Option Int:=
 andThen (A2y x0) (λ_=>none) λz0=>bif z0 then some 1 else andThen (A2x x0) (λ_=>none) λz1=>bif z1 then some 2 else bif (x0==6)then some 4 else bif (x0==8)then some 3 else some (-1)
def Avk(x0:B9):Option Bool:=
 (Aw [(((decide (x0.Time>=0))&&(decide (x0.Time<=2147483648))),true)] (A7k x0.Kind) default).bind λy1=>(Aw [((((decide (x0.Time>=0))&&(decide (x0.Time<=2147483648)))&&((x0.Words.length:Int)==y1)),true)] (vV 1000000000 x0.Words) default).bind λy3=>some ((((decide (x0.Time>=0))&&(decide (x0.Time<=2147483648)))&&((x0.Words.length:Int)==y1))&&y3)
def Al4(x0:Int):Option (ByteArray):=Ajz x0
def A7j(x0:List ByteArray)(x1:ByteArray):Option (ByteArray):=Ajx x0 x1
def A25(n0:Nat)(a0:Int)(z0:(List ByteArray)):a_ ((List ByteArray)) Unit:=
 (Al4 a0).bind λy5=>(appI 17 z0 [y5]).bind λy7=>b_ y7
def Avh(x0:B9):Option ByteArray:=
 (Al4 x0.Time).bind λy1=>(Al4 x0.Kind).bind λy3=>andThen (foldI A25 x0.Words 0 [y1,y3]) (λ_=>none) λz0=>(A7j z0 (⟨#[32]⟩:ByteArray)).bind λy9=>(nzI (Ad4 y9 (⟨#[10]⟩:ByteArray))).bind λu12=>some (y9++(⟨#[10]⟩:ByteArray))
def A26(n0:Nat)(a0:Int)(z0:Int):a_ Int Unit:=
 b_ (IntKind.wrap .u64 ((Ar0 .u64 z0 (IntKind.wrap .u64 a0))*1099511628211))
def Avi(x0:Int)(x1:ByteArray):Option Int:=
 (Zz x1).bind λy1=>andThen (foldI A26 y1 0 x0) (λ_=>none) λz0=>some z0
def A6r(n0:Nat)(a0:B9)(y2:Bool)(y4:B9):Bool:=((!y2) || ((decide ((cnt 0 n0)>0))&&(decide (a0.Time<y4.Time))))
def A28(x0:D_)(n0:Nat)(a0:B9)(z0:Int):a_ Int Int:=
 (Avk a0).bind λy2=>(Aw [(!y2,false),(decide ((cnt 0 n0)>0),true)] (getI x0.Entries (w64 ((cnt 0 n0)-1))) default).bind λy4=>bif (A6r n0 a0 y2 y4)then c_ 72 else (Avh a0).bind λy7=>(Avi z0 y7).bind λy9=>b_ y9
def A7o(x0:D_):Option Int:=
 bif decide ((x0.Entries.length:Int)>200)then some 72 else andThen (foldI (A28 x0) x0.Entries 0 Ava) some λz0=>bif (z0 != x0.Sum)then some 72 else some 0
def A7n(x0:D_)(x1:B9):Option Bool:=
 (Aw [(((x0.Entries.length:Int)==0),false)] (getI x0.Entries (w64 ((x0.Entries.length:Int)-1))) default).bind λy1=>some (((x0.Entries.length:Int)==0) || (decide (x1.Time>=y1.Time)))
def Yq(x0:ez):Option ez:=appI 9 [] x0
def Avj(x0:B9):Option B9:=
 (Yq x0.Words).bind λy1=>some ⟨x0.Time,x0.Kind,y1⟩
def A27(n0:Nat)(a0:B9)(z0:(List B9)):a_ ((List B9)) Unit:=
 (Avj a0).bind λy3=>(appI 41 z0 [y3]).bind λy5=>b_ y5
def A7m(x0:D_):Option D_:=
 andThen (foldI A27 x0.Entries 0 []) (λ_=>none) λz0=>some ⟨z0,x0.Sum⟩
def F52(x0:D_)(x1:B9):Option (D_×Int):=
 (A7o x0).bind λy1=>(Aw [((y1 != 0),false)] (Avk x1) default).bind λy3=>bif ((y1 != 0) || (!y3))then some (⟨[],0⟩,72) else (A7n x0 x1).bind λy6=>bif !y6 then some (⟨[],0⟩,16) else bif ((x0.Entries.length:Int)==200)then some (⟨[],0⟩,2) else (A7m x0).bind λy10=>(Avj x1).bind λy14=>(appI 41 y10.Entries [y14]).bind λy16=>(Avh x1).bind λy18=>(Avi x0.Sum y18).bind λy20=>some (⟨y16,y20⟩,0)
def A7i(n0:Nat)(a0:B9)(z0:Int×B3):a_ (Int×B3) (B3×Int):=
 (F52 z0.2.Book a0).bind λy11=>bif (y11.2 != 0)then c_ (⟨⟨0,⟨[],[],[],[]⟩,[],[]⟩,[],[],⟨⟨0,0⟩,0,0,0⟩,⟨0,0,0,⟨0,0⟩,0,false⟩,[],⟨0,0⟩,0,⟨0,[]⟩,[],⟨[],0⟩⟩,y11.2) else b_ (y11.2,⟨z0.2.A5,z0.2.Ao,z0.2.Tracks,z0.2.Estimate,z0.2.Keeper,z0.2.Thrusts,z0.2.Class,z0.2.Operation,z0.2.Progress,z0.2.Alarms,y11.1⟩)
def F20(x0:Ar):Option (B3×Int):=
 (F48 x0).bind λy1=>bif (y1 != 0)then some (⟨⟨0,⟨[],[],[],[]⟩,[],[]⟩,[],[],⟨⟨0,0⟩,0,0,0⟩,⟨0,0,0,⟨0,0⟩,0,false⟩,[],⟨0,0⟩,0,⟨0,[]⟩,[],⟨[],0⟩⟩,y1) else (F49 x0.Board x0.Table).bind λy4=>bif (y4.2 != 0)then some (⟨⟨0,⟨[],[],[],[]⟩,[],[]⟩,[],[],⟨⟨0,0⟩,0,0,0⟩,⟨0,0,0,⟨0,0⟩,0,false⟩,[],⟨0,0⟩,0,⟨0,[]⟩,[],⟨[],0⟩⟩,y4.2) else (mkI 89 (x0.References.length:Int) ⟨⟨0,0,0,0⟩,⟨0,0,0,0⟩,false,0,0⟩).bind λy7=>(mkI 17 (x0.Ship.A2.length:Int) ⟨0,0⟩).bind λy9=>andThen (foldI A7i [(F51 0 1 [1]),(F51 0 2 [0]),(F51 0 3 [0])] 0 (y4.2,⟨y4.1,[],y7,⟨⟨0,0⟩,0,0,0⟩,⟨0,0,0,⟨0,0⟩,0,false⟩,y9,⟨1,(-1)⟩,0,⟨0,[]⟩,[],F50⟩)) some λz0=>some (z0.2,0)
def Nm(x0:Ae)(x1:Int):Int:=
 bif (x1==1)then (x0.Ad.length:Int) else bif (x1==2)then (x0.Ag.length:Int) else bif (x1==3)then x0.Ap else bif (x1==4)then (x0.Aj.length:Int) else 0
def Ap2(x0:Ae)(n0:Nat)(a0:Aa)(y5:Int):Bool:=((!(Bd a0.Number 0 (w64 ((Nm x0 a0.Kind)-1)))) || ((decide ((cnt 0 n0)>0))&&(decide (y5>=0))))
def yA(x0:Ae)(x1:List Aa)(n0:Nat)(a0:Aa)(z0:Unit):a_ Unit Bool:=
 (Aw [(!(Bd a0.Number 0 (w64 ((Nm x0 a0.Kind)-1))),false),(decide ((cnt 0 n0)>0),true)] (getI x1 (w64 ((cnt 0 n0)-1))) default).bind λy1=>(Aw [(!(Bd a0.Number 0 (w64 ((Nm x0 a0.Kind)-1))),false),(decide ((cnt 0 n0)>0),true)] (getI x1 (w64 ((cnt 0 n0)-1))) default).bind λy3=>(Aw [(!(Bd a0.Number 0 (w64 ((Nm x0 a0.Kind)-1))),false),(decide ((cnt 0 n0)>0),true)] (V5 [Js y1.Kind a0.Kind,Js y3.Number a0.Number]) default).bind λy5=>bif (Ap2 x0 n0 a0 y5)then c_ false else b_ ()
def Amk(x0:Ae)(x1:List Aa):Option Bool:=
 andThen (foldI (yA x0 x1) x1 0 ()) some λz0=>some (decide ((x1.length:Int)<=32))
def Wa(x0:An):Bool:=
 ((((Bd x0.State 0 3)&&(Bd x0.Since 0 2147483648))&&(Bd x0.Ax 0 6000))&&(Bd x0.Phase 0 3599))
def Avd(x0:An):Bool:=
 !(Wa x0)
def Ara(n0:Nat)(a0:An)(z0:Unit):a_ Unit Int:=
 bif Avd a0 then c_ (cnt 0 n0) else b_ ()
def Afu(x0:List An):Option Int:=
 andThen (foldI Ara x0 0 ()) some λz0=>some (-1)
def Wb(x0:List An):Option Bool:=
 (Afu x0).bind λy1=>some (decide (y1>=0))
def Ap1(x2:Int)(a0:Ai)(y1:Bool):Bool:=(((a0.Kind==3)&&(a0.B==x2))&&y1)
def Aih(x1:Af)(x2:Int)(n0:Nat)(a0:Ai)(z0:Int):a_ Int Unit:=
 (Aw [(((a0.Kind==3)&&(a0.B==x2)),true)] (getI x1.Al (cnt 0 n0)) default).bind λy1=>bif (Ap1 x2 a0 y1)then b_ (w64 (z0+1)) else b_ z0
def Amj(x0:Ae)(x1:Af)(x2:Int):Option Int:=
 andThen (foldI (Aih x1 x2) x0.Ag 0 0) (λ_=>none) λz0=>some z0
def Ak3(x0:Ae)(x1:Af):Bool:=((((x1.Al.length:Int) != (x0.Ag.length:Int)) || ((x1.Ad.length:Int) != (x0.Ad.length:Int))) || ((x1.A0.length:Int) != (x0.Aj.length:Int)))
def Aqo(x0:Ae)(x1:Af)(n0:Nat)(a0:Int)(z0:Bool):a_ Bool Unit:=
 (Aw [(z0,true)] (getI x0.Aj (cnt 0 n0)) default).bind λy9=>(Aw [((z0&&(Bd a0 0 y9.Load)),true)] (Amj x0 x1 (cnt 0 n0)) default).bind λy11=>b_ ((z0&&(Bd a0 0 y9.Load))&&(decide (y11<=1)))
def F66(x0:Ae)(x1:Af):Option Int:=
 (F91 x0).bind λy1=>bif (y1 != 0)then some y1 else bif (Ak3 x0 x1)then some 8 else (Amk x0 x1.Ao).bind λy5=>(Aw [(y5,true)] (Wb x1.Ad) default).bind λy7=>andThen (foldI (Aqo x0 x1) x1.A0 0 (y5&&(!y7))) (λ_=>none) λz0=>bif !z0 then some 11 else some 0
def Amo(x0:eB):Option eB:=appI 2 [] x0
def Amn(x0:List An):Option (List An):=appI 33 [] x0
def Amm(x0:List Aa):Option (List Aa):=appI 17 [] x0
def F59(x0:Af):Option Af:=
 (Amo x0.Al).bind λy1=>(Amn x0.Ad).bind λy3=>(Yq x0.A0).bind λy5=>(Amm x0.Ao).bind λy7=>some ⟨y1,y3,y5,y7⟩
def I0(x0:Af)(x1:Int)(x2:Int):Option Bool:=
 (Afz x0.Ao ⟨x1,x2⟩).bind λy1=>some y1
def V0(x0:Int)(x1:Int)(x2:Au):Option (Bool×Au):=
 (I0 x2.Ah x0 x1).bind λy1=>some (y1,x2)
def Arm(x0:Au)(x1:Ai):Option (Bool×Au):=
 (V0 3 x1.A x0).bind λy1=>bif y1.1 then some (true,y1.2) else bif (x1.Kind==1)then (V0 3 x1.B y1.2).bind λy5=>some (y5.1,y5.2) else bif (x1.Kind==2)then (V0 1 x1.B y1.2).bind λy8=>(Aw [(y8.1,false)] (getI y8.2.Ah.Ad x1.B) default).bind λy10=>some ((y8.1 || (y10.State != 2)),y8.2) else (V0 4 x1.B y1.2).bind λy12=>some (y12.1,y12.2)
def Z_(x0:Au)(x1:Int):Option Au:=
 (getI x0.Ah.Al x1).bind λy1=>(setI x0.Ah.Al x1 false).bind λy3=>(appI 25 x0.acts [⟨2,x1,0⟩]).bind λy5=>some ⟨x0.Ak,⟨y3,x0.Ah.Ad,x0.Ah.A0,x0.Ah.Ao⟩,y5⟩
def Aah(n0:Nat)(a0:Ai)(z0:Au×ez):a_ (Au×ez) Unit:=
 (getI z0.1.Ah.Al (cnt 0 n0)).bind λy1=>(Aw [(y1,true)] (Arm z0.1 a0) (default,z0.1)).bind λy3=>bif (y1&&y3.1)then (appI 9 z0.2 [cnt 0 n0]).bind λy6=>b_ (y3.2,y6) else b_ (y3.2,z0.2)
def Arr(n1:Nat)(a1:Int)(z1:Au):a_ Au Unit:=
 (Z_ z1 a1).bind λy8=>b_ y8
def qB(x0:Au):Option Au:=
 andThen (foldI Aah x0.Ak.Ag 0 (x0,[])) (λ_=>none) λz0=>andThen (foldI Arr z0.2 0 z0.1) (λ_=>none) λz1=>some z1
def Ah4(n0:Nat)(a0:Int)(z0:ez):a_ (ez) Unit:=
 (getI z0 (cnt 0 n0)).bind λy3=>(setI z0 (cnt 0 n0) (cnt 0 n0)).bind λy5=>b_ y5
def vS(x1:Af)(n2:Nat)(a2:Ai)(z2:ez):a_ (ez) Unit:=
 (Aw [((a2.Kind==1),true)] (getI x1.Al (cnt 0 n2)) default).bind λy7=>bif ((a2.Kind==1)&&y7)then (getI z2 a2.A).bind λy10=>(getI z2 a2.B).bind λy12=>(setI z2 a2.A (min y10 y12)).bind λy14=>(getI y14 a2.B).bind λy16=>(setI y14 a2.B (min y10 y12)).bind λy18=>b_ y18 else b_ z2
def Ah3(x0:Ae)(x1:Af)(n1:Nat)(a1:Int)(z1:ez):a_ (ez) Unit:=
 andThen (foldI (vS x1) x0.Ag 0 z1) (λ_=>none) λz2=>b_ z2
def Afe(x0:Ae)(x1:Af):Option (ez):=
 (mkI 9 x0.Ap 0).bind λy1=>andThen (foldI Ah4 y1 0 y1) (λ_=>none) λz0=>andThen (foldI (Ah3 x0 x1) z0 0 z0) (λ_=>none) λz1=>some z1
def Apq(x2:Int)(x3:Int)(a0:Ai)(y1:Bool):Bool:=(((a0.Kind==x2)&&(a0.B==x3))&&y1)
def vQ(x1:Af)(x2:Int)(x3:Int)(n0:Nat)(a0:Ai)(z0:Unit):a_ Unit (Int×Bool):=
 (Aw [(((a0.Kind==x2)&&(a0.B==x3)),true)] (getI x1.Al (cnt 0 n0)) default).bind λy1=>bif (Apq x2 x3 a0 y1)then c_ (a0.A,true) else b_ ()
def Afa(x0:Ae)(x1:Af)(x2:Int)(x3:Int):Option (Int×Bool):=
 andThen (foldI (vQ x1 x2 x3) x0.Ag 0 ()) some λz0=>some (0,false)
def Zy(x1:Af)(x2:Int)(y1:An):Bool:=((!(Bd x2 0 (w64 ((x1.Ad.length:Int)-1)))) || (y1.State != 2))
def vR(x0:Ae)(x1:Af)(x2:Int):Option (Int×Bool):=
 (Aw [(!(Bd x2 0 (w64 ((x1.Ad.length:Int)-1))),false)] (getI x1.Ad x2) default).bind λy1=>bif (Zy x1 x2 y1)then some (0,false) else (Afa x0 x1 2 x2).bind λy4=>some (y4.1,y4.2)
def vU(x0:Ae)(x1:Af)(x2:Int):Option (Int×Bool):=
 (Afa x0 x1 3 x2).bind λy1=>some (y1.1,y1.2)
def Alv(x0:Aq):Bool:=
 ((x0.Ap.length:Int)==0)
def Aqw(n0:Nat)(a0:Aq)(z0:Unit):a_ Unit Int:=
 bif Alv a0 then c_ (cnt 0 n0) else b_ ()
def Z8(x0:List Aq):Option Int:=
 andThen (foldI Aqw x0 0 ()) some λz0=>some (-1)
def Ad9(z0:Int×Int×(List Aq)):Bool:=decide (z0.2.1<(z0.2.2.length:Int))
def Vz(z0:Int×Int×(List Aq)):a_ (Int×Int×(List Aq)) Unit:=
 bif (Ad9 z0)then (getI z0.2.2 z0.2.1).bind λy5=>bif !(Alv y5)then (getI z0.2.2 z0.1).bind λy8=>(setI z0.2.2 z0.1 y5).bind λy10=>b_ (w64 (z0.1+1),w64 (z0.2.1+1),y10) else b_ (z0.1,w64 (z0.2.1+1),z0.2.2) else dX (z0.1,z0.2.1,z0.2.2)
def Ro(x0:List Aq):Option ((List Aq)):=
 (Z8 x0).bind λy1=>bif (y1==(-1))then some x0 else andThen (whileN Vz 1152921504606846976 (y1,w64 (y1+1),x0)) (λ_=>none) λz0=>(bndI z0.2.2.length z0.1 (z0.2.2.length:Int)).bind λu13=>(bndI (Iy z0.2.2 (Int.toNat z0.1) ((Int.toNat (z0.2.2.length:Int))-(Int.toNat z0.1)) ⟨[],[],[]⟩).length 0 z0.1).bind λu15=>some ((Iy z0.2.2 (Int.toNat z0.1) ((Int.toNat (z0.2.2.length:Int))-(Int.toNat z0.1)) ⟨[],[],[]⟩).take ((Int.toNat z0.1)-0))
def Ah8(n0:Nat)(a0:Int)(z0:(List Aq)):a_ ((List Aq)) Unit:=
 (getI z0 a0).bind λy8=>(appI 9 y8.Ap [cnt 0 n0]).bind λy10=>(setI z0 a0 ⟨y10,y8.Ad,y8.Aj⟩).bind λy12=>b_ y12
def Apu(x0:Ae)(z1:Int×(List Aq)):Bool:=decide (z1.1<(x0.Ad.length:Int))
def Ah7(x0:Ae)(x1:Af)(y4:ez)(z1:Int×(List Aq)):a_ (Int×(List Aq)) Unit:=
 bif (Apu x0 z1)then (vR x0 x1 z1.1).bind λy15=>bif y15.2 then (getI y4 y15.1).bind λy18=>(getI z1.2 y18).bind λy20=>(appI 9 y20.Ad [z1.1]).bind λy22=>(setI z1.2 y18 ⟨y20.Ap,y22,y20.Aj⟩).bind λy24=>b_ (w64 (z1.1+1),y24) else b_ (w64 (z1.1+1),z1.2) else dX (z1.1,z1.2)
def Apt(x0:Ae)(z2:Int×(List Aq)):Bool:=decide (z2.1<(x0.Aj.length:Int))
def Ah6(x0:Ae)(x1:Af)(y4:ez)(z2:Int×(List Aq)):a_ (Int×(List Aq)) Unit:=
 bif (Apt x0 z2)then (vU x0 x1 z2.1).bind λy27=>bif y27.2 then (getI y4 y27.1).bind λy30=>(getI z2.2 y30).bind λy32=>(appI 9 y32.Aj [z2.1]).bind λy34=>(setI z2.2 y30 ⟨y32.Ap,y32.Ad,y34⟩).bind λy36=>b_ (w64 (z2.1+1),y36) else b_ (w64 (z2.1+1),z2.2) else dX (z2.1,z2.2)
def Af0(x0:Ae)(x1:Af):Option ((List Aq)):=
 (F66 x0 x1).bind λy1=>bif (y1 != 0)then some [] else (Afe x0 x1).bind λy4=>(mkI 73 x0.Ap ⟨[],[],[]⟩).bind λy6=>andThen (foldI Ah8 y4 0 y6) (λ_=>none) λz0=>andThen (whileN (Ah7 x0 x1 y4) 1152921504606846976 (0,z0)) (λ_=>none) λz1=>andThen (whileN (Ah6 x0 x1 y4) 1152921504606846976 (0,z1.2)) (λ_=>none) λz2=>(Ro z2.2).bind λy38=>some y38
def Od(x2:Int)(n0:Nat)(a0:Aq)(z0:Unit):a_ Unit (Aq×Bool):=
 (V7 a0.Ap x2).bind λy3=>bif y3 then c_ (a0,true) else b_ ()
def Kt(x0:Ae)(x1:Af)(x2:Int):Option (Aq×Bool):=
 (Af0 x0 x1).bind λy1=>andThen (foldI (Od x2) y1 0 ()) some λz0=>some (⟨[],[],[]⟩,false)
def Ys(x0:Ae)(x1:Af)(x2:Int):Option Bool:=
 (Kt x0 x1 x2).bind λy1=>some (decide ((y1.1.Ad.length:Int)>0))
def Arl(x0:Ai)(x1:Au):Option (Bool×Au):=
 (Aw [((x0.Kind==3),true)] (Ys x1.Ak x1.Ah x0.A) default).bind λy1=>some (((x0.Kind==3)&&(!y1)),x1)
def Aag(n0:Nat)(a0:Ai)(z0:Au×ez):a_ (Au×ez) Unit:=
 (getI z0.1.Ah.Al (cnt 0 n0)).bind λy1=>(Aw [(y1,true)] (Arl a0 z0.1) (default,z0.1)).bind λy3=>bif (y1&&y3.1)then (appI 9 z0.2 [cnt 0 n0]).bind λy6=>b_ (y3.2,y6) else b_ (y3.2,z0.2)
def Arq(n1:Nat)(a1:Int)(z1:Au):a_ Au Unit:=
 (Z_ z1 a1).bind λy8=>b_ y8
def qA(x0:Au):Option Au:=
 andThen (foldI Aag x0.Ak.Ag 0 (x0,[])) (λ_=>none) λz0=>andThen (foldI Arq z0.2 0 z0.1) (λ_=>none) λz1=>some z1
def Aaa(x2:An)(n0:Nat)(a0:Int)(z0:(List An)):a_ ((List An)) Unit:=
 (getI z0 a0).bind λy1=>(setI z0 a0 ⟨y1.State,y1.Since,x2.Ax,y1.Phase⟩).bind λy3=>(getI y3 a0).bind λy5=>(setI y3 a0 ⟨y5.State,y5.Since,y5.Ax,x2.Phase⟩).bind λy7=>b_ y7
def Rt(x0:Af)(x1:ez)(x2:An):Option ((List An)):=
 andThen (foldI (Aaa x2) x1 0 x0.Ad) (λ_=>none) λz0=>some z0
def Apv(a0:Aq):Bool:=decide ((a0.Ad.length:Int)>0)
def Ah9(x1:Af)(y4:Af)(n0:Nat)(a0:Aq)(z0:(List An)):a_ ((List An)) Unit:=
 bif (Apv a0)then (getI a0.Ad 0).bind λy9=>(getI x1.Ad y9).bind λy11=>(Rt ⟨y4.Al,z0,y4.A0,y4.Ao⟩ a0.Ad y11).bind λy13=>b_ y13 else b_ z0
def Af1(x0:Ae)(x1:Af):Option (Af×Int):=
 (F66 x0 x1).bind λy1=>bif (y1 != 0)then some (⟨[],[],[],[]⟩,y1) else (F59 x1).bind λy4=>(Af0 x0 x1).bind λy6=>andThen (foldI (Ah9 x1 y4) y6 0 y4.Ad) (λ_=>none) λz0=>some (⟨y4.Al,z0,y4.A0,y4.Ao⟩,0)
def Agj(x0:Au):Option Au:=
 (qB x0).bind λy1=>(qA y1).bind λy3=>(Af1 y3.Ak y3.Ah).bind λy5=>some ⟨y3.Ak,y5.1,y3.acts⟩
def Afv(x0:Int)(x1:Int)(x2:Ae):Option Int:=
 (getI x2.Aj x0).bind λy1=>(getI x2.Aj x1).bind λy3=>some (Js y1.Dk y3.Dk)
def Aud(x1:Int)(z1:Int×ez)(y12:Int):Bool:=((decide (z1.1>x1))&&(decide (y12<0)))
def Vw(x1:Int)(x3c0:Ae)(z1:Int×ez):a_ (Int×ez) Unit:=
 (Aw [(decide (z1.1>x1),true)] (getI z1.2 z1.1) default).bind λy8=>(Aw [(decide (z1.1>x1),true)] (getI z1.2 (w64 (z1.1-1))) default).bind λy10=>(Aw [(decide (z1.1>x1),true)] (Afv y8 y10 x3c0) default).bind λy12=>bif (Aud x1 z1 y12)then (getI z1.2 (w64 (z1.1-1))).bind λy15=>(getI z1.2 z1.1).bind λy17=>(setI z1.2 z1.1 y15).bind λy19=>(getI y19 (w64 (z1.1-1))).bind λy21=>(setI y19 (w64 (z1.1-1)) y17).bind λy23=>b_ (w64 (z1.1-1),y23) else dX (z1.1,z1.2)
def zS(x1:Int)(x2:Int)(x3c0:Ae)(z0:Int×ez):a_ (Int×ez) Unit:=
 bif decide (z0.1<x2)then andThen (whileN (Vw x1 x3c0) 1152921504606846976 (z0.1,z0.2)) (λ_=>none) λz1=>b_ (w64 (z0.1+1),z1.2) else dX (z0.1,z0.2)
def Z7(x0:ez)(x1:Int)(x2:Int)(x3c0:Ae):Option (ez×Ae):=
 andThen (whileN (zS x1 x2 x3c0) 1152921504606846976 (w64 (x1+1),x0)) (λ_=>none) λz0=>some (z0.2,x3c0)
def zY(x1:Int)(z0:Int×Int×ez×Int×(List Ai)×(List Ca)×(List Bb)×Int×Int):a_ (Int×Int×ez×Int×(List Ai)×(List Ca)×(List Bb)×Int×Int) Unit:=
 bif decide (z0.2.1<=x1)then (Z7 z0.2.2.1 z0.1 z0.2.1 ⟨z0.2.2.2.1,z0.2.2.2.2.1,z0.2.2.2.2.2.1,z0.2.2.2.2.2.2.1,z0.2.2.2.2.2.2.2.1,z0.2.2.2.2.2.2.2.2⟩).bind λy2=>b_ (z0.2.1,w64 (z0.2.1+20),y2.1,y2.2.Ap,y2.2.Ag,y2.2.Ad,y2.2.Aj,y2.2.Phase,y2.2.Ax) else dX (z0.1,z0.2.1,z0.2.2.1,z0.2.2.2.1,z0.2.2.2.2.1,z0.2.2.2.2.2.1,z0.2.2.2.2.2.2.1,z0.2.2.2.2.2.2.2.1,z0.2.2.2.2.2.2.2.2)
def zX(x1:Int)(z1:Unit):a_ Unit Unit:=
 bif decide (20<x1)then none else dX ()
def Afb(x0:ez)(x1:Int)(x2c0:Ae):Option (ez×Ae):=
 andThen (whileN (zY x1) 1152921504606846976 (0,20,x0,x2c0.Ap,x2c0.Ag,x2c0.Ad,x2c0.Aj,x2c0.Phase,x2c0.Ax)) (λ_=>none) λz0=>(Z7 z0.2.2.1 z0.1 x1 ⟨z0.2.2.2.1,z0.2.2.2.2.1,z0.2.2.2.2.2.1,z0.2.2.2.2.2.2.1,z0.2.2.2.2.2.2.2.1,z0.2.2.2.2.2.2.2.2⟩).bind λy4=>andThen (whileN (zX x1) 1152921504606846976 ()) (λ_=>none) λz1=>some (y4.1,y4.2)
def Afw(x0:ez)(x1c0:Ae):Option (ez×Ae):=
 (Afb x0 (x0.length:Int) x1c0).bind λy1=>some (y1.1,y1.2)
def Ap3(x0:Ae)(z0:Int×ez):Bool:=decide (z0.1<(x0.Aj.length:Int))
def Aik(x0:Ae)(z0:Int×ez):a_ (Int×ez) Unit:=
 bif (Ap3 x0 z0)then (appI 9 z0.2 [z0.1]).bind λy5=>b_ (w64 (z0.1+1),y5) else dX (z0.1,z0.2)
def Yp(x0:Ae):Option (ez):=
 (F91 x0).bind λy1=>bif (y1 != 0)then some [] else andThen (whileN (Aik x0) 1152921504606846976 (0,[])) (λ_=>none) λz0=>(Afw z0.2 x0).bind λy7=>some y7.1
def V8(x0:Int)(x1:Aq):Option Bool:=
 (V7 x1.Aj x0).bind λy1=>some (!y1)
def zZ(x1c0:Aq)(n0:Nat)(a0:Int)(z0:Unit):a_ Unit (Int×Aq):=
 (V8 a0 x1c0).bind λy1=>bif y1 then c_ (cnt 0 n0,x1c0) else b_ ()
def Afd(x0:ez)(x1c0:Aq):Option (Int×Aq):=
 andThen (foldI (zZ x1c0) x0 0 ()) some λz0=>some ((-1),x1c0)
def Aec(z0:Int×Int×ez):Bool:=decide (z0.2.1<(z0.2.2.length:Int))
def V9(y1:Int×Aq)(z0:Int×Int×ez):a_ (Int×Int×ez) Unit:=
 bif (Aec z0)then (getI z0.2.2 z0.2.1).bind λy5=>(V8 y5 y1.2).bind λy7=>bif !y7 then (getI z0.2.2 z0.1).bind λy10=>(setI z0.2.2 z0.1 y5).bind λy12=>b_ (w64 (z0.1+1),w64 (z0.2.1+1),y12) else b_ (z0.1,w64 (z0.2.1+1),z0.2.2) else dX (z0.1,z0.2.1,z0.2.2)
def V_(x0:ez)(x1c0:Aq):Option (ez×Aq):=
 (Afd x0 x1c0).bind λy1=>bif (y1.1==(-1))then some (x0,y1.2) else andThen (whileN (V9 y1) 1152921504606846976 (y1.1,w64 (y1.1+1),x0)) (λ_=>none) λz0=>(bndI z0.2.2.length z0.1 (z0.2.2.length:Int)).bind λu15=>(bndI (Iy z0.2.2 (Int.toNat z0.1) ((Int.toNat (z0.2.2.length:Int))-(Int.toNat z0.1)) 0).length 0 z0.1).bind λu17=>some (((Iy z0.2.2 (Int.toNat z0.1) ((Int.toNat (z0.2.2.length:Int))-(Int.toNat z0.1)) 0).take ((Int.toNat z0.1)-0)),y1.2)
def Aij(x1:Af)(y1:Aq×Bool)(n0:Nat)(a0:Int)(z0:Int):a_ Int Unit:=
 bif decide ((y1.1.Ad.length:Int)>0)then (getI x1.A0 a0).bind λy4=>b_ (w64 (z0+y4)) else b_ z0
def Age(x0:Ae)(x1:Af)(x2:Int):Option Int:=
 (Kt x0 x1 x2).bind λy1=>andThen (foldI (Aij x1 y1) y1.1.Aj 0 0) (λ_=>none) λz0=>some z0
def Aii(x0:Ae)(n0:Nat)(a0:Int)(z0:Int):a_ Int Unit:=
 (getI x0.Ad a0).bind λy3=>b_ (w64 (z0+y3.Rating))
def Agd(x0:Ae)(x1:Af)(x2:Int):Option Int:=
 (Kt x0 x1 x2).bind λy1=>andThen (foldI (Aii x0) y1.1.Ad 0 0) (λ_=>none) λz0=>some z0
def Afc(x0:Au)(x1:Int):Option Int:=
 (Age x0.Ak x0.Ah x1).bind λy1=>(Agd x0.Ak x0.Ah x1).bind λy3=>some (max 0 (w64 (y1-y3)))
def Ark(n0:Nat)(a0:Int)(z0:(List Aq)):a_ ((List Aq)) Unit:=
 (getI z0 a0).bind λy8=>(appI 9 y8.Ap [cnt 0 n0]).bind λy10=>(setI z0 a0 ⟨y10,y8.Ad,y8.Aj⟩).bind λy12=>b_ y12
def Auk(x0:Ae)(z1:Int×(List Aq)):Bool:=decide (z1.1<(x0.Ad.length:Int))
def Arj(x0:Ae)(x1:Af)(y4:ez)(z1:Int×(List Aq)):a_ (Int×(List Aq)) Unit:=
 bif (Auk x0 z1)then (vR x0 x1 z1.1).bind λy15=>bif y15.2 then (getI y4 y15.1).bind λy18=>(getI z1.2 y18).bind λy20=>(appI 9 y20.Ad [z1.1]).bind λy22=>(setI z1.2 y18 ⟨y20.Ap,y22,y20.Aj⟩).bind λy24=>b_ (w64 (z1.1+1),y24) else b_ (w64 (z1.1+1),z1.2) else dX (z1.1,z1.2)
def Auj(x0:Ae)(z2:Int×(List Aq)):Bool:=decide (z2.1<(x0.Aj.length:Int))
def Ari(x0:Ae)(x1:Af)(y4:ez)(z2:Int×(List Aq)):a_ (Int×(List Aq)) Unit:=
 bif (Auj x0 z2)then (vU x0 x1 z2.1).bind λy27=>bif y27.2 then (getI y4 y27.1).bind λy30=>(getI z2.2 y30).bind λy32=>(appI 9 y32.Aj [z2.1]).bind λy34=>(setI z2.2 y30 ⟨y32.Ap,y32.Ad,y34⟩).bind λy36=>b_ (w64 (z2.1+1),y36) else b_ (w64 (z2.1+1),z2.2) else dX (z2.1,z2.2)
def jV(x0:Ae)(x1:Af):Option ((List Aq)):=
 (F66 x0 x1).bind λy1=>bif (y1 != 0)then some [] else (Afe x0 x1).bind λy4=>(mkI 73 x0.Ap ⟨[],[],[]⟩).bind λy6=>andThen (foldI Ark y4 0 y6) (λ_=>none) λz0=>andThen (whileN (Arj x0 x1 y4) 1152921504606846976 (0,z0)) (λ_=>none) λz1=>andThen (whileN (Ari x0 x1 y4) 1152921504606846976 (0,z1.2)) (λ_=>none) λz2=>(Ro z2.2).bind λy38=>some y38
def Aui(y1:Int)(y3:Int)(y5:Bb):Bool:=decide ((min y1 (w64 (y3-y5.Least)))>0)
def Arf(x2:Int)(n0:Nat)(a0:Int)(z0:Au):a_ Au Unit:=
 (Afc z0 x2).bind λy1=>(getI z0.Ah.A0 a0).bind λy3=>(getI z0.Ak.Aj a0).bind λy5=>bif (Aui y1 y3 y5)then (setI z0.Ah.A0 a0 (w64 (y3-(min y1 (w64 (y3-y5.Least)))))).bind λy8=>(getI y8 a0).bind λy10=>(appI 25 z0.acts [⟨5,a0,y10⟩]).bind λy12=>b_ ⟨z0.Ak,⟨z0.Ah.Al,z0.Ah.Ad,y8,z0.Ah.Ao⟩,y12⟩ else b_ z0
def Arh(x0:Au)(x1:ez)(x2:Int):Option Au:=
 andThen (foldI (Arf x2) x1 0 x0) (λ_=>none) λz0=>some z0
def Aq3(x0:Ai)(x1:Int):Bool:=
 ((x0.Kind==3)&&(x0.B==x1))
def Aro(x0:Au)(x1c0:Int)(n0:Nat)(a0:Ai)(z0:ez):a_ (ez) Unit:=
 (getI x0.Ah.Al (cnt 0 n0)).bind λy1=>bif (y1&&(Aq3 a0 x1c0))then (appI 9 z0 [cnt 0 n0]).bind λy4=>b_ y4 else b_ z0
def Arn(n1:Nat)(a1:Int)(z1:Au):a_ Au Unit:=
 (Z_ z1 a1).bind λy6=>b_ y6
def Arp(x0:Au)(x1c0:Int):Option (Au×Int):=
 andThen (foldI (Aro x0 x1c0) x0.Ak.Ag 0 []) (λ_=>none) λz0=>andThen (foldI Arn z0 0 x0) (λ_=>none) λz1=>some (z1,x1c0)
def Ard(x2:Int)(n0:Nat)(a0:Int)(z0:Au):a_ Au Unit:=
 (getI z0.Ah.A0 a0).bind λy1=>(Aw [(decide (y1>0),true)] (Afc z0 x2) default).bind λy3=>bif ((decide (y1>0))&&(decide (y3>0)))then (Arp z0 a0).bind λy6=>b_ y6.1 else b_ z0
def Are(x0:Au)(x1:ez)(x2:Int):Option Au:=
 andThen (foldI (Ard x2) x1 0 x0) (λ_=>none) λz0=>some z0
def Aal(y1:ez)(n0:Nat)(a0:Aq)(z0:Au):a_ Au Unit:=
 (Yq y1).bind λy5=>(V_ y5 a0).bind λy7=>bif decide ((y7.2.Ad.length:Int)>0)then (getI y7.2.Ap 0).bind λy10=>(Arh z0 y7.1 y10).bind λy12=>(getI y7.2.Ap 0).bind λy14=>(Are y12 y7.1 y14).bind λy16=>b_ y16 else b_ z0
def Agi(x0:Au):Option Au:=
 (Yp x0.Ak).bind λy1=>(jV x0.Ak x0.Ah).bind λy3=>andThen (foldI (Aal y1) y3 0 x0) (λ_=>none) λz0=>some z0
def Agk(x0:Au):Option Au:=
 (Agj x0).bind λy1=>(Agi y1).bind λy3=>some y3
def Agl(x0:Ae)(x1:Af):Option (Af×(List Be)×Int):=
 (F66 x0 x1).bind λy1=>bif (y1 != 0)then some (⟨[],[],[],[]⟩,[],y1) else (F59 x1).bind λy4=>(Agk ⟨x0,y4,[]⟩).bind λy6=>some (y6.Ah,y6.acts,0)
def F53(x0:Ae)(x1:Af):Option (Af×(List Be)×Int):=
 (Agl x0 x1).bind λy1=>some (y1.1,y1.2.1,y1.2.2)
def A24(x1:eB)(n0:Nat)(a0:Bool)(z0:Unit):a_ Unit Bool:=
 (getI x1 (cnt 0 n0)).bind λy2=>bif !(a0==y2)then c_ false else b_ ()
def Avg(x0:eB)(x1:eB):Option Bool:=
 bif ((x0.length:Int) != (x1.length:Int))then some false else andThen (foldI (A24 x1) x0 0 ()) some λz0=>some true
def Ap7(a0:An)(y2:An):Bool:=!((a0.State==y2.State)&&((a0.Since==y2.Since)&&((a0.Ax==y2.Ax)&&((a0.Phase==y2.Phase)&&true))))
def Aiq(x1:List An)(n0:Nat)(a0:An)(z0:Unit):a_ Unit Bool:=
 (getI x1 (cnt 0 n0)).bind λy2=>bif (Ap7 a0 y2)then c_ false else b_ ()
def Agh(x0:List An)(x1:List An):Option Bool:=
 bif ((x0.length:Int) != (x1.length:Int))then some false else andThen (foldI (Aiq x1) x0 0 ()) some λz0=>some true
def A23(x1:ez)(n0:Nat)(a0:Int)(z0:Unit):a_ Unit Bool:=
 (getI x1 (cnt 0 n0)).bind λy2=>bif (a0 != y2)then c_ false else b_ ()
def Avf(x0:ez)(x1:ez):Option Bool:=
 bif ((x0.length:Int) != (x1.length:Int))then some false else andThen (foldI (A23 x1) x0 0 ()) some λz0=>some true
def Ap6(a0:Aa)(y2:Aa):Bool:=!((a0.Kind==y2.Kind)&&((a0.Number==y2.Number)&&true))
def Aip(x1:List Aa)(n0:Nat)(a0:Aa)(z0:Unit):a_ Unit Bool:=
 (getI x1 (cnt 0 n0)).bind λy2=>bif (Ap6 a0 y2)then c_ false else b_ ()
def Agg(x0:List Aa)(x1:List Aa):Option Bool:=
 bif ((x0.length:Int) != (x1.length:Int))then some false else andThen (foldI (Aip x1) x0 0 ()) some λz0=>some true
def F54(x0:Af)(x1:Af):Option Bool:=
 (Avg x0.Al x1.Al).bind λy1=>(Aw [(y1,true)] (Agh x0.Ad x1.Ad) default).bind λy3=>(Aw [((y1&&y3),true)] (Avf x0.A0 x1.A0) default).bind λy5=>(Aw [(((y1&&y3)&&y5),true)] (Agg x0.Ao x1.Ao) default).bind λy7=>some (((y1&&y3)&&y5)&&y7)
def A8y(a0:Ai)(y1:Bool)(y3:Bool)(y5:Bool):Bool:=((((a0.Kind==1)&&y1)&&y3)&&(!y5))
def Aqs(x0:Ae)(x1:Af)(n0:Nat)(a0:Ai)(z0:Unit):a_ Unit Bool:=
 (Aw [((a0.Kind==1),true)] (getI x1.Al (cnt 0 n0)) default).bind λy1=>(Aw [(((a0.Kind==1)&&y1),true)] (I0 x1 2 (cnt 0 n0)) default).bind λy3=>(Aw [((((a0.Kind==1)&&y1)&&y3),true)] (Ys x0 x1 a0.A) default).bind λy5=>bif (A8y a0 y1 y3 y5)then c_ true else b_ ()
def F55(x0:Ae)(x1:Af):Option Bool:=
 andThen (foldI (Aqs x0 x1) x0.Ag 0 ()) some λz0=>some false
def Afx(x0:Ai)(x1:Int):Bool:=
 ((x0.Kind==2)&&(x0.B==x1))
def V6(x1c0:Int)(n0:Nat)(a0:Ai)(z0:Unit):a_ Unit (Int×Int):=
 bif Afx a0 x1c0 then c_ (cnt 0 n0,x1c0) else b_ ()
def Afy(x0:List Ai)(x1c0:Int):Option (Int×Int):=
 andThen (foldI (V6 x1c0) x0 0 ()) some λz0=>some ((-1),x1c0)
def Tu(x0:Ae)(x1:Int):Option Int:=
 (Afy x0.Ag x1).bind λy1=>some y1.1
def Yr(x0:Ae)(x1:Af)(x2:Int):Option Bool:=
 (getI x0.Ag x2).bind λy1=>(I0 x1 2 x2).bind λy3=>(Aw [(!y3,true)] (I0 x1 3 y1.A) default).bind λy5=>(Aw [(((!y3)&&(!y5)),true),((y1.Kind != 1),false)] (I0 x1 3 y1.B) default).bind λy7=>some (((!y3)&&(!y5))&&((y1.Kind != 1) || (!y7)))
def yB(x0:Ae)(x1:Af)(x2:Int):Option Bool:=
 (Tu x0 x2).bind λy1=>(Yr x0 x1 y1).bind λy3=>(Aw [(y3,true)] (I0 x1 1 x2) default).bind λy5=>(Aw [((y3&&(!y5)),true)] (getI x1.Ad x2) default).bind λy7=>some ((y3&&(!y5))&&(y7.State != 3))
def A0q(x0:Ae)(z0:Int×eB):Bool:=decide (z0.1<(x0.Ad.length:Int))
def Aqr(x0:Ae)(x1:Af)(z0:Int×eB):a_ (Int×eB) Unit:=
 bif (A0q x0 z0)then (yB x0 x1 z0.1).bind λy7=>bif y7 then (Tu x0 z0.1).bind λy10=>(getI x0.Ag y10).bind λy12=>(getI z0.2 y12.A).bind λy14=>(setI z0.2 y12.A true).bind λy16=>b_ (w64 (z0.1+1),y16) else b_ (w64 (z0.1+1),z0.2) else dX (z0.1,z0.2)
def Ae1(x0:Ae)(x1:Af)(n2:Nat)(a2:Ai)(z2:eB):a_ (eB) Unit:=
 (Aw [((a2.Kind==1),true)] (Yr x0 x1 (cnt 0 n2)) default).bind λy19=>bif ((a2.Kind==1)&&y19)then (getI z2 a2.A).bind λy22=>(Aw [(y22,false)] (getI z2 a2.B) default).bind λy24=>(setI z2 a2.A (y22 || y24)).bind λy26=>(getI y26 a2.B).bind λy28=>(setI y26 a2.B (y22 || y24)).bind λy30=>b_ y30 else b_ z2
def Aqq(x0:Ae)(x1:Af)(z1:Int×eB):a_ (Int×eB) Unit:=
 bif decide (z1.1<x0.Ap)then andThen (foldI (Ae1 x0 x1) x0.Ag 0 z1.2) (λ_=>none) λz2=>b_ (w64 (z1.1+1),z2) else dX (z1.1,z1.2)
def F57(x0:Ae)(x1:Af):Option (eB):=
 (F66 x0 x1).bind λy1=>bif (y1 != 0)then some [] else (mkI 2 x0.Ap false).bind λy4=>andThen (whileN (Aqr x0 x1) 1152921504606846976 (0,y4)) (λ_=>none) λz0=>andThen (whileN (Aqq x0 x1) 1152921504606846976 (0,z0.2)) (λ_=>none) λz1=>some z1.2
def Aio(x1:Bool)(n0:Nat)(a0:Bool)(z0:Unit):a_ Unit Int:=
 bif (x1==a0)then c_ (cnt 0 n0) else b_ ()
def Ave(x0:eB)(x1:Bool):Option Int:=
 andThen (foldI (Aio x1) x0 0 ()) some λz0=>some (-1)
def F56(x0:eB)(x1:Bool):Option Bool:=
 (Ave x0 x1).bind λy1=>some (decide (y1>=0))
def Aqp(x0:Ae)(x1:Af)(n0:Nat)(a0:Bool)(z0:Unit):a_ Unit Bool:=
 (Aw [(a0,true)] (Ys x0 x1 (cnt 0 n0)) default).bind λy3=>bif (a0&&(!y3))then c_ false else b_ ()
def F58(x0:Ae)(x1:Af):Option Bool:=
 (F57 x0 x1).bind λy1=>andThen (foldI (Aqp x0 x1) y1 0 ()) some λz0=>(F66 x0 x1).bind λy6=>some (y6==0)
def Lh(x0:Av)(x1:Int):Option Bool:=
 (Ys x0.Ak x0.Ah x1).bind λy1=>some y1
def P2(x0:Av)(x1:Int)(x2:Int):Option Av:=
 (appI 25 x0.acts [⟨x1,x2,0⟩]).bind λy1=>(getI x0.Ah.Al x2).bind λy3=>(setI x0.Ah.Al x2 (x1==1)).bind λy5=>some ⟨x0.Ak,⟨y5,x0.Ah.Ad,x0.Ah.A0,x0.Ah.Ao⟩,x0.goal,y1⟩
def Ahq(a0:Ai)(y1:Bool)(y3:Bool)(y5:Bool):Bool:=((((a0.Kind != 2)&&y1)&&(!y3))&&(!y5))
def Ae0(x0:Av)(n0:Nat)(a0:Ai)(z0:ez):a_ (ez) Unit:=
 (Aw [((a0.Kind != 2),true)] (getI x0.Ah.Al (cnt 0 n0)) default).bind λy1=>(Aw [(((a0.Kind != 2)&&y1),true)] (I0 x0.Ah 2 (cnt 0 n0)) default).bind λy3=>(Aw [((((a0.Kind != 2)&&y1)&&(!y3)),true)] (Lh x0 a0.A) default).bind λy5=>bif (Ahq a0 y1 y3 y5)then (appI 9 z0 [cnt 0 n0]).bind λy8=>b_ y8 else b_ z0
def Au6(n1:Nat)(a1:Int)(z1:Av):a_ Av Unit:=
 (P2 z1 2 a1).bind λy10=>b_ y10
def Abl(x0:Av):Option Av:=
 andThen (foldI (Ae0 x0) x0.Ak.Ag 0 []) (λ_=>none) λz0=>andThen (foldI Au6 z0 0 x0) (λ_=>none) λz1=>some z1
def Aim(x1:Int):a_ Unit Unit:=
 bif decide (x1<0)then none else b_ ()
def Ap5(x0:List Be)(x1:Int):Bool:=((decide (((H8 (IntKind.wrap .u64 (x0.length:Int)) (IntKind.wrap .u64 x1)).1)>0)) || (decide (((H8 (IntKind.wrap .u64 (x0.length:Int)) (IntKind.wrap .u64 x1)).2)>9223372036854775807)))
def Ail(x0:List Be)(x1:Int):a_ Unit Unit:=
 bif (Ap5 x0 x1)then none else b_ ()
def Ap4(z2:Int×(List Be)):Bool:=decide (z2.1<(z2.2.length:Int))
def Ain(z2:Int×(List Be)):a_ (Int×(List Be)) Unit:=
 bif (Ap4 z2)then (bndI z2.2.length z2.1 (z2.2.length:Int)).bind λu7=>(bndI z2.2.length 0 z2.1).bind λu9=>b_ (w64 (z2.1+((Nat.min ((z2.2.drop 0).take ((Int.toNat z2.1)-0)).length ((Int.toNat (z2.2.length:Int))-(Int.toNat z2.1))):Int)),(J8 z2.2 (Int.toNat z2.1) ((Int.toNat (z2.2.length:Int))-(Int.toNat z2.1)) ((z2.2.drop 0).take ((Int.toNat z2.1)-0)))) else dX (z2.1,z2.2)
def Aml(x0:List Be)(x1:Int):Option ((List Be)):=
 andThen (Aim x1) (λ_=>none) λz0=>andThen (Ail x0 x1) (λ_=>none) λz1=>(mkI 25 (w64 ((H8 (IntKind.wrap .u64 (x0.length:Int)) (IntKind.wrap .u64 x1)).2)) ⟨0,0,0⟩).bind λy3=>andThen (whileN Ain 1152921504606846976 (((Nat.min x0.length y3.length):Int),(J8 y3 0 y3.length x0))) (λ_=>none) λz2=>some z2.2
def Aez(n0:Nat)(a0:An)(z0:Int×Av):a_ (Int×Av) Unit:=
 (getI z0.2.Ah.Ad (cnt 0 n0)).bind λy1=>(yB z0.2.Ak z0.2.Ah (cnt 0 n0)).bind λy3=>(Aw [(!y3,false)] (Tu z0.2.Ak (cnt 0 n0)) default).bind λy5=>(Aw [(!y3,false)] (getI z0.2.Ak.Ag y5) default).bind λy7=>(Aw [(!y3,false)] (Lh z0.2 y7.A) default).bind λy9=>bif ((!y3) || y9)then b_ (z0.1,z0.2) else bif (y1.State==0)then (appI 25 z0.2.acts [⟨3,cnt 0 n0,0⟩]).bind λy13=>(getI z0.2.Ak.Ad (cnt 0 n0)).bind λy15=>(setI z0.2.Ah.Ad (cnt 0 n0) ⟨2,y1.Since,y1.Ax,y1.Phase⟩).bind λy17=>b_ (max z0.1 y15.Start,⟨z0.2.Ak,⟨z0.2.Ah.Al,y17,z0.2.Ah.A0,z0.2.Ah.Ao⟩,z0.2.goal,y13⟩) else bif (y1.State==1)then (getI z0.2.Ak.Ad (cnt 0 n0)).bind λy20=>(setI z0.2.Ah.Ad (cnt 0 n0) ⟨2,y1.Since,y1.Ax,y1.Phase⟩).bind λy22=>b_ (max (max z0.1 y20.Start) 1,⟨z0.2.Ak,⟨z0.2.Ah.Al,y22,z0.2.Ah.A0,z0.2.Ah.Ao⟩,z0.2.goal,z0.2.acts⟩) else (setI z0.2.Ah.Ad (cnt 0 n0) ⟨2,y1.Since,y1.Ax,y1.Phase⟩).bind λy24=>b_ (z0.1,⟨z0.2.Ak,⟨z0.2.Ah.Al,y24,z0.2.Ah.A0,z0.2.Ah.Ao⟩,z0.2.goal,z0.2.acts⟩)
def Abk(x0:Av):Option Av:=
 andThen (foldI Aez x0.Ah.Ad 0 (0,x0)) (λ_=>none) λz0=>(Aml [⟨7,0,0⟩] z0.1).bind λy26=>(appI 25 z0.2.acts y26).bind λy28=>some ⟨z0.2.Ak,z0.2.Ah,z0.2.goal,y28⟩
def Ahp(z0:Int×Av)(z1:Int×Av):Bool:=decide (z1.1<(z0.2.Ak.Ad.length:Int))
def Aex(z0:Int×Av)(z1:Int×Av):a_ (Int×Av) Unit:=
 bif (Ahp z0 z1)then (Tu z1.2.Ak z1.1).bind λy3=>(getI z1.2.Ak.Ag y3).bind λy5=>(Aw [((y5.A==z0.1),true)] (yB z1.2.Ak z1.2.Ah z1.1) default).bind λy7=>(Aw [(((y5.A==z0.1)&&y7),true)] (Lh z1.2 z0.1) default).bind λy9=>bif (((y5.A==z0.1)&&y7)&&(!y9))then (P2 z1.2 1 y3).bind λy12=>b_ (w64 (z1.1+1),y12) else b_ (w64 (z1.1+1),z1.2) else dX (z1.1,z1.2)
def Aey(x0:Av)(z0:Int×Av):a_ (Int×Av) Unit:=
 bif decide (z0.1<x0.Ak.Ap)then andThen (whileN (Aex z0) 1152921504606846976 (0,z0.2)) (λ_=>none) λz1=>b_ (w64 (z0.1+1),z1.2) else dX (z0.1,z0.2)
def Abj(x0:Av):Option Av:=
 andThen (whileN (Aey x0) 1152921504606846976 (0,x0)) (λ_=>none) λz0=>some z0.2
def vF(a0:Ai)(y1:Bool)(y3:Bool)(y5:Bool)(y7:Bool)(y9:Bool):Bool:=(((((a0.Kind==1)&&(!y1))&&y3)&&y5)&&(!(y7==y9)))
def Aew(x0:Av)(n0:Nat)(a0:Ai)(z0:Unit):a_ Unit (Int×Bool):=
 (Aw [((a0.Kind==1),true)] (getI x0.Ah.Al (cnt 0 n0)) default).bind λy1=>(Aw [(((a0.Kind==1)&&(!y1)),true)] (Yr x0.Ak x0.Ah (cnt 0 n0)) default).bind λy3=>(Aw [((((a0.Kind==1)&&(!y1))&&y3),true)] (getI x0.goal a0.A) default).bind λy5=>(Aw [(((((a0.Kind==1)&&(!y1))&&y3)&&y5),true)] (Lh x0 a0.A) default).bind λy7=>(Aw [(((((a0.Kind==1)&&(!y1))&&y3)&&y5),true)] (Lh x0 a0.B) default).bind λy9=>bif (vF a0 y1 y3 y5 y7 y9)then c_ (cnt 0 n0,true) else b_ ()
def Abi(x0:Av):Option (Int×Bool):=
 andThen (foldI (Aew x0) x0.Ak.Ag 0 ()) some λz0=>some (0,false)
def Agf(x0:Ae)(x1:Af)(x2:Int):Option (Int×Bool):=
 (F66 x0 x1).bind λy1=>bif (y1 != 0)then some (0,false) else (vU x0 x1 x2).bind λy4=>some (y4.1,y4.2)
def Aho(a0:(Int×Int))(a1:Ai)(y10:Bool)(y12:Bool):Bool:=((((a1.Kind != 3) || (a1.B != a0.2)) || (!y10)) || (!y12))
def Yn(a0:(Int×Int))(n1:Nat)(a1:Ai)(z1:Av):a_ Av Unit:=
 (Aw [(((a1.Kind != 3) || (a1.B != a0.2)),false)] (Yr z1.Ak z1.Ah (cnt 0 n1)) default).bind λy10=>(Aw [((((a1.Kind != 3) || (a1.B != a0.2)) || (!y10)),false)] (Lh z1 a1.A) default).bind λy12=>bif (Aho a0 a1 y10 y12)then b_ z1 else (Age z1.Ak z1.Ah a1.A).bind λy15=>(getI z1.Ah.A0 a0.2).bind λy17=>(Agd z1.Ak z1.Ah a1.A).bind λy19=>bif decide ((w64 (y15+y17))<=y19)then (P2 z1 1 (cnt 0 n1)).bind λy22=>dX y22 else dX z1
def Tq(a0:Int×Int)(z0:Av):a_ Av Unit:=
 (Agf z0.Ak z0.Ah a0.2).bind λy5=>(Aw [(y5.2,false)] (I0 z0.Ah 4 a0.2) default).bind λy7=>bif (y5.2 || y7)then b_ z0 else andThen (foldI (Yn a0) z0.Ak.Ag 0 z0) (λ_=>none) λz1=>b_ z1
def Z6(x0:Av):Option Av:=
 (Yp x0.Ak).bind λy3=>andThen (foldE Tq (bw y3) x0) (λ_=>none) λz0=>some z0
def Arc(z0:Av):a_ Av Unit:=
 (Abi z0).bind λy26=>bif !y26.2 then dX z0 else (P2 z0 1 y26.1).bind λy29=>b_ y29
def F21(x0:Ae)(x1:Af):Option ((List Be)×Int):=
 (F53 x0 x1).bind λy1=>bif (y1.2.2 != 0)then some ([],y1.2.2) else (F54 x1 y1.1).bind λy4=>(Aw [(!y4,false)] (F55 x0 x1) default).bind λy6=>bif ((!y4) || y6)then some ([],11) else (F57 x0 x1).bind λy9=>(F56 y9 true).bind λy11=>(Aw [(!y11,false)] (F58 x0 x1) default).bind λy13=>bif ((!y11) || y13)then some ([],9) else (F59 x1).bind λy16=>(F57 x0 x1).bind λy18=>(Abl ⟨x0,y16,y18,[]⟩).bind λy20=>(Abk y20).bind λy22=>(Abj y22).bind λy24=>andThen (whileN Arc 1152921504606846976 y24) (λ_=>none) λz0=>(Z6 z0).bind λy31=>some (y31.acts,0)
def Iz(x0:Ae)(x1:Int)(x2:Int):Bool:=
 bif (x1==1)then ((decide (x2>=0))&&(decide (x2<(x0.Ad.length:Int)))) else bif (x1==2)then ((decide (x2>=0))&&(decide (x2<(x0.Ag.length:Int)))) else bif (x1==3)then ((decide (x2>=0))&&(decide (x2<x0.Ap))) else bif (x1==4)then ((decide (x2>=0))&&(decide (x2<(x0.Aj.length:Int)))) else ((decide (x2>=0))&&(decide (x2<0)))
def Aig(x1:Be):a_ Bool Unit:=
 bif (x1.Kind==1)then b_ (x1.Kind==1) else b_ (x1.Kind==2)
def Aif(x1:Be):a_ Bool Unit:=
 bif (x1.Kind==3)then b_ (x1.Kind==3) else b_ (x1.Kind==4)
def Ami(x0:Ae)(x1:Be):Option Bool:=
 andThen (Aig x1) (λ_=>none) λz0=>bif z0 then some (Iz x0 2 x1.Unit) else andThen (Aif x1) (λ_=>none) λz1=>bif z1 then some (Iz x0 1 x1.Unit) else bif (x1.Kind==5)then some (Iz x0 4 x1.Unit) else bif (x1.Kind==6)then some ((Iz x0 1 x1.Unit)&&(Iz x0 3 x1.Value)) else bif (x1.Kind==8)then some (Iz x0 x1.Value x1.Unit) else bif (x1.Kind==9)then some (Iz x0 x1.Value x1.Unit) else some true
def Alr(x0:Ae)(x1:Af)(x2:Int):Option Bool:=
 (getI x0.Ag x2).bind λy1=>(getI x1.Al x2).bind λy3=>(Aw [(y3,false)] (I0 x1 2 x2) default).bind λy5=>(Aw [((y3 || y5),false)] (I0 x1 3 y1.A) default).bind λy7=>bif ((y3 || y5) || y7)then some false else bif (y1.Kind==1)then (I0 x1 3 y1.B).bind λy11=>some (!y11) else bif (y1.Kind==2)then (I0 x1 1 y1.B).bind λy14=>(Aw [(!y14,true)] (getI x1.Ad y1.B) default).bind λy16=>some ((!y14)&&(y16.State==2)) else (Agf x0 x1 y1.B).bind λy18=>(I0 x1 4 y1.B).bind λy20=>some ((!y20)&&(!y18.2))
def vP(x0:Ae)(x1:Af)(x2:Int):Option (Int×Bool):=
 (Kt x0 x1 x2).bind λy1=>bif ((y1.1.Ad.length:Int)==0)then some (0,false) else (getI y1.1.Ad 0).bind λy4=>some (y4,true)
def A6i(x0:Int)(x1:Int):Bool:=decide ((Hn (w64 ((Hn x1)-(Hn x0))))>1800)
def Alp(x0:Int)(x1:Int):Int:=
 bif (A6i x0 x1)then w64 ((Hn (w64 ((Hn x1)-(Hn x0))))-3600) else Hn (w64 ((Hn x1)-(Hn x0)))
def A6j(x1:An)(x2:An):Bool:=((decide ((min x1.Ax x2.Ax)<0)) || (decide ((max x1.Ax x2.Ax)>6000)))
def Ae2(x0:Ae)(x1:An)(x2:An):Bool:=
 bif (A6j x1 x2)then false else ((decide ((max (w64 (x1.Ax-x2.Ax)) (w64 (x2.Ax-x1.Ax)))<=x0.Ax))&&(decide ((max (Alp x1.Phase x2.Phase) (w64 (0-Alp x1.Phase x2.Phase)))<=x0.Phase)))
def Alq(x0:Ae)(x1:Af)(x2:Ai):Option Bool:=
 (vP x0 x1 x2.A).bind λy1=>bif !y1.2 then some true else bif (x2.Kind==1)then (vP x0 x1 x2.B).bind λy5=>(Aw [(!y5.2,false)] (getI x1.Ad y1.1) default).bind λy7=>(Aw [(!y5.2,false)] (getI x1.Ad y5.1) default).bind λy9=>some ((!y5.2) || (Ae2 x0 y7 y9)) else bif (x2.Kind==2)then (getI x1.Ad y1.1).bind λy12=>(getI x1.Ad x2.B).bind λy14=>some (Ae2 x0 y12 y14) else some true
def App(x0:Ae)(x2:Int):Bool:=((decide (x2<0)) || (decide (x2>=(x0.Ag.length:Int))))
def Alt(x0:Ae)(x1:Af)(x2:Int):Option Int:=
 (F66 x0 x1).bind λy1=>bif (y1 != 0)then some y1 else bif (App x0 x2)then some 10 else (Alr x0 x1 x2).bind λy5=>bif !y5 then some 11 else (getI x0.Ag x2).bind λy8=>(Kt x0 x1 y8.A).bind λy10=>(Aw [((y8.Kind==1),true)] (V7 y10.1.Ap y8.B) default).bind λy12=>(Aw [(!((y8.Kind==1)&&y12),true)] (Alq x0 x1 y8) default).bind λy14=>bif ((!((y8.Kind==1)&&y12))&&(!y14))then some 12 else some 0
def Al3(x0:Ae)(x1:Af)(x2:Int):Option (Af×Int):=
 (Alt x0 x1 x2).bind λy1=>bif (y1 != 0)then some (⟨[],[],[],[]⟩,y1) else (F59 x1).bind λy4=>(getI y4.Al x2).bind λy6=>(setI y4.Al x2 true).bind λy8=>(Af1 x0 ⟨y8,y4.Ad,y4.A0,y4.Ao⟩).bind λy10=>some (y10.1,y10.2)
def Aps(x0:Ae)(x2:Int):Bool:=((decide (x2<0)) || (decide (x2>=(x0.Ag.length:Int))))
def Al2(x0:Ae)(x1:Af)(x2:Int):Option (Af×Int):=
 (F66 x0 x1).bind λy1=>bif (y1 != 0)then some (⟨[],[],[],[]⟩,y1) else bif (Aps x0 x2)then some (⟨[],[],[],[]⟩,10) else (getI x1.Al x2).bind λy5=>(Aw [(!y5,false)] (I0 x1 2 x2) default).bind λy7=>bif ((!y5) || y7)then some (⟨[],[],[],[]⟩,11) else (F59 x1).bind λy10=>(getI y10.Al x2).bind λy12=>(setI y10.Al x2 false).bind λy14=>some (⟨y14,y10.Ad,y10.A0,y10.Ao⟩,0)
def Au8(x0:Ae)(x1:Af)(x2:Int):Option (Int×Bool):=
 (F66 x0 x1).bind λy1=>bif (y1 != 0)then some (0,false) else (vR x0 x1 x2).bind λy4=>some (y4.1,y4.2)
def Apr(x0:Ae)(x2:Int)(x3:Int):Bool:=((((decide (x2<0)) || (decide (x2>=(x0.Ad.length:Int)))) || (decide (x3<0))) || (decide (x3>=x0.Ap)))
def Al1(x0:Ae)(x1:Af)(x2:Int)(x3:Int):Option (Af×Int):=
 (F66 x0 x1).bind λy1=>bif (y1 != 0)then some (⟨[],[],[],[]⟩,y1) else bif (Apr x0 x2 x3)then some (⟨[],[],[],[]⟩,10) else (vP x0 x1 x3).bind λy5=>(Aw [(!y5.2,false)] (getI x1.Ad x2) default).bind λy7=>bif ((!y5.2) || (y7.State != 2))then some (⟨[],[],[],[]⟩,11) else (F59 x1).bind λy10=>(Au8 x0 x1 x2).bind λy12=>bif y12.2 then (Kt x0 x1 y12.1).bind λy15=>(getI x1.Ad y5.1).bind λy17=>(Rt y10 y15.1.Ad y17).bind λy19=>some (⟨y10.Al,y19,y10.A0,y10.Ao⟩,0) else (getI x1.Ad y5.1).bind λy21=>(Rt y10 [x2] y21).bind λy23=>some (⟨y10.Al,y23,y10.A0,y10.Ao⟩,0)
def Rn(x0:A6)(x1:Int):Option Bool:=
 (Tu x0.Ak x1).bind λy1=>(getI x0.Ah.Al y1).bind λy3=>some (!y3)
def jU(x0:A6)(x1:Int):Option (Int×A6):=
 (getI x0.Ah.Ad x1).bind λy1=>(Aw [((y1.State != 0),false)] (I0 x0.Ah 1 x1) default).bind λy3=>bif ((y1.State != 0) || y3)then some (11,x0) else (getI x0.Ak.Ad x1).bind λy6=>(Aw [((y6.Start==0),true)] (Rn x0 x1) default).bind λy8=>bif ((y6.Start==0)&&y8)then (setI x0.Ah.Ad x1 ⟨2,x0.time,5000,0⟩).bind λy11=>some (0,⟨x0.Ak,⟨x0.Ah.Al,y11,x0.Ah.A0,x0.Ah.Ao⟩,x0.time⟩) else (setI x0.Ah.Ad x1 ⟨1,x0.time,5000,0⟩).bind λy13=>some (0,⟨x0.Ak,⟨x0.Ah.Al,y13,x0.Ah.A0,x0.Ah.Ao⟩,x0.time⟩)
def Auh(y1:An)(y3:Bool):Bool:=(((y1.State != 1)&&(y1.State != 2)) || (!y3))
def jQ(x0:A6)(x1:Int):Option (Int×A6):=
 (getI x0.Ah.Ad x1).bind λy1=>(Aw [(((y1.State != 1)&&(y1.State != 2)),false)] (Rn x0 x1) default).bind λy3=>bif (Auh y1 y3)then some (11,x0) else (setI x0.Ah.Ad x1 ⟨0,y1.Since,y1.Ax,y1.Phase⟩).bind λy6=>some (0,⟨x0.Ak,⟨x0.Ah.Al,y6,x0.Ah.A0,x0.Ah.Ao⟩,x0.time⟩)
def Aeb(x2:Int)(y1:Bb):Bool:=((decide (x2<0)) || (decide (x2>y1.Load)))
def jP(x0:A6)(x1:Int)(x2:Int):Option (Int×A6):=
 (Aw [(decide (x2<0),false)] (getI x0.Ak.Aj x1) default).bind λy1=>bif (Aeb x2 y1)then some (1,x0) else (getI x0.Ah.A0 x1).bind λy4=>(setI x0.Ah.A0 x1 x2).bind λy6=>some (0,⟨x0.Ak,⟨x0.Ah.Al,x0.Ah.Ad,y6,x0.Ah.Ao⟩,x0.time⟩)
def Ah2(n0:Nat)(a0:An)(z0:(List An)):a_ ((List An)) Unit:=
 bif (a0.State==2)then (getI z0 (cnt 0 n0)).bind λy7=>(setI z0 (cnt 0 n0) ⟨y7.State,y7.Since,y7.Ax,Hn (w64 (a0.Phase+(w64 (36*(w64 (a0.Ax-5000))))))⟩).bind λy9=>b_ y9 else b_ z0
def Als(x0:Ae)(x1:Af):Option (Af×Int):=
 (F66 x0 x1).bind λy1=>bif (y1 != 0)then some (⟨[],[],[],[]⟩,y1) else (F59 x1).bind λy4=>andThen (foldI Ah2 x1.Ad 0 y4.Ad) (λ_=>none) λz0=>some (⟨y4.Al,z0,y4.A0,y4.Ao⟩,0)
def Aea(y1:Af×Int)(z0:Int×(List An)):Bool:=decide (z0.1<(y1.1.Ad.length:Int))
def Aug(x0:A6)(y4:An)(y6:Bool)(y8:Ca):Bool:=(((y4.State==1)&&y6)&&(decide ((w64 (y4.Since+y8.Start))<=(w64 (x0.time+1)))))
def Aaf(x0:A6)(y1:Af×Int)(z0:Int×(List An)):a_ (Int×(List An)) Unit:=
 bif (Aea y1 z0)then (getI z0.2 z0.1).bind λy4=>(Aw [((y4.State==1),true)] (Rn ⟨x0.Ak,⟨y1.1.Al,z0.2,y1.1.A0,y1.1.Ao⟩,x0.time⟩ z0.1) default).bind λy6=>(Aw [(((y4.State==1)&&y6),true)] (getI x0.Ak.Ad z0.1) default).bind λy8=>bif (Aug x0 y4 y6 y8)then (setI z0.2 z0.1 ⟨2,y4.Since,y4.Ax,y4.Phase⟩).bind λy11=>b_ (w64 (z0.1+1),y11) else b_ (w64 (z0.1+1),z0.2) else dX (z0.1,z0.2)
def jO(x0:A6):Option A6:=
 (Als x0.Ak x0.Ah).bind λy1=>andThen (whileN (Aaf x0 y1) 1152921504606846976 (0,y1.1.Ad)) (λ_=>none) λz0=>some ⟨x0.Ak,⟨y1.1.Al,z0.2,y1.1.A0,y1.1.Ao⟩,x0.time⟩
def Tt(x0:Aa)(x1:Aa):Int:=
 bif (x0.Kind != x1.Kind)then w64 (x0.Kind-x1.Kind) else w64 (x0.Number-x1.Number)
def zW(x0:List Aa)(x1:Aa)(z0:Int×Int):a_ (Int×Int) Unit:=
 bif decide (z0.1<z0.2)then (getI x0 (w64 (I_ .u64 (IntKind.wrap .u64 (w64 (z0.1+z0.2))) 1))).bind λy2=>bif decide ((Tt y2 x1)<0)then b_ (w64 ((w64 (I_ .u64 (IntKind.wrap .u64 (w64 (z0.1+z0.2))) 1))+1),z0.2) else b_ (z0.1,w64 (I_ .u64 (IntKind.wrap .u64 (w64 (z0.1+z0.2))) 1)) else dX (z0.1,z0.2)
def Z9(x0:List Aa)(x1:Aa):Option (Int×Bool):=
 andThen (whileN (zW x0 x1) 1152921504606846976 (0,(x0.length:Int))) (λ_=>none) λz0=>(Aw [(decide (z0.1<(x0.length:Int)),true)] (getI x0 z0.1) default).bind λy5=>some (z0.1,((decide (z0.1<(x0.length:Int)))&&((Tt y5 x1)==0)))
def Rm(x0:List Aa)(x1:Int)(x2:List Aa):Option ((List Aa)):=
 (bndI x0.length x1 (x0.length:Int)).bind λu2=>bif ((x2.length:Int)==0)then some x0 else bif (x1==(x0.length:Int))then (appI 17 x0 x2).bind λy5=>some y5 else insI 17 x0 x1 x2
def Vy(x0:List Aa)(x1:Int)(x2:Int):Option ((List Aa)):=
 (bnd3I x0.length x1 x2 (x0.length:Int)).bind λu2=>bif (x1==x2)then some x0 else (bndI x0.length 0 x1).bind λu5=>(bndI x0.length x2 (x0.length:Int)).bind λu7=>(appPI x0 ((Int.toNat x1)-0) ((x0.drop (Int.toNat x2)).take ((Int.toNat (x0.length:Int))-(Int.toNat x2)))).bind λy8=>(bndI (y8.length-0) (((((Int.toNat x1)-0)+((x0.drop (Int.toNat x2)).take ((Int.toNat (x0.length:Int))-(Int.toNat x2))).length):Nat):Int) (x0.length:Int)).bind λu11=>some ((Iy y8 (0+(Int.toNat (((((Int.toNat x1)-0)+((x0.drop (Int.toNat x2)).take ((Int.toNat (x0.length:Int))-(Int.toNat x2))).length):Nat):Int))) ((Int.toNat (x0.length:Int))-(Int.toNat (((((Int.toNat x1)-0)+((x0.drop (Int.toNat x2)).take ((Int.toNat (x0.length:Int))-(Int.toNat x2))).length):Nat):Int))) ⟨0,0⟩).take (((Int.toNat x1)-0)+((x0.drop (Int.toNat x2)).take ((Int.toNat (x0.length:Int))-(Int.toNat x2))).length))
def S_(x0:A6)(x2:Bool):Bool:=(x2&&(decide ((x0.Ah.Ao.length:Int)>=32)))
def V4(x0:A6)(x1:Aa)(x2:Bool)(y1:Int×Bool):a_ ((List Aa)) Unit:=
 bif x2 then (Rm x0.Ah.Ao y1.1 [x1]).bind λy6=>b_ y6 else (Vy x0.Ah.Ao y1.1 (w64 (y1.1+1))).bind λy8=>b_ y8
def Kf(x0:A6)(x1:Aa)(x2:Bool):Option (Int×A6):=
 (Z9 x0.Ah.Ao x1).bind λy1=>bif (y1.2==x2)then some (11,x0) else bif (S_ x0 x2)then some (2,x0) else andThen (V4 x0 x1 x2 y1) (λ_=>none) λz0=>bif (x1.Kind==1)then (getI x0.Ah.Ad x1.Number).bind λy11=>(setI x0.Ah.Ad x1.Number ⟨0,y11.Since,y11.Ax,y11.Phase⟩).bind λy13=>bif x2 then (getI y13 x1.Number).bind λy16=>(setI y13 x1.Number ⟨3,y16.Since,y16.Ax,y16.Phase⟩).bind λy18=>some (0,⟨x0.Ak,⟨x0.Ah.Al,y18,x0.Ah.A0,z0⟩,x0.time⟩) else some (0,⟨x0.Ak,⟨x0.Ah.Al,y13,x0.Ah.A0,z0⟩,x0.time⟩) else some (0,⟨x0.Ak,⟨x0.Ah.Al,x0.Ah.Ad,x0.Ah.A0,z0⟩,x0.time⟩)
def qD(x0:A6)(x1:Be):Option (Int×A6):=
 bif (x1.Kind==1)then (Al3 x0.Ak x0.Ah x1.Unit).bind λy2=>some (y2.2,⟨x0.Ak,y2.1,x0.time⟩) else bif (x1.Kind==2)then (Al2 x0.Ak x0.Ah x1.Unit).bind λy5=>some (y5.2,⟨x0.Ak,y5.1,x0.time⟩) else bif (x1.Kind==6)then (Al1 x0.Ak x0.Ah x1.Unit x1.Value).bind λy8=>some (y8.2,⟨x0.Ak,y8.1,x0.time⟩) else bif (x1.Kind==3)then (jU x0 x1.Unit).bind λy11=>some (y11.1,y11.2) else bif (x1.Kind==4)then (jQ x0 x1.Unit).bind λy14=>some (y14.1,y14.2) else bif (x1.Kind==5)then (jP x0 x1.Unit x1.Value).bind λy17=>some (y17.1,y17.2) else bif (x1.Kind==7)then (jO x0).bind λy20=>some (0,y20) else (Kf x0 ⟨x1.Value,x1.Unit⟩ (x1.Kind==8)).bind λy22=>some (y22.1,y22.2)
def A0p(x2:Int)(x3:Be):Bool:=((((decide (x2<0)) || (decide (x2>2147483648))) || (decide (x3.Kind<1))) || (decide (x3.Kind>9)))
def F67(x0:Ae)(x1:Af)(x2:Int)(x3:Be):Option (Af×Int):=
 (F66 x0 x1).bind λy1=>bif (y1 != 0)then some (⟨[],[],[],[]⟩,y1) else bif (A0p x2 x3)then some (⟨[],[],[],[]⟩,1) else (Ami x0 x3).bind λy5=>bif !y5 then some (⟨[],[],[],[]⟩,10) else (F59 x1).bind λy8=>(qD ⟨x0,y8,x2⟩ x3).bind λy10=>bif (y10.1 != 0)then some (⟨[],[],[],[]⟩,y10.1) else some (y10.2.Ah,0)
def Arb(x0:Ae)(n0:Nat)(a0:Be)(z0:Int×Af):a_ (Int×Af) (Af×Int×Int×Int):=
 (F67 x0 z0.2 z0.1 a0).bind λy6=>bif (y6.2 != 0)then c_ (z0.2,z0.1,cnt 0 n0,y6.2) else bif (a0.Kind==7)then b_ (w64 (z0.1+1),y6.1) else b_ (z0.1,y6.1)
def F22(x0:Ae)(x1:Af)(x2:Int)(x3:List Be):Option (Af×Int×Int×Int):=
 (F66 x0 x1).bind λy1=>bif (y1 != 0)then some (⟨[],[],[],[]⟩,0,0,y1) else (F59 x1).bind λy4=>andThen (foldI (Arb x0) x3 0 (x2,y4)) some λz0=>some (z0.2,z0.1,(x3.length:Int),0)
def F7(x0:Ar):Option (B3×Int):=
 (F20 x0).bind λy1=>bif (y1.2 != 0)then some (⟨⟨0,⟨[],[],[],[]⟩,[],[]⟩,[],[],⟨⟨0,0⟩,0,0,0⟩,⟨0,0,0,⟨0,0⟩,0,false⟩,[],⟨0,0⟩,0,⟨0,[]⟩,[],⟨[],0⟩⟩,y1.2) else (F21 x0.Board y1.1.A5.Power).bind λy4=>bif (y4.2 != 0)then some (y1.1,0) else (F22 x0.Board y1.1.A5.Power 0 y4.1).bind λy7=>some (⟨⟨y7.2.1,y7.1,y1.1.A5.Dx,y1.1.A5.Ft⟩,y1.1.Ao,y1.1.Tracks,⟨y1.1.Estimate.Point,y1.1.Estimate.Bound,y7.2.1,y1.1.Estimate.State⟩,y1.1.Keeper,y1.1.Thrusts,y1.1.Class,y1.1.Operation,y1.1.Progress,y1.1.Alarms,y1.1.Book⟩,0)
def Af2(n0:Nat)(a0:B9)(z0:Int×B3):a_ (Int×B3) (B3×Int):=
 (F52 z0.2.Book a0).bind λy11=>bif (y11.2 != 0)then c_ (⟨⟨0,⟨[],[],[],[]⟩,[],[]⟩,[],[],⟨⟨0,0⟩,0,0,0⟩,⟨0,0,0,⟨0,0⟩,0,false⟩,[],⟨0,0⟩,0,⟨0,[]⟩,[],⟨[],0⟩⟩,y11.2) else b_ (y11.2,⟨z0.2.A5,z0.2.Ao,z0.2.Tracks,z0.2.Estimate,z0.2.Keeper,z0.2.Thrusts,z0.2.Class,z0.2.Operation,z0.2.Progress,z0.2.Alarms,y11.1⟩)
def Abo(x0:Ar):Option (B3×Int):=
 (F48 x0).bind λy1=>bif (y1 != 0)then some (⟨⟨0,⟨[],[],[],[]⟩,[],[]⟩,[],[],⟨⟨0,0⟩,0,0,0⟩,⟨0,0,0,⟨0,0⟩,0,false⟩,[],⟨0,0⟩,0,⟨0,[]⟩,[],⟨[],0⟩⟩,y1) else (F49 x0.Board x0.Table).bind λy4=>bif (y4.2 != 0)then some (⟨⟨0,⟨[],[],[],[]⟩,[],[]⟩,[],[],⟨⟨0,0⟩,0,0,0⟩,⟨0,0,0,⟨0,0⟩,0,false⟩,[],⟨0,0⟩,0,⟨0,[]⟩,[],⟨[],0⟩⟩,y4.2) else (mkI 89 (x0.References.length:Int) ⟨⟨0,0,0,0⟩,⟨0,0,0,0⟩,false,0,0⟩).bind λy7=>(mkI 17 (x0.Ship.A2.length:Int) ⟨0,0⟩).bind λy9=>andThen (foldI Af2 [(F51 0 1 [1]),(F51 0 2 [0]),(F51 0 3 [0])] 0 (y4.2,⟨y4.1,[],y7,⟨⟨0,0⟩,0,0,0⟩,⟨0,0,0,⟨0,0⟩,0,false⟩,y9,⟨1,(-1)⟩,0,⟨0,[]⟩,[],F50⟩)) some λz0=>some (z0.2,0)
def Alo(x0:Ar):Option (B3×Int):=
 (Abo x0).bind λy1=>bif (y1.2 != 0)then some (⟨⟨0,⟨[],[],[],[]⟩,[],[]⟩,[],[],⟨⟨0,0⟩,0,0,0⟩,⟨0,0,0,⟨0,0⟩,0,false⟩,[],⟨0,0⟩,0,⟨0,[]⟩,[],⟨[],0⟩⟩,y1.2) else (F21 x0.Board y1.1.A5.Power).bind λy4=>bif (y4.2 != 0)then some (y1.1,0) else (F22 x0.Board y1.1.A5.Power 0 y4.1).bind λy7=>some (⟨⟨y7.2.1,y7.1,y1.1.A5.Dx,y1.1.A5.Ft⟩,y1.1.Ao,y1.1.Tracks,⟨y1.1.Estimate.Point,y1.1.Estimate.Bound,y7.2.1,y1.1.Estimate.State⟩,y1.1.Keeper,y1.1.Thrusts,y1.1.Class,y1.1.Operation,y1.1.Progress,y1.1.Alarms,y1.1.Book⟩,0)
def Afs(x0:Am):Bool:=
 ((((decide (x0.Time>=0))&&(decide (x0.Time<=2147483648)))&&((x0.Kind==1) || (x0.Kind==2)))&&(V2 x0.Part))
def Al0(x0:Am):Bool:=
 !(Afs x0)
def zV(n0:Nat)(a0:Am)(z0:Unit):a_ Unit Int:=
 bif Al0 a0 then c_ (cnt 0 n0) else b_ ()
def Ae9(x0:List Am):Option Int:=
 andThen (foldI zV x0 0 ()) some λz0=>some (-1)
def Aft(x0:List Am):Option Bool:=
 (Ae9 x0).bind λy1=>some (decide (y1>=0))
def Amh(x0:List Am):Option Bool:=
 (Aft x0).bind λy1=>some y1
def Amg(x0:Am)(x1:Am):Option Int:=
 (Mf x0.Part x1.Part).bind λy1=>(V5 [Js x0.Time x1.Time,y1]).bind λy3=>some y3
def Avc(x0:List Am)(x1:Aa):Option (Int):=A0d x0 x1
def Amf(x0:Int):Int:=
 w64 (3-x0)
def Aqn(x0:List Am)(z0:Int):a_ Int Int:=
 bif decide (z0<(x0.length:Int))then (getI x0 (w64 (z0-1))).bind λy6=>(getI x0 z0).bind λy8=>(Amg y6 y8).bind λy10=>bif decide (y10>=0)then c_ 7 else b_ (w64 (z0+1)) else dX z0
def Aqm(x0:List Am)(n1:Nat)(a1:Am)(z1:Unit):a_ Unit Int:=
 (cutI x0 0 (cnt 0 n1)).bind λy14=>(Avc y14 a1.Part).bind λy15=>bif (a1.Kind != (Amf y15))then c_ 70 else b_ ()
def F68(x0:List Am):Option Int:=
 bif decide ((x0.length:Int)>24)then some 2 else (Amh x0).bind λy2=>bif y2 then some 1 else andThen (whileN (Aqn x0) 1152921504606846976 1) some λz0=>andThen (foldI (Aqm x0) x0 0 ()) some λz1=>some 0
def Alz(x0:Int):Bool:=
 ((decide (x0>=0))&&(decide (x0<3600)))
def Pi(x0:Jq):Bool:=
 (((Alz x0.From)&&(decide (x0.Speed>=0)))&&(decide (x0.Speed<=10000)))
def F69(x0:Gd):Bool:=
 (((Pi x0.Wind)&&(Pi x0.Current))&&(Pi x0.Wave))
def Ak6(x1:C8):Bool:=(((!(F69 x1.Weather)) || (decide (x1.Ticks<1))) || (decide (x1.Ticks>60)))
def F23(x0:Ar)(x1:C8):Option Int:=
 (F48 x0).bind λy1=>bif (y1 != 0)then some y1 else (F68 x1.Faults).bind λy4=>bif (y4 != 0)then some y4 else bif (Ak6 x1)then some 1 else some 0
def Be8(x0:Ar)(z1:Int×(List Eo)):Bool:=decide (z1.1<(x0.References.length:Int))
def A89(x0:Ar)(x1:B3)(z0:Int×(List C7))(z1:Int×(List Eo)):a_ (Int×(List Eo)) Unit:=
 bif (Be8 x0 z1)then (appI 41 z1.2 [⟨z1.1,⟨w64 ((w64 (x1.A5.Time+1))+z0.1),x0.Target.Place.X,x0.Target.Place.Y,100⟩⟩]).bind λy6=>b_ (w64 (z1.1+1),y6) else dX (z1.1,z1.2)
def A88(z0:Int×(List C7))(n2:Nat)(a2:Am)(z2:(List Am)):a_ ((List Am)) Unit:=
 bif (a2.Time==z0.1)then (appI 33 z2 [a2]).bind λy9=>b_ y9 else b_ z2
def A9a(x0:Ar)(x1:B3)(x2:C8)(z0:Int×(List C7)):a_ (Int×(List C7)) Unit:=
 bif decide (z0.1<x2.Ticks)then andThen (whileN (A89 x0 x1 z0) 1152921504606846976 (0,[])) (λ_=>none) λz1=>andThen (foldI (A88 z0) x2.Faults 0 []) (λ_=>none) λz2=>(appI 161 z0.2 [⟨x2.Weather,x0.Target.Heading,z1.2,[],z2,0,[]⟩]).bind λy11=>b_ (w64 (z0.1+1),y11) else dX (z0.1,z0.2)
def F8(x0:Ar)(x1:B3)(x2:C8):Option ((List C7)):=
 (F23 x0 x2).bind λy1=>bif (y1 != 0)then some [] else andThen (whileN (A9a x0 x1 x2) 1152921504606846976 (0,[])) (λ_=>none) λz0=>some z0.2
def Apn(x0:Ar)(z1:Int×(List Eo)):Bool:=decide (z1.1<(x0.References.length:Int))
def Ah0(x0:Ar)(x1:B3)(z0:Int×(List C7))(z1:Int×(List Eo)):a_ (Int×(List Eo)) Unit:=
 bif (Apn x0 z1)then (appI 41 z1.2 [⟨z1.1,⟨w64 ((w64 (x1.A5.Time+1))+z0.1),x0.Target.Place.X,x0.Target.Place.Y,100⟩⟩]).bind λy6=>b_ (w64 (z1.1+1),y6) else dX (z1.1,z1.2)
def Ahz(z0:Int×(List C7))(n2:Nat)(a2:Am)(z2:(List Am)):a_ ((List Am)) Unit:=
 bif (a2.Time==z0.1)then (appI 33 z2 [a2]).bind λy9=>b_ y9 else b_ z2
def Ah1(x0:Ar)(x1:B3)(x2:C8)(z0:Int×(List C7)):a_ (Int×(List C7)) Unit:=
 bif decide (z0.1<x2.Ticks)then andThen (whileN (Ah0 x0 x1 z0) 1152921504606846976 (0,[])) (λ_=>none) λz1=>andThen (foldI (Ahz z0) x2.Faults 0 []) (λ_=>none) λz2=>(appI 161 z0.2 [⟨x2.Weather,x0.Target.Heading,z1.2,[],z2,0,[]⟩]).bind λy11=>b_ (w64 (z0.1+1),y11) else dX (z0.1,z0.2)
def Aln(x0:Ar)(x1:B3)(x2:C8):Option ((List C7)):=
 (F23 x0 x2).bind λy1=>bif (y1 != 0)then some [] else andThen (whileN (Ah1 x0 x1 x2) 1152921504606846976 (0,[])) (λ_=>none) λz0=>some z0.2
def Aq9(n0:Nat)(a0:Am)(z0:Unit):a_ Unit Int:=
 bif !(F42 a0)then c_ 1 else b_ ()
def A0u(y4:Am)(y6:Am)(y8:Am)(y10:Am)(y12:Am)(y14:Am):Bool:=!((decide (y4.Time<y6.Time)) || ((y8.Time==y10.Time)&&(F70 y12.Part y14.Part)))
def Aq8(x0:List Am)(z1:Int):a_ Int Int:=
 bif decide (z1<(x0.length:Int))then (getI x0 (w64 (z1-1))).bind λy4=>(getI x0 z1).bind λy6=>(Aw [(decide (y4.Time<y6.Time),false)] (getI x0 (w64 (z1-1))) default).bind λy8=>(Aw [(decide (y4.Time<y6.Time),false)] (getI x0 z1) default).bind λy10=>(Aw [(decide (y4.Time<y6.Time),false),((y8.Time==y10.Time),true)] (getI x0 (w64 (z1-1))) default).bind λy12=>(Aw [(decide (y4.Time<y6.Time),false),((y8.Time==y10.Time),true)] (getI x0 z1) default).bind λy14=>bif (A0u y4 y6 y8 y10 y12 y14)then c_ 7 else b_ (w64 (z1+1)) else dX z1
def A0t(a2:Am)(a3:Am):Bool:=((a3.Part.Kind==a2.Part.Kind)&&((a3.Part.Number==a2.Part.Number)&&true))
def V3(a2:Am)(n3:Nat)(a3:Am)(z3:Bool):a_ Bool Unit:=
 bif (A0t a2 a3)then b_ (a3.Kind==1) else b_ z3
def Aq7(x0:List Am)(n2:Nat)(a2:Am)(z2:Unit):a_ Unit Int:=
 (cutI x0 0 (cnt 0 n2)).bind λy18=>andThen (foldI (V3 a2) y18 0 false) (λ_=>none) λz3=>bif (z3==(a2.Kind==1))then c_ 70 else b_ ()
def F24(x0:List Am):Option Int:=
 bif decide ((x0.length:Int)>24)then some 2 else andThen (foldI Aq9 x0 0 ()) some λz0=>andThen (whileN (Aq8 x0) 1152921504606846976 1) some λz1=>andThen (foldI (Aq7 x0) x0 0 ()) some λz2=>some 0
def A0z(x1:Int)(n0:Nat)(a0:Am)(z0:(List Aa)×(List Aa)):a_ ((List Aa)×(List Aa)) Unit:=
 bif (a0.Time != x1)then b_ (z0.1,z0.2) else bif (a0.Kind==1)then (appI 17 z0.1 [a0.Part]).bind λy6=>b_ (y6,z0.2) else (appI 17 z0.2 [a0.Part]).bind λy8=>b_ (z0.1,y8)
def F9(x0:List Am)(x1:Int):Option ((List Aa)×(List Aa)):=
 (F24 x0).bind λy1=>bif (y1 != 0)then some ([],[]) else andThen (foldI (A0z x1) x0 0 ([],[])) (λ_=>none) λz0=>some (z0.1,z0.2)
def Auf(y6:Ar×C8×Ab)(a0:C7):Bool:=((((a0.Sights.length:Int) != (y6.1.References.length:Int)) || (a0.Heading != y6.1.Target.Heading)) || (!(((a0.Weather.Wind.From==y6.2.1.Weather.Wind.From)&&((a0.Weather.Wind.Speed==y6.2.1.Weather.Wind.Speed)&&true))&&(((a0.Weather.Current.From==y6.2.1.Weather.Current.From)&&((a0.Weather.Current.Speed==y6.2.1.Weather.Current.Speed)&&true))&&(((a0.Weather.Wave.From==y6.2.1.Weather.Wave.From)&&((a0.Weather.Wave.Speed==y6.2.1.Weather.Wave.Speed)&&true))&&true)))))
def Aue(y8:B3×Int)(n0:Nat)(n1:Nat)(a1:Eo):Bool:=((a1.Reference != (cnt 0 n1)) || (a1.Fix.Time != (w64 ((w64 (y8.1.A5.Time+1))+(cnt 0 n0)))))
def A03(y8:B3×Int)(n0:Nat)(n1:Nat)(a1:Eo)(z1:Unit):a_ Unit Bool:=
 bif (Aue y8 n0 n1 a1)then c_ false else b_ ()
def A6k(a0:C7)(y16:(List Aa)×(List Aa)):Bool:=((a0.Faults.length:Int) != (w64 ((y16.1.length:Int)+(y16.2.length:Int))))
def A04(y6:Ar×C8×Ab)(y8:B3×Int)(n0:Nat)(a0:C7)(z0:Unit):a_ Unit Bool:=
 bif (Auf y6 a0)then c_ false else andThen (foldI (A03 y8 n0) a0.Sights 0 ()) (λv=>c_ v) λz1=>(F9 y6.2.1.Faults (cnt 0 n0)).bind λy16=>bif (A6k a0 y16)then c_ false else b_ ()
def F3(x0:ez):Option Bool:=
 bif decide ((x0.length:Int)>600)then (F4).bind λy2=>some y2 else (F5 x0).bind λy4=>(F6 y4).bind λy6=>(Alo y6.1).bind λy8=>bif (y8.2 != 0)then some false else (Aln y6.1 y8.1 y6.2.1).bind λy11=>bif ((y11.length:Int) != y6.2.1.Ticks)then some false else andThen (foldI (A04 y6 y8) y11 0 ()) some λz0=>(F4).bind λy19=>some y19
end Go.Proofs.YtedojeimigneaaaGreatDoor
