import Derived.Test.YtcigbocngfaopaaGreatTy
set_option linter.unusedVariables false
namespace Go.Proofs.YtcigbocngfaopaaGreat
open Go.SL
abbrev Sg0:=(List Bool)×(List Int)×(List Ak)
abbrev Sg1:=Int×(List Bool)×(List Ai)×(List Int)×(List As)
abbrev Sg2:=Int×(List Int)×Int×(List Ag)
abbrev Sg3:=Int×(List Int)×Int×(List Ag)×(List A3)
abbrev Sg4:=Int×(List Int)×Int×(List Ag)×(List Bc)
abbrev Sg5:=Int×(List Int)×Int×(List Ai)
abbrev Sg6:=Int×(List Ag)×(List Bc)×(List A3)×Int×Int×(List Bool)×(List Ai)×(List Int)×(List As)×(List Bool)×(List Ak)
abbrev Sg7:=Int×(List Ag)×(List Bc)×(List A3)×Int×Int×(List Bool)×(List Ai)×(List Int)×(List As)×(List Ak)
abbrev Sg8:=Int×(List Ag)×(List Bc)×(List A3)×Int×Int×(List Int)×(List Bool)×(List Ai)×(List Int)×(List As)×(List Ak)
abbrev Sg9:=Int×(List Ai)×(List Ak)
abbrev Yl:=Int×Int×(List Int)×Int×(List Ag)×(List Bc)×(List A3)×Int×Int
abbrev H7:=Int×Int×(List Ag)×(List Bc)×(List A3)×Int×Int×(List Bool)×(List Ai)×(List Int)×(List As)×(List Bool)×(List Ak)
def F6 (x0:List Int):Option Ap:=
 (cutI x0 0 (min (x0.length:Int) 600)).bind λ y2=>some (⟨y2,0⟩:Ap)
def Akp (x0:Int) (x1:Int):Option Int:=
 bif decide (x1<1) then some 0 else (nzI x1).bind λ u3=>(nzI x1).bind λ u5=>some (Int.tmod (w64 ((Int.tmod x0 x1)+x1)) x1)
def F60 (x0:Ap) (x1:Int):Option (Int×Ap):=
 bif decide (x0.At>=(x0.L.length:Int)) then some (0,x0) else (getI x0.L (w64 ((w64 (x0.At+1))-1))).bind λ y2=>(Akp y2 x1).bind λ y4=>some (y4,(⟨x0.L,w64 (x0.At+1)⟩:Ap))
def F64 (x0:Ap) (x1:Int) (x2:Int):Option (Int×Ap):=
 (F60 x0 (w64 ((w64 (x2-x1))+1))).bind λ y1=>some (w64 (x1+y1.1),y1.2)
def F65 (x0:Ap) (x1:List Int):Option (Int×Ap):=
 (F60 x0 (x1.length:Int)).bind λ y1=>(getI x1 y1.1).bind λ y3=>some (y3,y1.2)
def uT (y1:Int×Ap) (z0:Sg2):Option (Ctl (Sg2) Unit):=
 bif decide (z0.1<y1.1) then (F60 (⟨z0.2.1,z0.2.2.1⟩:Ap) 6).bind λ y8=>bif decide (y8.1<5) then (F60 y8.2 z0.1).bind λ y11=>(appI 25 z0.2.2.2 [(⟨1,y11.1,z0.1⟩:Ag)]).bind λ y13=>some (.next (w64 (z0.1+1),y11.2.L,y11.2.At,y13)) else some (.next (w64 (z0.1+1),y8.2.L,y8.2.At,z0.2.2.2)) else some (.brk (z0.1,z0.2.1,z0.2.2.1,z0.2.2.2))
def Aj9 (y1:Int×Ap) (z0:Sg2) (y15:Int×Ap):Option (Ctl ((List Ag)) Unit):=
 bif ((decide (y1.1>2))&&(y15.1==1)) then (appI 25 z0.2.2.2 [(⟨1,0,w64 (y1.1-1)⟩:Ag)]).bind λ y18=>some (.next y18) else some (.next z0.2.2.2)
def uS (y1:Int×Ap) (z2:Sg4):Option (Ctl (Sg4) Unit):=
 bif decide (z2.1>0) then (F60 (⟨z2.2.1,z2.2.2.1⟩:Ap) y1.1).bind λ y23=>(appI 25 z2.2.2.2.1 [(⟨2,y23.1,(z2.2.2.2.2.length:Int)⟩:Ag)]).bind λ y25=>(F65 y23.2 [10,50,100]).bind λ y27=>(F65 y27.2 [0,5,y27.1]).bind λ y29=>(F65 y29.2 [0,1,3]).bind λ y31=>(appI 25 z2.2.2.2.2 [(⟨y27.1,y29.1,y31.1⟩:Bc)]).bind λ y33=>some (.next (w64 (z2.1-1),y31.2.L,y31.2.At,y25,y33)) else some (.brk (z2.1,z2.2.1,z2.2.2.1,z2.2.2.2.1,z2.2.2.2.2))
def Aj8 (y1:Int×Ap) (z3:Sg3) (y38:Int×Ap) (y40:List Ag) (y42:Int×Ap):Option (Ctl ((List Ag)) Unit):=
 bif ((decide (y1.1>1))&&(y42.1==3)) then (nzI y1.1).bind λ u46=>(appI 25 y40 [(⟨3,Int.tmod (w64 (y38.1+1)) y1.1,(z3.2.2.2.2.length:Int)⟩:Ag)]).bind λ y47=>some (.next y47) else some (.next y40)
def Az7 (z3:Sg3) (y57:Int×Ap):Bool:=((decide ((z3.2.2.2.2.length:Int)>0))&&(y57.1==3))
def uR (y1:Int×Ap) (z3:Sg3):Option (Ctl (Sg3) Unit):=
 bif decide (z3.1>0) then (F60 (⟨z3.2.1,z3.2.2.1⟩:Ap) y1.1).bind λ y38=>(appI 25 z3.2.2.2.1 [(⟨3,y38.1,(z3.2.2.2.2.length:Int)⟩:Ag)]).bind λ y40=>(Az [(decide (y1.1>1),true)] (F60 y38.2 4) (default,y38.2)).bind λ y42=>andThen (Aj8 y1 z3 y38 y40 y42) (λ _=>none) λ z4=>(F65 y42.2 [0,5,20,40]).bind λ y49=>(F65 y49.2 [0,w64 (Int.tdiv y49.1 2),y49.1]).bind λ y51=>(F60 y51.2 3).bind λ y53=>(F64 y53.2 (-1) 2).bind λ y55=>(Az [(decide ((z3.2.2.2.2.length:Int)>0),true)] (F60 y55.2 4) (default,y55.2)).bind λ y57=>bif (Az7 z3 y57) then (F60 y57.2 (z3.2.2.2.2.length:Int)).bind λ y60=>(appI 57 z3.2.2.2.2 [(⟨y49.1,y51.1,y53.1,y55.1,[y60.1]⟩:A3)]).bind λ y62=>some (.next (w64 (z3.1-1),y60.2.L,y60.2.At,z4,y62)) else (appI 57 z3.2.2.2.2 [(⟨y49.1,y51.1,y53.1,y55.1,([]:List Int)⟩:A3)]).bind λ y64=>some (.next (w64 (z3.1-1),y57.2.L,y57.2.At,z4,y64)) else some (.brk (z3.1,z3.2.1,z3.2.2.1,z3.2.2.2.1,z3.2.2.2.2))
def F28 (x0:Ap):Option (Aa×Ap):=
 (F64 x0 1 4).bind λ y1=>(F65 y1.2 [0,50,200,1800]).bind λ y3=>(F65 y3.2 [0,10,50]).bind λ y5=>andThen (whileN (uT y1) 1152921504606846976 (1,y5.2.L,y5.2.At,([]:List Ag))) (λ _=>none) λ z0=>(Az [(decide (y1.1>2),true)] (F60 (⟨z0.2.1,z0.2.2.1⟩:Ap) 2) (default,(⟨z0.2.1,z0.2.2.1⟩:Ap))).bind λ y15=>andThen (Aj9 y1 z0 y15) (λ _=>none) λ z1=>(F60 y15.2 5).bind λ y20=>andThen (whileN (uS y1) 1152921504606846976 (y20.1,y20.2.L,y20.2.At,z1,([]:List Bc))) (λ _=>none) λ z2=>(F60 (⟨z2.2.1,z2.2.2.1⟩:Ap) 6).bind λ y35=>andThen (whileN (uR y1) 1152921504606846976 (y35.1,y35.2.L,y35.2.At,z2.2.2.2.1,([]:List A3))) (λ _=>none) λ z3=>some ((⟨y1.1,z3.2.2.2.1,z2.2.2.2.2,z3.2.2.2.2,y3.1,y5.1⟩:Aa),(⟨z3.2.1,z3.2.2.1⟩:Ap))
def F46 (x0:Int) (x1:Int) (x2:Int):Bool:=
 ((decide (x0>=x1))&&(decide (x0<=x2)))
def F47 (x0:Aa) (x1:As):Bool:=
 bif (x1.Kind==1) then F46 x1.Number 0 (w64 ((x0.Ac.length:Int)-1)) else bif (x1.Kind==2) then F46 x1.Number 0 (w64 ((x0.Ad.length:Int)-1)) else bif (x1.Kind==3) then F46 x1.Number 0 (w64 (x0.Am-1)) else bif (x1.Kind==4) then F46 x1.Number 0 (w64 ((x0.Af.length:Int)-1)) else false
def Amj (x1:Aa) (z0:Int×(List Int)×Int×(List Bool)):Bool:=decide (z0.1<(x1.Ad.length:Int))
def Sm (x1:Aa) (z0:Int×(List Int)×Int×(List Bool)):Option (Ctl (Int×(List Int)×Int×(List Bool)) Unit):=
 bif (Amj x1 z0) then (F60 (⟨z0.2.1,z0.2.2.1⟩:Ap) 2).bind λ y2=>(appI 2 z0.2.2.2 [(y2.1==1)]).bind λ y4=>some (.next (w64 (z0.1+1),y2.2.L,y2.2.At,y4)) else some (.brk (z0.1,z0.2.1,z0.2.2.1,z0.2.2.2))
def Ami (x1:Aa) (z1:Int×(List Bool)):Bool:=decide (z1.1<(x1.Af.length:Int))
def Ah1 (z1:Int×(List Bool)) (a2:Ag) (y7:Bool):Bool:=(((a2.Kind==3)&&(a2.B==z1.1))&&y7)
def Sk (z1:Int×(List Bool)) (n2:Nat) (a2:Ag) (z2:Bool×(List Bool)):Option (Ctl (Bool×(List Bool)) Unit):=
 (Az [(((a2.Kind==3)&&(a2.B==z1.1)),true)] (getI z2.2 (cnt 0 n2)) default).bind λ y7=>bif (Ah1 z1 a2 y7) then (getI z2.2 (cnt 0 n2)).bind λ y10=>(setI z2.2 (cnt 0 n2) z2.1).bind λ y12=>some (.next (false,y12)) else some (.next (z2.1,z2.2))
def Sl (x1:Aa) (z1:Int×(List Bool)):Option (Ctl (Int×(List Bool)) Unit):=
 bif (Ami x1 z1) then andThen (foldI (Sk z1) x1.Ad 0 (true,z1.2)) (λ _=>none) λ z2=>some (.next (w64 (z1.1+1),z2.2)) else some (.brk (z1.1,z1.2))
def Ah0 (x1:Aa) (z3:Sg5):Bool:=decide (z3.1<(x1.Ac.length:Int))
def Sj (x1:Aa) (z3:Sg5):Option (Ctl (Sg5) Unit):=
 bif (Ah0 x1 z3) then (F65 (⟨z3.2.1,z3.2.2.1⟩:Ap) [0,1,2,2,2,3]).bind λ y15=>(F60 y15.2 5).bind λ y17=>(F65 y17.2 [5000,5000,5005,4950]).bind λ y19=>(F65 y19.2 [0,0,40,1800,3590]).bind λ y21=>(appI 33 z3.2.2.2 [(⟨y15.1,y17.1,y19.1,y21.1⟩:Ai)]).bind λ y23=>some (.next (w64 (z3.1+1),y21.2.L,y21.2.At,y23)) else some (.brk (z3.1,z3.2.1,z3.2.2.1,z3.2.2.2))
def Si (n4:Nat) (a4:A3) (z4:(List Int)×Int×(List Int)):Option (Ctl ((List Int)×Int×(List Int)) Unit):=
 (F65 (⟨z4.1,z4.2.1⟩:Ap) [a4.Load,a4.Load,a4.Least,w64 (Int.tdiv a4.Load 3)]).bind λ y25=>(appI 9 z4.2.2 [y25.1]).bind λ y27=>some (.next (y25.2.L,y25.2.At,y27))
def Sh (x1:Aa) (z5:Int×(List Int)×Int×(List As)):Option (Ctl (Int×(List Int)×Int×(List As)) Unit):=
 bif decide (z5.1<=4) then (F60 (⟨z5.2.1,z5.2.2.1⟩:Ap) 5).bind λ y30=>bif (y30.1==4) then (F60 y30.2 4).bind λ y33=>bif F47 x1 (⟨z5.1,y33.1⟩:As) then (appI 17 z5.2.2.2 [(⟨z5.1,y33.1⟩:As)]).bind λ y36=>some (.next (w64 (z5.1+1),y33.2.L,y33.2.At,y36)) else some (.next (w64 (z5.1+1),y33.2.L,y33.2.At,z5.2.2.2)) else some (.next (w64 (z5.1+1),y30.2.L,y30.2.At,z5.2.2.2)) else some (.brk (z5.1,z5.2.1,z5.2.2.1,z5.2.2.2))
def uQ (x0:Ap) (x1:Aa):Option (Ab×Ap):=
 andThen (whileN (Sm x1) 1152921504606846976 (0,x0.L,x0.At,([]:List Bool))) (λ _=>none) λ z0=>andThen (whileN (Sl x1) 1152921504606846976 (0,z0.2.2.2)) (λ _=>none) λ z1=>andThen (whileN (Sj x1) 1152921504606846976 (0,z0.2.1,z0.2.2.1,([]:List Ai))) (λ _=>none) λ z3=>andThen (foldI Si x1.Af 0 (z3.2.1,z3.2.2.1,([]:List Int))) (λ _=>none) λ z4=>andThen (whileN (Sh x1) 7 (1,z4.1,z4.2.1,([]:List As))) (λ _=>none) λ z5=>some ((⟨z1.2,z3.2.2.2,z4.2.2,z5.2.2.2⟩:Ab),(⟨z5.2.1,z5.2.2.1⟩:Ap))
def Hv (x1:Int) (x2:Int) (a0:Ag):Bool:=((a0.Kind==x1)&&((a0.B==x2) || ((x1==1)&&(a0.A==x2))))
def Aj5 (x1:Int) (x2:Int) (n0:Nat) (a0:Ag) (z0:(List Int)):Option (Ctl ((List Int)) Unit):=
 bif (Hv x1 x2 a0) then (appI 9 z0 [cnt 0 n0]).bind λ y2=>some (.next y2) else some (.next z0)
def F49 (x0:Aa) (x1:Int) (x2:Int):Option ((List Int)):=
 andThen (foldI (Aj5 x1 x2) x0.Ad 0 ([]:List Int)) (λ _=>none) λ z0=>some z0
def Azw (x0:Aa) (a0:Ag):Bool:=!(F46 a0.B (w64 (a0.A+1)) (w64 (x0.Am-1)))
def Azv (x0:Aa) (a0:Ag):Bool:=!(F46 a0.B 0 (w64 ((x0.Ac.length:Int)-1)))
def Azu (x0:Aa) (a0:Ag):Bool:=!(F46 a0.B 0 (w64 ((x0.Af.length:Int)-1)))
def Aow (a0:Ag) (a1:Ag):Bool:=((a1.Kind==a0.Kind)&&((a1.A==a0.A)&&((a1.B==a0.B)&&true)))
def uH (a0:Ag) (n1:Nat) (a1:Ag) (z1:Unit):Option (Ctl Unit Bool):=
 bif (Aow a0 a1) then some (.ret false) else some (.next ())
def Aji (x0:Aa) (n0:Nat) (a0:Ag) (z0:Unit):Option (Ctl Unit Bool):=
 bif !(F46 a0.A 0 (w64 (x0.Am-1))) then some (.ret false) else bif (a0.Kind==1) then bif (Azw x0 a0) then some (.ret false) else some (.next ()) else bif (a0.Kind==2) then bif (Azv x0 a0) then some (.ret false) else some (.next ()) else bif (a0.Kind==3) then bif (Azu x0 a0) then some (.ret false) else (cutI x0.Ad 0 (cnt 0 n0)).bind λ y9=>andThen (foldI (uH a0) y9 0 ()) (λ v=>some (.ret v)) λ z1=>some (.next ()) else some (.ret false)
def Auk (x0:Aa) (z2:Int):Bool:=decide (z2<(x0.Ac.length:Int))
def Ajh (x0:Aa) (z2:Int):Option (Ctl Int Bool):=
 bif (Auk x0 z2) then (F49 x0 2 z2).bind λ y12=>bif ((y12.length:Int) != 1) then some (.ret false) else some (.next (w64 (z2+1))) else some (.brk z2)
def Auj (x0:Aa) (z3:Int):Bool:=decide (z3<(x0.Af.length:Int))
def Ajg (x0:Aa) (z3:Int):Option (Ctl Int Bool):=
 bif (Auj x0 z3) then (F49 x0 3 z3).bind λ y16=>bif decide ((y16.length:Int)<1) then some (.ret false) else some (.next (w64 (z3+1))) else some (.brk z3)
def F95 (x0:Aa):Option Bool:=
 andThen (foldI (Aji x0) x0.Ad 0 ()) some λ z0=>andThen (whileN (Ajh x0) 1152921504606846976 0) some λ z2=>andThen (whileN (Ajg x0) 1152921504606846976 0) some λ z3=>some true
def Azt (a0:Bc):Bool:=(((!(F46 a0.Rating 1 50000)) || (!(F46 a0.Least 0 a0.Rating))) || (!(F46 a0.Start 0 600)))
def Ajf (n0:Nat) (a0:Bc) (z0:Unit):Option (Ctl Unit Bool):=
 bif (Azt a0) then some (.ret false) else some (.next ())
def F96 (x0:Aa):Option Bool:=
 andThen (foldI Ajf x0.Ac 0 ()) some λ z0=>some true
def Azs (a0:A3):Bool:=(((((!(F46 a0.Load 0 50000)) || (!(F46 a0.Least 0 a0.Load))) || (!(F46 a0.Bl 0 15))) || (!(F46 a0.Thruster (-1) 7))) || (decide ((a0.Needs.length:Int)>4)))
def Azr (n0:Nat) (n1:Nat) (a1:Int) (y2:Int):Bool:=((!(F46 a1 0 (w64 ((cnt 0 n0)-1)))) || ((decide ((cnt 0 n1)>0))&&(decide (y2>=a1))))
def Ajd (n0:Nat) (a0:A3) (n1:Nat) (a1:Int) (z1:Unit):Option (Ctl Unit Bool):=
 (Az [(!(F46 a1 0 (w64 ((cnt 0 n0)-1))),false),(decide ((cnt 0 n1)>0),true)] (getI a0.Needs (w64 ((cnt 0 n1)-1))) default).bind λ y2=>bif (Azr n0 n1 a1 y2) then some (.ret false) else some (.next ())
def Aje (n0:Nat) (a0:A3) (z0:Unit):Option (Ctl Unit Bool):=
 bif (Azs a0) then some (.ret false) else andThen (foldI (Ajd n0 a0) a0.Needs 0 ()) (λ v=>some (.ret v)) λ z1=>some (.next ())
def F97 (x0:Aa):Option Bool:=
 andThen (foldI Aje x0.Af 0 ()) some λ z0=>some true
def Aoy (x0:Aa):Bool:=(((((decide (x0.Am<1)) || (decide (x0.Am>6))) || (decide ((x0.Ad.length:Int)>24))) || (decide ((x0.Ac.length:Int)>8))) || (decide ((x0.Af.length:Int)>16)))
def Aox (x0:Aa) (y2:Bool) (y4:Bool) (y6:Bool):Bool:=(((((((!y2) || (!y4)) || (!y6)) || (decide (x0.Phase<0))) || (decide (x0.Phase>1800))) || (decide (x0.Au<0))) || (decide (x0.Au>6000)))
def F45 (x0:Aa):Option Int:=
 bif (Aoy x0) then some 2 else (F95 x0).bind λ y2=>(Az [(!y2,false)] (F96 x0) default).bind λ y4=>(Az [(((!y2) || (!y4)),false)] (F97 x0) default).bind λ y6=>bif (Aox x0 y2 y4 y6) then some 14 else some 0
def F48 (x0:As) (x1:As):Bool:=
 ((decide (x0.Kind<x1.Kind)) || ((x0.Kind==x1.Kind)&&(decide (x0.Number<x1.Number))))
def A0e (x0:Aa) (x1:Ab):Bool:=((((x1.Ae.length:Int) != (x0.Ad.length:Int)) || ((x1.Ac.length:Int) != (x0.Ac.length:Int))) || ((x1.Al.length:Int) != (x0.Af.length:Int)))
def A0d (a0:Ai):Bool:=((((!(F46 a0.State 0 3)) || (!(F46 a0.Since 0 2147483648))) || (!(F46 a0.Au 0 6000))) || (!(F46 a0.Phase 0 3599)))
def Akl (n0:Nat) (a0:Ai) (z0:Unit):Option (Ctl Unit Int):=
 bif (A0d a0) then some (.ret 11) else some (.next ())
def Akk (x0:Aa) (n1:Nat) (a1:Int) (z1:Unit):Option (Ctl Unit Int):=
 (getI x0.Af (cnt 0 n1)).bind λ y6=>bif !(F46 a1 0 y6.Load) then some (.ret 11) else some (.next ())
def A0c (x0:Aa) (n2:Nat) (a2:As) (y10:As):Bool:=((!(F47 x0 a2)) || ((decide ((cnt 0 n2)>0))&&(!(F48 y10 a2))))
def Akj (x0:Aa) (x1:Ab) (n2:Nat) (a2:As) (z2:Unit):Option (Ctl Unit Int):=
 (Az [(!(F47 x0 a2),false),(decide ((cnt 0 n2)>0),true)] (getI x1.Ah (w64 ((cnt 0 n2)-1))) default).bind λ y10=>bif (A0c x0 n2 a2 y10) then some (.ret 11) else some (.next ())
def A0b (x0:Aa) (z3:Int):Bool:=decide (z3<(x0.Af.length:Int))
def Akh (x1:Ab) (n4:Nat) (a4:Int) (z4:Int):Option (Ctl Int Unit):=
 (getI x1.Ae a4).bind λ y16=>bif y16 then some (.next (w64 (z4+1))) else some (.next z4)
def Aki (x0:Aa) (x1:Ab) (z3:Int):Option (Ctl Int Int):=
 bif (A0b x0 z3) then (F49 x0 3 z3).bind λ y14=>andThen (foldI (Akh x1) y14 0 0) (λ _=>none) λ z4=>bif decide (z4>1) then some (.ret 11) else some (.next (w64 (z3+1))) else some (.brk z3)
def F11 (x0:Aa) (x1:Ab):Option Int:=
 (F45 x0).bind λ y1=>bif (y1 != 0) then some y1 else bif (A0e x0 x1) then some 8 else andThen (foldI Akl x1.Ac 0 ()) some λ z0=>andThen (foldI (Akk x0) x1.Al 0 ()) some λ z1=>bif decide ((x1.Ah.length:Int)>32) then some 11 else andThen (foldI (Akj x0 x1) x1.Ah 0 ()) some λ z2=>andThen (whileN (Aki x0 x1) 1152921504606846976 0) some λ z3=>some 0
def Ze (x0:Ab):Option Ab:=
 (appI 2 ([]:List Bool) x0.Ae).bind λ y1=>(appI 33 ([]:List Ai) x0.Ac).bind λ y3=>(appI 9 ([]:List Int) x0.Al).bind λ y5=>(appI 17 ([]:List As) x0.Ah).bind λ y7=>some (⟨y1,y3,y5,y7⟩:Ab)
def Az9 (x1:Int) (x2:Int) (a0:As):Bool:=((a0.Kind==x1)&&(a0.Number==x2))
def uY (x1:Int) (x2:Int) (n0:Nat) (a0:As) (z0:Unit):Option (Ctl Unit Bool):=
 bif (Az9 x1 x2 a0) then some (.ret true) else some (.next ())
def F15 (x0:Ab) (x1:Int) (x2:Int):Option Bool:=
 andThen (foldI (uY x1 x2) x0.Ah 0 ()) some λ z0=>some false
def Akm (x0:Aa) (x1:Ab) (x2:Int):Option Bool:=
 (getI x0.Ad x2).bind λ y1=>(F15 x1 3 y1.A).bind λ y3=>bif y3 then some true else bif (y1.Kind==1) then (F15 x1 3 y1.B).bind λ y7=>some y7 else bif (y1.Kind==2) then (F15 x1 1 y1.B).bind λ y10=>(Az [(y10,false)] (getI x1.Ac y1.B) default).bind λ y12=>some (y10 || (y12.State != 2)) else (F15 x1 4 y1.B).bind λ y14=>some y14
def qQ (a1:Ag) (y7:Bool) (y9:Bool) (y11:Bool):Bool:=(((a1.Kind==1)&&y7)&&(y9 || y11))
def Ajb (x1:Ab) (n1:Nat) (a1:Ag) (z1:(List Bool)):Option (Ctl ((List Bool)) Unit):=
 (Az [((a1.Kind==1),true)] (getI x1.Ae (cnt 0 n1)) default).bind λ y7=>(Az [(((a1.Kind==1)&&y7),true)] (getI z1 a1.A) default).bind λ y9=>(Az [(((a1.Kind==1)&&y7),true),(y9,false)] (getI z1 a1.B) default).bind λ y11=>bif (qQ a1 y7 y9 y11) then (getI z1 a1.A).bind λ y14=>(setI z1 a1.A true).bind λ y16=>(getI y16 a1.B).bind λ y18=>(setI y16 a1.B true).bind λ y20=>some (.next y20) else some (.next z1)
def Ajc (x0:Aa) (x1:Ab) (n0:Nat) (a0:Bool) (z0:(List Bool)):Option (Ctl ((List Bool)) Unit):=
 andThen (foldI (Ajb x1) x0.Ad 0 z0) (λ _=>none) λ z1=>some (.next z1)
def Aja (n2:Nat) (a2:Bool) (z2:(List Int)):Option (Ctl ((List Int)) Unit):=
 bif a2 then (appI 9 z2 [cnt 0 n2]).bind λ y23=>some (.next y23) else some (.next z2)
def F98 (x0:Aa) (x1:Ab) (x2:Int):Option ((List Int)):=
 (mkI 2 x0.Am false).bind λ y1=>(getI y1 x2).bind λ y3=>(setI y1 x2 true).bind λ y5=>andThen (foldI (Ajc x0 x1) y5 0 y5) (λ _=>none) λ z0=>andThen (foldI Aja z0 0 ([]:List Int)) (λ _=>none) λ z2=>some z2
def Adn (x0:Aa) (x2:Int) (y1:Int) (y3:Ai):Bool:=((((y1 != 0) || (decide (x2<0))) || (decide (x2>=(x0.Ac.length:Int)))) || (y3.State != 2))
def F52 (x0:Aa) (x1:Ab) (x2:Int):Option (Int×Bool):=
 (F11 x0 x1).bind λ y1=>(Az [((((y1 != 0) || (decide (x2<0))) || (decide (x2>=(x0.Ac.length:Int)))),false)] (getI x1.Ac x2) default).bind λ y3=>bif (Adn x0 x2 y1 y3) then some (0,false) else (F49 x0 2 x2).bind λ y6=>(getI y6 0).bind λ y8=>(getI x1.Ae y8).bind λ y10=>bif !y10 then some (0,false) else (getI x0.Ad y8).bind λ y13=>some (y13.A,true)
def uL (x1:Int) (n0:Nat) (a0:Int) (z0:Unit):Option (Ctl Unit Bool):=
 bif (a0==x1) then some (.ret true) else some (.next ())
def F53 (x0:List Int) (x1:Int):Option Bool:=
 andThen (foldI (uL x1) x0 0 ()) some λ z0=>some false
def A0a (x0:Aa) (x2:Int) (y1:Int):Bool:=(((y1 != 0) || (decide (x2<0))) || (decide (x2>=(x0.Af.length:Int))))
def vA (x0:Aa) (x1:Ab) (n0:Nat) (a0:Int) (z0:Unit):Option (Ctl Unit (Int×Bool)):=
 (getI x1.Ae a0).bind λ y6=>bif y6 then (getI x0.Ad a0).bind λ y9=>some (.ret (y9.A,true)) else some (.next ())
def F13 (x0:Aa) (x1:Ab) (x2:Int):Option (Int×Bool):=
 (F11 x0 x1).bind λ y1=>bif (A0a x0 x2 y1) then some (0,false) else (F49 x0 3 x2).bind λ y4=>andThen (foldI (vA x0 x1) y4 0 ()) some λ z0=>some (0,false)
def Az6 (x0:Aa) (x2:Int) (y1:Int):Bool:=(((y1 != 0) || (decide (x2<0))) || (decide (x2>=x0.Am)))
def Az5 (x0:Aa) (z0:Int×(List Int)):Bool:=decide (z0.1<(x0.Ac.length:Int))
def Aj4 (x0:Aa) (x1:Ab) (y4:(List Int)) (z0:Int×(List Int)):Option (Ctl (Int×(List Int)) Unit):=
 bif (Az5 x0 z0) then (F52 x0 x1 z0.1).bind λ y7=>(Az [(y7.2,true)] (F53 y4 y7.1) default).bind λ y9=>bif (y7.2&&y9) then (appI 9 z0.2 [z0.1]).bind λ y12=>some (.next (w64 (z0.1+1),y12)) else some (.next (w64 (z0.1+1),z0.2)) else some (.brk (z0.1,z0.2))
def Az4 (x0:Aa) (z1:Int×(List Int)):Bool:=decide (z1.1<(x0.Af.length:Int))
def Aj3 (x0:Aa) (x1:Ab) (y4:(List Int)) (z1:Int×(List Int)):Option (Ctl (Int×(List Int)) Unit):=
 bif (Az4 x0 z1) then (F13 x0 x1 z1.1).bind λ y15=>(Az [(y15.2,true)] (F53 y4 y15.1) default).bind λ y17=>bif (y15.2&&y17) then (appI 9 z1.2 [z1.1]).bind λ y20=>some (.next (w64 (z1.1+1),y20)) else some (.next (w64 (z1.1+1),z1.2)) else some (.brk (z1.1,z1.2))
def F50 (x0:Aa) (x1:Ab) (x2:Int):Option (Aj×Bool):=
 (F11 x0 x1).bind λ y1=>bif (Az6 x0 x2 y1) then some ((⟨([]:List Int),([]:List Int),([]:List Int)⟩:Aj),false) else (F98 x0 x1 x2).bind λ y4=>andThen (whileN (Aj4 x0 x1 y4) 1152921504606846976 (0,([]:List Int))) (λ _=>none) λ z0=>andThen (whileN (Aj3 x0 x1 y4) 1152921504606846976 (0,([]:List Int))) (λ _=>none) λ z1=>some ((⟨y4,z0.2,z1.2⟩:Aj),true)
def F14 (x0:Aa) (x1:Ab) (x2:Int):Option Bool:=
 (F50 x0 x1 x2).bind λ y1=>some (y1.2&&(decide ((y1.1.Ac.length:Int)>0)))
def Akd (x0:Aa) (x1:Ab) (z0:Int×(List Aj)):Option (Ctl (Int×(List Aj)) Unit):=
 bif decide (z0.1<x0.Am) then (F50 x0 x1 z0.1).bind λ y5=>(getI y5.1.Am 0).bind λ y7=>bif (y7==z0.1) then (appI 73 z0.2 [y5.1]).bind λ y10=>some (.next (w64 (z0.1+1),y10)) else some (.next (w64 (z0.1+1),z0.2)) else some (.brk (z0.1,z0.2))
def F21 (x0:Aa) (x1:Ab):Option ((List Aj)):=
 (F11 x0 x1).bind λ y1=>bif (y1 != 0) then some ([]:List Aj) else andThen (whileN (Akd x0 x1) 1152921504606846976 (0,([]:List Aj))) (λ _=>none) λ z0=>some z0.2
def zX (x1:Ab) (a0:Aj) (n1:Nat) (a1:Int) (z1:(List Ai)):Option (Ctl ((List Ai)) Unit):=
 (getI a0.Ac 0).bind λ y5=>(getI x1.Ac y5).bind λ y7=>(getI a0.Ac 0).bind λ y9=>(getI x1.Ac y9).bind λ y11=>(getI z1 a1).bind λ y13=>(setI z1 a1 (⟨y13.State,y13.Since,y7.Au,y13.Phase⟩:Ai)).bind λ y15=>(getI y15 a1).bind λ y17=>(setI y15 a1 (⟨y17.State,y17.Since,y17.Au,y11.Phase⟩:Ai)).bind λ y19=>some (.next y19)
def zY (x1:Ab) (n0:Nat) (a0:Aj) (z0:(List Ai)):Option (Ctl ((List Ai)) Unit):=
 andThen (foldI (zX x1 a0) a0.Ac 0 z0) (λ _=>none) λ z1=>some (.next z1)
def Aqm (x0:Aa) (x1:Ab):Option Ab:=
 (Ze x1).bind λ y1=>(F21 x0 x1).bind λ y3=>andThen (foldI (zY x1) y3 0 y1.Ac) (λ _=>none) λ z0=>some (⟨y1.Ae,z0,y1.Al,y1.Ah⟩:Ab)
def Aaf (x0:Aa) (x1:Ab):Option (Ab×Int):=
 (F11 x0 x1).bind λ y1=>bif (y1 != 0) then some ((⟨([]:List Bool),([]:List Ai),([]:List Int),([]:List As)⟩:Ab),y1) else (Aqm x0 x1).bind λ y4=>some (y4,0)
def Az2 (x0:Aa) (z0:Int×(List Bool)×(List Ak)):Bool:=decide (z0.1<(x0.Ad.length:Int))
def Ajz (x0:Aa) (x1:Ab) (z0:Int×(List Bool)×(List Ak)):Option (Ctl (Int×(List Bool)×(List Ak)) Unit):=
 bif (Az2 x0 z0) then (getI z0.2.1 z0.1).bind λ y7=>(Az [(y7,true)] (Akm x0 x1 z0.1) default).bind λ y9=>bif (y7&&y9) then (setI z0.2.1 z0.1 false).bind λ y12=>(appI 25 z0.2.2 [(⟨2,z0.1,0⟩:Ak)]).bind λ y14=>some (.next (w64 (z0.1+1),y12,y14)) else some (.next (w64 (z0.1+1),z0.2.1,z0.2.2)) else some (.brk (z0.1,z0.2.1,z0.2.2))
def Ajy (x0:Aa) (y4:Ab) (n1:Nat) (a1:Ag) (z1:(List Bool)×(List Ak)):Option (Ctl ((List Bool)×(List Ak)) Unit):=
 (Az [((a1.Kind==3),true)] (getI z1.1 (cnt 0 n1)) default).bind λ y16=>(Az [(((a1.Kind==3)&&y16),true)] (F14 x0 (⟨z1.1,y4.Ac,y4.Al,y4.Ah⟩:Ab) a1.A) default).bind λ y18=>bif (((a1.Kind==3)&&y16)&&(!y18)) then (getI z1.1 (cnt 0 n1)).bind λ y21=>(setI z1.1 (cnt 0 n1) false).bind λ y23=>(appI 25 z1.2 [(⟨2,cnt 0 n1,0⟩:Ak)]).bind λ y25=>some (.next (y23,y25)) else some (.next (z1.1,z1.2))
def F66 (x0:Aa) (x1:Ab):Option (Ab×(List Ak)×Int):=
 (F11 x0 x1).bind λ y1=>bif (y1 != 0) then some ((⟨([]:List Bool),([]:List Ai),([]:List Int),([]:List As)⟩:Ab),([]:List Ak),y1) else (Ze x1).bind λ y4=>andThen (whileN (Ajz x0 x1) 1152921504606846976 (0,y4.Ae,([]:List Ak))) (λ _=>none) λ z0=>andThen (foldI (Ajy x0 y4) x0.Ad 0 (z0.2.1,z0.2.2)) (λ _=>none) λ z1=>(Aaf x0 (⟨z1.1,y4.Ac,y4.Al,y4.Ah⟩:Ab)).bind λ y27=>some (y27.1,z1.2,0)
def vC (z0:Int×(List Int)) (n1:Nat) (a1:A3) (z1:(List Int)):Option (Ctl ((List Int)) Unit):=
 bif (a1.Bl==z0.1) then (appI 9 z1 [cnt 0 n1]).bind λ y6=>some (.next y6) else some (.next z1)
def vD (x0:Aa) (z0:Int×(List Int)):Option (Ctl (Int×(List Int)) Unit):=
 bif decide (z0.1<=15) then andThen (foldI (vC z0) x0.Af 0 z0.2) (λ _=>none) λ z1=>some (.next (w64 (z0.1+1),z1)) else some (.brk (z0.1,z0.2))
def F12 (x0:Aa):Option ((List Int)):=
 (F45 x0).bind λ y1=>bif (y1 != 0) then some ([]:List Int) else andThen (whileN (vD x0) 18 (0,([]:List Int))) (λ _=>none) λ z0=>some z0.2
def qS (y1:Aj×Bool):Bool:=((!y1.2) || ((y1.1.Ac.length:Int)==0))
def uV (x1:Ab) (n0:Nat) (a0:Int) (z0:Int):Option (Ctl Int Unit):=
 (getI x1.Al a0).bind λ y4=>some (.next (w64 (z0+y4)))
def F17 (x0:Aa) (x1:Ab) (x2:Int):Option Int:=
 (F50 x0 x1 x2).bind λ y1=>bif (qS y1) then some 0 else andThen (foldI (uV x1) y1.1.Af 0 0) (λ _=>none) λ z0=>some z0
def Ake (x0:Aa) (n0:Nat) (a0:Int) (z0:Int):Option (Ctl Int Unit):=
 (getI x0.Ac a0).bind λ y3=>some (.next (w64 (z0+y3.Rating)))
def F18 (x0:Aa) (x1:Ab) (x2:Int):Option Int:=
 (F50 x0 x1 x2).bind λ y1=>andThen (foldI (Ake x0) y1.1.Ac 0 0) (λ _=>none) λ z0=>some z0
def F16 (x0:Aa) (x1:Int) (x2:Int):Option ((List Int)):=
 (F45 x0).bind λ y1=>bif (y1 != 0) then some ([]:List Int) else (F49 x0 x1 x2).bind λ y4=>some y4
def qR (z1:Int×(List Int)×(List Ak)) (y18:A3) (y20:Bool) (y22:Int):Bool:=(((decide (z1.1<=0)) || (!y20)) || (decide (y22<=y18.Least)))
def Ajw (x0:Aa) (a0:Aj) (n1:Nat) (a1:Int) (z1:Int×(List Int)×(List Ak)):Option (Ctl (Int×(List Int)×(List Ak)) Unit):=
 (getI x0.Af a1).bind λ y18=>(Az [(decide (z1.1<=0),false)] (F53 a0.Af a1) default).bind λ y20=>(Az [(((decide (z1.1<=0)) || (!y20)),false)] (getI z1.2.1 a1) default).bind λ y22=>bif (qR z1 y18 y20 y22) then some (.next (z1.1,z1.2.1,z1.2.2)) else (getI z1.2.1 a1).bind λ y25=>(setI z1.2.1 a1 (w64 (y25-(min z1.1 (w64 (y25-y18.Least)))))).bind λ y27=>(getI y27 a1).bind λ y29=>(appI 25 z1.2.2 [(⟨5,a1,y29⟩:Ak)]).bind λ y31=>some (.next (w64 (z1.1-(min z1.1 (w64 (y25-y18.Least)))),y27,y31))
def A4x (z2:Int×(List Bool)×(List Ak)) (y33:Bool) (y35:Int):Bool:=(((decide (z2.1<=0)) || (!y33)) || (y35==0))
def Aju (n3:Nat) (a3:Int) (z3:(List Bool)×(List Ak)):Option (Ctl ((List Bool)×(List Ak)) Unit):=
 (getI z3.1 a3).bind λ y40=>bif y40 then (setI z3.1 a3 false).bind λ y43=>(appI 25 z3.2 [(⟨2,a3,0⟩:Ak)]).bind λ y45=>some (.next (y43,y45)) else some (.next (z3.1,z3.2))
def Ajv (x0:Aa) (a0:Aj) (z1:Int×(List Int)×(List Ak)) (n2:Nat) (a2:Int) (z2:Int×(List Bool)×(List Ak)):Option (Ctl (Int×(List Bool)×(List Ak)) Unit):=
 (Az [(decide (z2.1<=0),false)] (F53 a0.Af a2) default).bind λ y33=>(Az [(((decide (z2.1<=0)) || (!y33)),false)] (getI z1.2.1 a2) default).bind λ y35=>bif (A4x z2 y33 y35) then some (.next (z2.1,z2.2.1,z2.2.2)) else (F16 x0 3 a2).bind λ y38=>andThen (foldI Aju y38 0 (z2.2.1,z2.2.2)) (λ _=>none) λ z3=>(getI z1.2.1 a2).bind λ y47=>some (.next (w64 (z2.1-y47),z3.1,z3.2))
def Ajx (x0:Aa) (x1:Ab) (y6:(List Int)) (n0:Nat) (a0:Aj) (z0:Sg0):Option (Ctl (Sg0) Unit):=
 (getI a0.Am 0).bind λ y10=>(F17 x0 x1 y10).bind λ y12=>(getI a0.Am 0).bind λ y14=>(F18 x0 x1 y14).bind λ y16=>andThen (foldI (Ajw x0 a0) y6 0 (w64 (y12-y16),z0.2.1,z0.2.2)) (λ _=>none) λ z1=>andThen (foldI (Ajv x0 a0 z1) y6 0 (z1.1,z0.1,z1.2.2)) (λ _=>none) λ z2=>some (.next (z2.2.1,z1.2.1,z2.2.2))
def F67 (x0:Aa) (x1:Ab):Option (Ab×(List Ak)×Int):=
 (F11 x0 x1).bind λ y1=>bif (y1 != 0) then some ((⟨([]:List Bool),([]:List Ai),([]:List Int),([]:List As)⟩:Ab),([]:List Ak),y1) else (Ze x1).bind λ y4=>(F12 x0).bind λ y6=>(F21 x0 x1).bind λ y8=>andThen (foldI (Ajx x0 x1 y6) y8 0 (y4.Ae,y4.Al,([]:List Ak))) (λ _=>none) λ z0=>some ((⟨z0.1,y4.Ac,z0.2.1,y4.Ah⟩:Ab),z0.2.2,0)
def F29 (x0:Aa) (x1:Ab):Option (Ab×(List Ak)×Int):=
 (F66 x0 x1).bind λ y1=>bif (y1.2.2 != 0) then some ((⟨([]:List Bool),([]:List Ai),([]:List Int),([]:List As)⟩:Ab),([]:List Ak),y1.2.2) else (F67 x0 y1.1).bind λ y4=>(appI 25 y1.2.1 y4.2.1).bind λ y6=>some (y4.1,y6,0)
def F7 (x0:Ap):Option (Aa×Ab×Ap):=
 (F28 x0).bind λ y1=>(uQ y1.2 y1.1).bind λ y3=>(F29 y1.1 y3.1).bind λ y5=>some (y1.1,y5.1,y3.2)
def F93 (x0:Int) (x1:Int) (x2:Int):Bool:=
 ((decide (x0>=x1))&&(decide (x0<=x2)))
def Am6 (x1:Int) (n0:Nat) (a0:Int) (z0:Unit):Option (Ctl Unit Int):=
 bif (x1==a0) then some (.ret (cnt 0 n0)) else some (.next ())
def Aqp (x0:List Int) (x1:Int):Option Int:=
 andThen (foldI (Am6 x1) x0 0 ()) some λ z0=>some (-1)
def F59 (x0:List Int) (x1:Int):Option Bool:=
 (Aqp x0 x1).bind λ y1=>some (decide (y1>=0))
def Ay9 (x0:List Int):Bool:=
 ((x0.length:Int)==0)
def Acw (n0:Nat) (a0:List Int) (z0:Unit):Option (Ctl Unit Int):=
 bif Ay9 a0 then some (.ret (cnt 0 n0)) else some (.next ())
def uW (x0:List (List Int)):Option Int:=
 andThen (foldI Acw x0 0 ()) some λ z0=>some (-1)
def Va (x0:List (List Int)):Option Bool:=
 (uW x0).bind λ y1=>some (decide (y1>=0))
def Aov (x0:Aa) (a0:Ag):Bool:=((a0.Kind==1)&&(F93 a0.B (w64 (a0.A+1)) (w64 (x0.Am-1))))
def Aou (z0:(List Int)×(List (List Int))) (a0:Ag) (y7:Int):Bool:=(((a0.Kind==2)&&(F93 a0.B 0 (w64 ((z0.1.length:Int)-1))))&&(y7==0))
def Azq (z0:(List Int)×(List (List Int))) (a0:Ag) (y16:Bool):Bool:=(((a0.Kind==3)&&(F93 a0.B 0 (w64 ((z0.2.length:Int)-1))))&&(!y16))
def Ai9 (x0:Aa) (n0:Nat) (a0:Ag) (z0:(List Int)×(List (List Int))):Option (Ctl ((List Int)×(List (List Int))) Bool):=
 bif !(F93 a0.A 0 (w64 (x0.Am-1))) then some (.ret false) else bif (Aov x0 a0) then some (.next (z0.1,z0.2)) else (Az [(((a0.Kind==2)&&(F93 a0.B 0 (w64 ((z0.1.length:Int)-1)))),true)] (getI z0.1 a0.B) default).bind λ y7=>bif (Aou z0 a0 y7) then (getI z0.1 a0.B).bind λ y10=>(setI z0.1 a0.B (w64 (y10+1))).bind λ y12=>some (.next (y12,z0.2)) else (Az [(((a0.Kind==3)&&(F93 a0.B 0 (w64 ((z0.2.length:Int)-1)))),true)] (getI z0.2 a0.B) default).bind λ y14=>(Az [(((a0.Kind==3)&&(F93 a0.B 0 (w64 ((z0.2.length:Int)-1)))),true)] (F59 y14 a0.A) default).bind λ y16=>bif (Azq z0 a0 y16) then (getI z0.2 a0.B).bind λ y19=>(appI 9 y19 [a0.A]).bind λ y21=>(setI z0.2 a0.B y21).bind λ y23=>some (.next (z0.1,y23)) else some (.ret false)
def F99 (x0:Aa):Option Bool:=
 (mkI 9 (x0.Ac.length:Int) 0).bind λ y1=>(mkI 25 (x0.Af.length:Int) ([]:List Int)).bind λ y3=>andThen (foldI (Ai9 x0) x0.Ad 0 (y1,y3)) some λ z0=>(F59 z0.1 0).bind λ y27=>(Az [(!y27,true)] (Va z0.2) default).bind λ y29=>some ((!y27)&&(!y29))
def Aah (x0:Bc):Bool:=
 (((F93 x0.Rating 1 50000)&&(F93 x0.Least 0 x0.Rating))&&(F93 x0.Start 0 600))
def Auq (x1:Int) (n0:Nat) (a0:Int) (y1:Int):Bool:=((!(F93 a0 0 (w64 (x1-1)))) || ((decide ((cnt 0 n0)>0))&&(decide (y1>=a0))))
def W5 (x0:A3) (x1:Int) (n0:Nat) (a0:Int) (z0:Unit):Option (Ctl Unit Bool):=
 (Az [(!(F93 a0 0 (w64 (x1-1))),false),(decide ((cnt 0 n0)>0),true)] (getI x0.Needs (w64 ((cnt 0 n0)-1))) default).bind λ y1=>bif (Auq x1 n0 a0 y1) then some (.ret false) else some (.next ())
def Aag (x0:A3) (x1:Int):Option Bool:=
 andThen (foldI (W5 x0 x1) x0.Needs 0 ()) some λ z0=>some (((((F93 x0.Load 0 50000)&&(F93 x0.Least 0 x0.Load))&&(F93 x0.Bl 0 15))&&(F93 x0.Thruster (-1) 7))&&(decide ((x0.Needs.length:Int)<=4)))
def Az3 (x0:Aa):Bool:=((((!(F93 x0.Am 1 6)) || (decide ((x0.Ad.length:Int)>24))) || (decide ((x0.Ac.length:Int)>8))) || (decide ((x0.Af.length:Int)>16)))
def Awp (n0:Nat) (a0:Bc) (z0:Bool):Option (Ctl Bool Unit):=
 some (.next (z0&&(Aah a0)))
def Aj2 (n1:Nat) (a1:A3) (z1:Bool):Option (Ctl Bool Unit):=
 (Az [(z1,true)] (Aag a1 (cnt 0 n1)) default).bind λ y4=>some (.next (z1&&y4))
def F51 (x0:Aa):Option Int:=
 bif (Az3 x0) then some 2 else (F99 x0).bind λ y2=>andThen (foldI Awp x0.Ac 0 ((y2&&(F93 x0.Phase 0 1800))&&(F93 x0.Au 0 6000))) (λ _=>none) λ z0=>andThen (foldI Aj2 x0.Af 0 z0) (λ _=>none) λ z1=>bif !z1 then some 14 else some 0
def L_ (x0:Aa) (x1:Int):Int:=
 bif (x1==1) then (x0.Ac.length:Int) else bif (x1==2) then (x0.Ad.length:Int) else bif (x1==3) then x0.Am else bif (x1==4) then (x0.Af.length:Int) else 0
def Y9 (x0:Int):Bool:=
 (x0 != x0)
def K1 (x0:Int) (x1:Int):Int:=
 bif Y9 x0 then bif Y9 x1 then 0 else (-1) else bif Y9 x1 then 1 else bif decide (x0<x1) then (-1) else bif decide (x0>x1) then 1 else 0
def W0 (n0:Nat) (a0:Int) (z0:Unit):Option (Ctl Unit Int):=
 bif (a0 != 0) then some (.ret a0) else some (.next ())
def zZ (x0:List Int):Option Int:=
 andThen (foldI W0 x0 0 ()) some λ z0=>some 0
def Azy (x0:Aa) (n0:Nat) (a0:As) (y5:Int):Bool:=((!(F93 a0.Number 0 (w64 ((L_ x0 a0.Kind)-1)))) || ((decide ((cnt 0 n0)>0))&&(decide (y5>=0))))
def uI (x0:Aa) (x1:List As) (n0:Nat) (a0:As) (z0:Unit):Option (Ctl Unit Bool):=
 (Az [(!(F93 a0.Number 0 (w64 ((L_ x0 a0.Kind)-1))),false),(decide ((cnt 0 n0)>0),true)] (getI x1 (w64 ((cnt 0 n0)-1))) default).bind λ y1=>(Az [(!(F93 a0.Number 0 (w64 ((L_ x0 a0.Kind)-1))),false),(decide ((cnt 0 n0)>0),true)] (getI x1 (w64 ((cnt 0 n0)-1))) default).bind λ y3=>(Az [(!(F93 a0.Number 0 (w64 ((L_ x0 a0.Kind)-1))),false),(decide ((cnt 0 n0)>0),true)] (zZ [K1 y1.Kind a0.Kind,K1 y3.Number a0.Number]) default).bind λ y5=>bif (Azy x0 n0 a0 y5) then some (.ret false) else some (.next ())
def F89 (x0:Aa) (x1:List As):Option Bool:=
 andThen (foldI (uI x0 x1) x1 0 ()) some λ z0=>some (decide ((x1.length:Int)<=32))
def F92 (x0:Ai):Bool:=
 ((((F93 x0.State 0 3)&&(F93 x0.Since 0 2147483648))&&(F93 x0.Au 0 6000))&&(F93 x0.Phase 0 3599))
def F91 (x0:Ai):Bool:=
 !(F92 x0)
def Acx (n0:Nat) (a0:Ai) (z0:Unit):Option (Ctl Unit Int):=
 bif F91 a0 then some (.ret (cnt 0 n0)) else some (.next ())
def vB (x0:List Ai):Option Int:=
 andThen (foldI Acx x0 0 ()) some λ z0=>some (-1)
def Wu (x0:List Ai):Option Bool:=
 (vB x0).bind λ y1=>some (decide (y1>=0))
def Azx (x2:Int) (a0:Ag) (y1:Bool):Bool:=(((a0.Kind==3)&&(a0.B==x2))&&y1)
def Ajj (x1:Ab) (x2:Int) (n0:Nat) (a0:Ag) (z0:Int):Option (Ctl Int Unit):=
 (Az [(((a0.Kind==3)&&(a0.B==x2)),true)] (getI x1.Ae (cnt 0 n0)) default).bind λ y1=>bif (Azx x2 a0 y1) then some (.next (w64 (z0+1))) else some (.next z0)
def F94 (x0:Aa) (x1:Ab) (x2:Int):Option Int:=
 andThen (foldI (Ajj x1 x2) x0.Ad 0 0) (λ _=>none) λ z0=>some z0
def Aoz (x0:Aa) (x1:Ab):Bool:=((((x1.Ae.length:Int) != (x0.Ad.length:Int)) || ((x1.Ac.length:Int) != (x0.Ac.length:Int))) || ((x1.Al.length:Int) != (x0.Af.length:Int)))
def Aj6 (x0:Aa) (x1:Ab) (n0:Nat) (a0:Int) (z0:Bool):Option (Ctl Bool Unit):=
 (Az [(z0,true)] (getI x0.Af (cnt 0 n0)) default).bind λ y9=>(Az [((z0&&(F93 a0 0 y9.Load)),true)] (F94 x0 x1 (cnt 0 n0)) default).bind λ y11=>some (.next ((z0&&(F93 a0 0 y9.Load))&&(decide (y11<=1))))
def F44 (x0:Aa) (x1:Ab):Option Int:=
 (F51 x0).bind λ y1=>bif (y1 != 0) then some y1 else bif (Aoz x0 x1) then some 8 else (F89 x0 x1.Ah).bind λ y5=>(Az [(y5,true)] (Wu x1.Ac) default).bind λ y7=>andThen (foldI (Aj6 x0 x1) x1.Al 0 (y5&&(!y7))) (λ _=>none) λ z0=>bif !z0 then some 11 else some 0
def F78 (x0:List Bool):Option (List Bool):=appI 2 [] x0
def F79 (x0:List Ai):Option (List Ai):=appI 33 [] x0
def F80 (x0:List Int):Option (List Int):=appI 9 [] x0
def F81 (x0:List As):Option (List As):=appI 17 [] x0
def F35 (x0:Ab):Option Ab:=
 (F78 x0.Ae).bind λ y1=>(F79 x0.Ac).bind λ y3=>(F80 x0.Al).bind λ y5=>(F81 x0.Ah).bind λ y7=>some (⟨y1,y3,y5,y7⟩:Ab)
def A42 (x1:As) (a0:As):Bool:=((x1.Kind==a0.Kind)&&((x1.Number==a0.Number)&&true))
def Am5 (x1:As) (n0:Nat) (a0:As) (z0:Unit):Option (Ctl Unit Int):=
 bif (A42 x1 a0) then some (.ret (cnt 0 n0)) else some (.next ())
def Aqk (x0:List As) (x1:As):Option Int:=
 andThen (foldI (Am5 x1) x0 0 ()) some λ z0=>some (-1)
def Aqo (x0:List As) (x1:As):Option Bool:=
 (Aqk x0 x1).bind λ y1=>some (decide (y1>=0))
def F76 (x0:Ab) (x1:Int) (x2:Int):Option Bool:=
 (Aqo x0.Ah (⟨x1,x2⟩:As)).bind λ y1=>some y1
def Lx (x0:Int) (x1:Int) (x2:Ax):Option (Bool×Ax):=
 (F76 x2.Ao x0 x1).bind λ y1=>some (y1,x2)
def Vh (x0:Ax) (x1:Ag):Option (Bool×Ax):=
 (Lx 3 x1.A x0).bind λ y1=>bif y1.1 then some (true,y1.2) else bif (x1.Kind==1) then (Lx 3 x1.B y1.2).bind λ y5=>some (y5.1,y5.2) else bif (x1.Kind==2) then (Lx 1 x1.B y1.2).bind λ y8=>(Az [(y8.1,false)] (getI y8.2.Ao.Ac x1.B) default).bind λ y10=>some ((y8.1 || (y10.State != 2)),y8.2) else (Lx 4 x1.B y1.2).bind λ y12=>some (y12.1,y12.2)
def Nt (x0:Ax) (x1:Int):Option Ax:=
 (getI x0.Ao.Ae x1).bind λ y1=>(setI x0.Ao.Ae x1 false).bind λ y3=>(appI 25 x0.acts [(⟨2,x1,0⟩:Ak)]).bind λ y5=>some (⟨x0.An,(⟨y3,x0.Ao.Ac,x0.Ao.Al,x0.Ao.Ah⟩:Ab),y5⟩:Ax)
def Vm (n0:Nat) (a0:Ag) (z0:Sg8):Option (Ctl (Sg8) Unit):=
 (getI z0.2.2.2.2.2.2.2.1 (cnt 0 n0)).bind λ y1=>(Az [(y1,true)] (Vh (⟨(⟨z0.1,z0.2.1,z0.2.2.1,z0.2.2.2.1,z0.2.2.2.2.1,z0.2.2.2.2.2.1⟩:Aa),(⟨z0.2.2.2.2.2.2.2.1,z0.2.2.2.2.2.2.2.2.1,z0.2.2.2.2.2.2.2.2.2.1,z0.2.2.2.2.2.2.2.2.2.2.1⟩:Ab),z0.2.2.2.2.2.2.2.2.2.2.2⟩:Ax) a0) (default,(⟨(⟨z0.1,z0.2.1,z0.2.2.1,z0.2.2.2.1,z0.2.2.2.2.1,z0.2.2.2.2.2.1⟩:Aa),(⟨z0.2.2.2.2.2.2.2.1,z0.2.2.2.2.2.2.2.2.1,z0.2.2.2.2.2.2.2.2.2.1,z0.2.2.2.2.2.2.2.2.2.2.1⟩:Ab),z0.2.2.2.2.2.2.2.2.2.2.2⟩:Ax))).bind λ y3=>bif (y1&&y3.1) then (appI 9 z0.2.2.2.2.2.2.1 [cnt 0 n0]).bind λ y6=>some (.next (y3.2.An.Am,y3.2.An.Ad,y3.2.An.Ac,y3.2.An.Af,y3.2.An.Phase,y3.2.An.Au,y6,y3.2.Ao.Ae,y3.2.Ao.Ac,y3.2.Ao.Al,y3.2.Ao.Ah,y3.2.acts)) else some (.next (y3.2.An.Am,y3.2.An.Ad,y3.2.An.Ac,y3.2.An.Af,y3.2.An.Phase,y3.2.An.Au,z0.2.2.2.2.2.2.1,y3.2.Ao.Ae,y3.2.Ao.Ac,y3.2.Ao.Al,y3.2.Ao.Ah,y3.2.acts))
def Ow (n1:Nat) (a1:Int) (z1:Sg7):Option (Ctl (Sg7) Unit):=
 (Nt (⟨(⟨z1.1,z1.2.1,z1.2.2.1,z1.2.2.2.1,z1.2.2.2.2.1,z1.2.2.2.2.2.1⟩:Aa),(⟨z1.2.2.2.2.2.2.1,z1.2.2.2.2.2.2.2.1,z1.2.2.2.2.2.2.2.2.1,z1.2.2.2.2.2.2.2.2.2.1⟩:Ab),z1.2.2.2.2.2.2.2.2.2.2⟩:Ax) a1).bind λ y8=>some (.next (y8.An.Am,y8.An.Ad,y8.An.Ac,y8.An.Af,y8.An.Phase,y8.An.Au,y8.Ao.Ae,y8.Ao.Ac,y8.Ao.Al,y8.Ao.Ah,y8.acts))
def Vn (x0:Ax):Option Ax:=
 andThen (foldI Vm x0.An.Ad 0 (x0.An.Am,x0.An.Ad,x0.An.Ac,x0.An.Af,x0.An.Phase,x0.An.Au,([]:List Int),x0.Ao.Ae,x0.Ao.Ac,x0.Ao.Al,x0.Ao.Ah,x0.acts)) (λ _=>none) λ z0=>andThen (foldI Ow z0.2.2.2.2.2.2.1 0 (z0.1,z0.2.1,z0.2.2.1,z0.2.2.2.1,z0.2.2.2.2.1,z0.2.2.2.2.2.1,z0.2.2.2.2.2.2.2.1,z0.2.2.2.2.2.2.2.2.1,z0.2.2.2.2.2.2.2.2.2.1,z0.2.2.2.2.2.2.2.2.2.2.1,z0.2.2.2.2.2.2.2.2.2.2.2)) (λ _=>none) λ z1=>some (⟨(⟨z1.1,z1.2.1,z1.2.2.1,z1.2.2.2.1,z1.2.2.2.2.1,z1.2.2.2.2.2.1⟩:Aa),(⟨z1.2.2.2.2.2.2.1,z1.2.2.2.2.2.2.2.1,z1.2.2.2.2.2.2.2.2.1,z1.2.2.2.2.2.2.2.2.2.1⟩:Ab),z1.2.2.2.2.2.2.2.2.2.2⟩:Ax)
def zV (n0:Nat) (a0:Int) (z0:(List Int)):Option (Ctl ((List Int)) Unit):=
 (getI z0 (cnt 0 n0)).bind λ y3=>(setI z0 (cnt 0 n0) (cnt 0 n0)).bind λ y5=>some (.next y5)
def Wy (x1:Ab) (n2:Nat) (a2:Ag) (z2:(List Int)):Option (Ctl ((List Int)) Unit):=
 (Az [((a2.Kind==1),true)] (getI x1.Ae (cnt 0 n2)) default).bind λ y7=>bif ((a2.Kind==1)&&y7) then (getI z2 a2.A).bind λ y10=>(getI z2 a2.B).bind λ y12=>(setI z2 a2.A (min y10 y12)).bind λ y14=>(getI y14 a2.B).bind λ y16=>(setI y14 a2.B (min y10 y12)).bind λ y18=>some (.next y18) else some (.next z2)
def zU (x0:Aa) (x1:Ab) (n1:Nat) (a1:Int) (z1:(List Int)):Option (Ctl ((List Int)) Unit):=
 andThen (foldI (Wy x1) x0.Ad 0 z1) (λ _=>none) λ z2=>some (.next z2)
def zW (x0:Aa) (x1:Ab):Option ((List Int)):=
 (mkI 9 x0.Am 0).bind λ y1=>andThen (foldI zV y1 0 y1) (λ _=>none) λ z0=>andThen (foldI (zU x0 x1) z0 0 z0) (λ _=>none) λ z1=>some z1
def Aul (x2:Int) (x3:Int) (a0:Ag) (y1:Bool):Bool:=(((a0.Kind==x2)&&(a0.B==x3))&&y1)
def Wx (x1:Ab) (x2:Int) (x3:Int) (n0:Nat) (a0:Ag) (z0:Unit):Option (Ctl Unit (Int×Bool)):=
 (Az [(((a0.Kind==x2)&&(a0.B==x3)),true)] (getI x1.Ae (cnt 0 n0)) default).bind λ y1=>bif (Aul x2 x3 a0 y1) then some (.ret (a0.A,true)) else some (.next ())
def zT (x0:Aa) (x1:Ab) (x2:Int) (x3:Int):Option (Int×Bool):=
 andThen (foldI (Wx x1 x2 x3) x0.Ad 0 ()) some λ z0=>some (0,false)
def qT (x1:Ab) (x2:Int) (y1:Ai):Bool:=((!(F93 x2 0 (w64 ((x1.Ac.length:Int)-1)))) || (y1.State != 2))
def Y_ (x0:Aa) (x1:Ab) (x2:Int):Option (Int×Bool):=
 (Az [(!(F93 x2 0 (w64 ((x1.Ac.length:Int)-1))),false)] (getI x1.Ac x2) default).bind λ y1=>bif (qT x1 x2 y1) then some (0,false) else (zT x0 x1 2 x2).bind λ y4=>some (y4.1,y4.2)
def Zc (x0:Aa) (x1:Ab) (x2:Int):Option (Int×Bool):=
 (zT x0 x1 3 x2).bind λ y1=>some (y1.1,y1.2)
def Aql (x0:Aj):Bool:=
 ((x0.Am.length:Int)==0)
def Acv (n0:Nat) (a0:Aj) (z0:Unit):Option (Ctl Unit Int):=
 bif Aql a0 then some (.ret (cnt 0 n0)) else some (.next ())
def U2 (x0:List Aj):Option Int:=
 andThen (foldI Acv x0 0 ()) some λ z0=>some (-1)
def Ah2 (z0:Int×Int×(List Aj)):Bool:=decide (z0.2.1<(z0.2.2.length:Int))
def U6 (z0:Int×Int×(List Aj)):Option (Ctl (Int×Int×(List Aj)) Unit):=
 bif (Ah2 z0) then (getI z0.2.2 z0.2.1).bind λ y5=>bif !(Aql y5) then (getI z0.2.2 z0.1).bind λ y8=>(setI z0.2.2 z0.1 y5).bind λ y10=>some (.next (w64 (z0.1+1),w64 (z0.2.1+1),y10)) else some (.next (z0.1,w64 (z0.2.1+1),z0.2.2)) else some (.brk (z0.1,z0.2.1,z0.2.2))
def Qb (x0:List Aj):Option ((List Aj)):=
 (U2 x0).bind λ y1=>bif (y1==(-1)) then some x0 else andThen (whileN U6 1152921504606846976 (y1,w64 (y1+1),x0)) (λ _=>none) λ z0=>(bndI z0.2.2.length z0.1 (z0.2.2.length:Int)).bind λ u13=>(bndI (G5 z0.2.2 (Int.toNat z0.1) ((Int.toNat (z0.2.2.length:Int))-(Int.toNat z0.1)) (⟨([]:List Int),([]:List Int),([]:List Int)⟩:Aj)).length 0 z0.1).bind λ u15=>some ((G5 z0.2.2 (Int.toNat z0.1) ((Int.toNat (z0.2.2.length:Int))-(Int.toNat z0.1)) (⟨([]:List Int),([]:List Int),([]:List Int)⟩:Aj)).take ((Int.toNat z0.1)-0))
def Aac (n0:Nat) (a0:Int) (z0:(List Aj)):Option (Ctl ((List Aj)) Unit):=
 (getI z0 a0).bind λ y8=>(appI 9 y8.Am [cnt 0 n0]).bind λ y10=>(setI z0 a0 (⟨y10,y8.Ac,y8.Af⟩:Aj)).bind λ y12=>some (.next y12)
def Aun (x0:Aa) (z1:Int×(List Aj)):Bool:=decide (z1.1<(x0.Ac.length:Int))
def Aab (x0:Aa) (x1:Ab) (y4:(List Int)) (z1:Int×(List Aj)):Option (Ctl (Int×(List Aj)) Unit):=
 bif (Aun x0 z1) then (Y_ x0 x1 z1.1).bind λ y15=>bif y15.2 then (getI y4 y15.1).bind λ y18=>(getI z1.2 y18).bind λ y20=>(appI 9 y20.Ac [z1.1]).bind λ y22=>(setI z1.2 y18 (⟨y20.Am,y22,y20.Af⟩:Aj)).bind λ y24=>some (.next (w64 (z1.1+1),y24)) else some (.next (w64 (z1.1+1),z1.2)) else some (.brk (z1.1,z1.2))
def Aum (x0:Aa) (z2:Int×(List Aj)):Bool:=decide (z2.1<(x0.Af.length:Int))
def Aaa (x0:Aa) (x1:Ab) (y4:(List Int)) (z2:Int×(List Aj)):Option (Ctl (Int×(List Aj)) Unit):=
 bif (Aum x0 z2) then (Zc x0 x1 z2.1).bind λ y27=>bif y27.2 then (getI y4 y27.1).bind λ y30=>(getI z2.2 y30).bind λ y32=>(appI 9 y32.Af [z2.1]).bind λ y34=>(setI z2.2 y30 (⟨y32.Am,y32.Ac,y34⟩:Aj)).bind λ y36=>some (.next (w64 (z2.1+1),y36)) else some (.next (w64 (z2.1+1),z2.2)) else some (.brk (z2.1,z2.2))
def Zd (x0:Aa) (x1:Ab):Option ((List Aj)):=
 (F44 x0 x1).bind λ y1=>bif (y1 != 0) then some ([]:List Aj) else (zW x0 x1).bind λ y4=>(mkI 73 x0.Am (⟨([]:List Int),([]:List Int),([]:List Int)⟩:Aj)).bind λ y6=>andThen (foldI Aac y4 0 y6) (λ _=>none) λ z0=>andThen (whileN (Aab x0 x1 y4) 1152921504606846976 (0,z0)) (λ _=>none) λ z1=>andThen (whileN (Aaa x0 x1 y4) 1152921504606846976 (0,z1.2)) (λ _=>none) λ z2=>(Qb z2.2).bind λ y38=>some y38
def Mx (x2:Int) (n0:Nat) (a0:Aj) (z0:Unit):Option (Ctl Unit (Aj×Bool)):=
 (F59 a0.Am x2).bind λ y3=>bif y3 then some (.ret (a0,true)) else some (.next ())
def H_ (x0:Aa) (x1:Ab) (x2:Int):Option (Aj×Bool):=
 (Zd x0 x1).bind λ y1=>andThen (foldI (Mx x2) y1 0 ()) some λ z0=>some ((⟨([]:List Int),([]:List Int),([]:List Int)⟩:Aj),false)
def F58 (x0:Aa) (x1:Ab) (x2:Int):Option Bool:=
 (H_ x0 x1 x2).bind λ y1=>some (decide ((y1.1.Ac.length:Int)>0))
def Vg (x0:Ag) (x1:Ax):Option (Bool×Ax):=
 (Az [((x0.Kind==3),true)] (F58 x1.An x1.Ao x0.A) default).bind λ y1=>some (((x0.Kind==3)&&(!y1)),x1)
def Vk (n0:Nat) (a0:Ag) (z0:Sg8):Option (Ctl (Sg8) Unit):=
 (getI z0.2.2.2.2.2.2.2.1 (cnt 0 n0)).bind λ y1=>(Az [(y1,true)] (Vg a0 (⟨(⟨z0.1,z0.2.1,z0.2.2.1,z0.2.2.2.1,z0.2.2.2.2.1,z0.2.2.2.2.2.1⟩:Aa),(⟨z0.2.2.2.2.2.2.2.1,z0.2.2.2.2.2.2.2.2.1,z0.2.2.2.2.2.2.2.2.2.1,z0.2.2.2.2.2.2.2.2.2.2.1⟩:Ab),z0.2.2.2.2.2.2.2.2.2.2.2⟩:Ax)) (default,(⟨(⟨z0.1,z0.2.1,z0.2.2.1,z0.2.2.2.1,z0.2.2.2.2.1,z0.2.2.2.2.2.1⟩:Aa),(⟨z0.2.2.2.2.2.2.2.1,z0.2.2.2.2.2.2.2.2.1,z0.2.2.2.2.2.2.2.2.2.1,z0.2.2.2.2.2.2.2.2.2.2.1⟩:Ab),z0.2.2.2.2.2.2.2.2.2.2.2⟩:Ax))).bind λ y3=>bif (y1&&y3.1) then (appI 9 z0.2.2.2.2.2.2.1 [cnt 0 n0]).bind λ y6=>some (.next (y3.2.An.Am,y3.2.An.Ad,y3.2.An.Ac,y3.2.An.Af,y3.2.An.Phase,y3.2.An.Au,y6,y3.2.Ao.Ae,y3.2.Ao.Ac,y3.2.Ao.Al,y3.2.Ao.Ah,y3.2.acts)) else some (.next (y3.2.An.Am,y3.2.An.Ad,y3.2.An.Ac,y3.2.An.Af,y3.2.An.Phase,y3.2.An.Au,z0.2.2.2.2.2.2.1,y3.2.Ao.Ae,y3.2.Ao.Ac,y3.2.Ao.Al,y3.2.Ao.Ah,y3.2.acts))
def Ac2 (n1:Nat) (a1:Int) (z1:Sg7):Option (Ctl (Sg7) Unit):=
 (Nt (⟨(⟨z1.1,z1.2.1,z1.2.2.1,z1.2.2.2.1,z1.2.2.2.2.1,z1.2.2.2.2.2.1⟩:Aa),(⟨z1.2.2.2.2.2.2.1,z1.2.2.2.2.2.2.2.1,z1.2.2.2.2.2.2.2.2.1,z1.2.2.2.2.2.2.2.2.2.1⟩:Ab),z1.2.2.2.2.2.2.2.2.2.2⟩:Ax) a1).bind λ y8=>some (.next (y8.An.Am,y8.An.Ad,y8.An.Ac,y8.An.Af,y8.An.Phase,y8.An.Au,y8.Ao.Ae,y8.Ao.Ac,y8.Ao.Al,y8.Ao.Ah,y8.acts))
def Vl (x0:Ax):Option Ax:=
 andThen (foldI Vk x0.An.Ad 0 (x0.An.Am,x0.An.Ad,x0.An.Ac,x0.An.Af,x0.An.Phase,x0.An.Au,([]:List Int),x0.Ao.Ae,x0.Ao.Ac,x0.Ao.Al,x0.Ao.Ah,x0.acts)) (λ _=>none) λ z0=>andThen (foldI Ac2 z0.2.2.2.2.2.2.1 0 (z0.1,z0.2.1,z0.2.2.1,z0.2.2.2.1,z0.2.2.2.2.1,z0.2.2.2.2.2.1,z0.2.2.2.2.2.2.2.1,z0.2.2.2.2.2.2.2.2.1,z0.2.2.2.2.2.2.2.2.2.1,z0.2.2.2.2.2.2.2.2.2.2.1,z0.2.2.2.2.2.2.2.2.2.2.2)) (λ _=>none) λ z1=>some (⟨(⟨z1.1,z1.2.1,z1.2.2.1,z1.2.2.2.1,z1.2.2.2.2.1,z1.2.2.2.2.2.1⟩:Aa),(⟨z1.2.2.2.2.2.2.1,z1.2.2.2.2.2.2.2.1,z1.2.2.2.2.2.2.2.2.1,z1.2.2.2.2.2.2.2.2.2.1⟩:Ab),z1.2.2.2.2.2.2.2.2.2.2⟩:Ax)
def U_ (x2:Ai) (n0:Nat) (a0:Int) (z0:(List Ai)):Option (Ctl ((List Ai)) Unit):=
 (getI z0 a0).bind λ y1=>(setI z0 a0 (⟨y1.State,y1.Since,x2.Au,y1.Phase⟩:Ai)).bind λ y3=>(getI y3 a0).bind λ y5=>(setI y3 a0 (⟨y5.State,y5.Since,y5.Au,x2.Phase⟩:Ai)).bind λ y7=>some (.next y7)
def Nu (x0:Ab) (x1:List Int) (x2:Ai):Option ((List Ai)):=
 andThen (foldI (U_ x2) x1 0 x0.Ac) (λ _=>none) λ z0=>some z0
def Auo (a0:Aj):Bool:=decide ((a0.Ac.length:Int)>0)
def Aad (x1:Ab) (y4:Ab) (n0:Nat) (a0:Aj) (z0:(List Ai)):Option (Ctl ((List Ai)) Unit):=
 bif (Auo a0) then (getI a0.Ac 0).bind λ y9=>(getI x1.Ac y9).bind λ y11=>(Nu (⟨y4.Ae,z0,y4.Al,y4.Ah⟩:Ab) a0.Ac y11).bind λ y13=>some (.next y13) else some (.next z0)
def Aae (x0:Aa) (x1:Ab):Option (Ab×Int):=
 (F44 x0 x1).bind λ y1=>bif (y1 != 0) then some ((⟨([]:List Bool),([]:List Ai),([]:List Int),([]:List As)⟩:Ab),y1) else (F35 x1).bind λ y4=>(Zd x0 x1).bind λ y6=>andThen (foldI (Aad x1 y4) y6 0 y4.Ac) (λ _=>none) λ z0=>some ((⟨y4.Ae,z0,y4.Al,y4.Ah⟩:Ab),0)
def uK (x0:Ax):Option Ax:=
 (Vn x0).bind λ y1=>(Vl y1).bind λ y3=>(Aae y3.An y3.Ao).bind λ y5=>some (⟨y3.An,y5.1,y3.acts⟩:Ax)
def Nv (x0:Int) (x1:Int) (x2:Aa):Option Int:=
 (getI x2.Af x0).bind λ y1=>(getI x2.Af x1).bind λ y3=>some (K1 y1.Bl y3.Bl)
def Yf (x1:Int) (z1:Int×(List Int)) (y12:Int):Bool:=((decide (z1.1>x1))&&(decide (y12<0)))
def Ou (x1:Int) (x3c0:Aa) (z1:Int×(List Int)):Option (Ctl (Int×(List Int)) Unit):=
 (Az [(decide (z1.1>x1),true)] (getI z1.2 z1.1) default).bind λ y8=>(Az [(decide (z1.1>x1),true)] (getI z1.2 (w64 (z1.1-1))) default).bind λ y10=>(Az [(decide (z1.1>x1),true)] (Nv y8 y10 x3c0) default).bind λ y12=>bif (Yf x1 z1 y12) then (getI z1.2 (w64 (z1.1-1))).bind λ y15=>(getI z1.2 z1.1).bind λ y17=>(setI z1.2 z1.1 y15).bind λ y19=>(getI y19 (w64 (z1.1-1))).bind λ y21=>(setI y19 (w64 (z1.1-1)) y17).bind λ y23=>some (.next (w64 (z1.1-1),y23)) else some (.brk (z1.1,z1.2))
def U0 (x1:Int) (x2:Int) (x3c0:Aa) (z0:Int×(List Int)):Option (Ctl (Int×(List Int)) Unit):=
 bif decide (z0.1<x2) then andThen (whileN (Ou x1 x3c0) 1152921504606846976 (z0.1,z0.2)) (λ _=>none) λ z1=>some (.next (w64 (z0.1+1),z1.2)) else some (.brk (z0.1,z0.2))
def U1 (x0:List Int) (x1:Int) (x2:Int) (x3c0:Aa):Option ((List Int)×Aa):=
 andThen (whileN (U0 x1 x2 x3c0) 1152921504606846976 (w64 (x1+1),x0)) (λ _=>none) λ z0=>some (z0.2,x3c0)
def U4 (x1:Int) (z0:Yl):Option (Ctl (Yl) Unit):=
 bif decide (z0.2.1<=x1) then (U1 z0.2.2.1 z0.1 z0.2.1 (⟨z0.2.2.2.1,z0.2.2.2.2.1,z0.2.2.2.2.2.1,z0.2.2.2.2.2.2.1,z0.2.2.2.2.2.2.2.1,z0.2.2.2.2.2.2.2.2⟩:Aa)).bind λ y2=>some (.next (z0.2.1,w64 (z0.2.1+20),y2.1,y2.2.Am,y2.2.Ad,y2.2.Ac,y2.2.Af,y2.2.Phase,y2.2.Au)) else some (.brk (z0.1,z0.2.1,z0.2.2.1,z0.2.2.2.1,z0.2.2.2.2.1,z0.2.2.2.2.2.1,z0.2.2.2.2.2.2.1,z0.2.2.2.2.2.2.2.1,z0.2.2.2.2.2.2.2.2))
def A6p (x1:Int) (z2:Unit):Option (Ctl Unit Unit):=
 bif decide (40<=x1) then none else some (.brk ())
def U3 (x1:Int) (z1:Unit):Option (Ctl Unit Unit):=
 bif decide (20<x1) then none else some (.brk ())
def uX (x0:List Int) (x1:Int) (x2c0:Aa):Option ((List Int)×Aa):=
 andThen (whileN (U4 x1) 1152921504606846976 (0,20,x0,x2c0.Am,x2c0.Ad,x2c0.Ac,x2c0.Af,x2c0.Phase,x2c0.Au)) (λ _=>none) λ z0=>(U1 z0.2.2.1 z0.1 x1 (⟨z0.2.2.2.1,z0.2.2.2.2.1,z0.2.2.2.2.2.1,z0.2.2.2.2.2.2.1,z0.2.2.2.2.2.2.2.1,z0.2.2.2.2.2.2.2.2⟩:Aa)).bind λ y4=>andThen (whileN (U3 x1) 1152921504606846976 ()) (λ _=>none) λ z1=>some (y4.1,y4.2)
def Vb (x0:List Int) (x1c0:Aa):Option ((List Int)×Aa):=
 (uX x0 (x0.length:Int) x1c0).bind λ y1=>some (y1.1,y1.2)
def Azz (x0:Aa) (z0:Int×(List Int)):Bool:=decide (z0.1<(x0.Af.length:Int))
def Ajl (x0:Aa) (z0:Int×(List Int)):Option (Ctl (Int×(List Int)) Unit):=
 bif (Azz x0 z0) then (appI 9 z0.2 [z0.1]).bind λ y5=>some (.next (w64 (z0.1+1),y5)) else some (.brk (z0.1,z0.2))
def F85 (x0:Aa):Option ((List Int)):=
 (F51 x0).bind λ y1=>bif (y1 != 0) then some ([]:List Int) else andThen (whileN (Ajl x0) 1152921504606846976 (0,([]:List Int))) (λ _=>none) λ z0=>(Vb z0.2 x0).bind λ y7=>some y7.1
def Qf (x0:Int) (x1:Aj):Option Bool:=
 (F59 x1.Af x0).bind λ y1=>some (!y1)
def Ov (x1c0:Aj) (n0:Nat) (a0:Int) (z0:Unit):Option (Ctl Unit (Int×Aj)):=
 (Qf a0 x1c0).bind λ y1=>bif y1 then some (.ret (cnt 0 n0,x1c0)) else some (.next ())
def uZ (x0:List Int) (x1c0:Aj):Option (Int×Aj):=
 andThen (foldI (Ov x1c0) x0 0 ()) some λ z0=>some ((-1),x1c0)
def Ah4 (z0:Int×Int×(List Int)):Bool:=decide (z0.2.1<(z0.2.2.length:Int))
def Ve (y1:Int×Aj) (z0:Int×Int×(List Int)):Option (Ctl (Int×Int×(List Int)) Unit):=
 bif (Ah4 z0) then (getI z0.2.2 z0.2.1).bind λ y5=>(Qf y5 y1.2).bind λ y7=>bif !y7 then (getI z0.2.2 z0.1).bind λ y10=>(setI z0.2.2 z0.1 y5).bind λ y12=>some (.next (w64 (z0.1+1),w64 (z0.2.1+1),y12)) else some (.next (z0.1,w64 (z0.2.1+1),z0.2.2)) else some (.brk (z0.1,z0.2.1,z0.2.2))
def Vf (x0:List Int) (x1c0:Aj):Option ((List Int)×Aj):=
 (uZ x0 x1c0).bind λ y1=>bif (y1.1==(-1)) then some (x0,y1.2) else andThen (whileN (Ve y1) 1152921504606846976 (y1.1,w64 (y1.1+1),x0)) (λ _=>none) λ z0=>(bndI z0.2.2.length z0.1 (z0.2.2.length:Int)).bind λ u15=>(bndI (G5 z0.2.2 (Int.toNat z0.1) ((Int.toNat (z0.2.2.length:Int))-(Int.toNat z0.1)) 0).length 0 z0.1).bind λ u17=>some (((G5 z0.2.2 (Int.toNat z0.1) ((Int.toNat (z0.2.2.length:Int))-(Int.toNat z0.1)) 0).take ((Int.toNat z0.1)-0)),y1.2)
def uJ (x1:Ab) (y1:Aj×Bool) (n0:Nat) (a0:Int) (z0:Int):Option (Ctl Int Unit):=
 bif decide ((y1.1.Ac.length:Int)>0) then (getI x1.Al a0).bind λ y4=>some (.next (w64 (z0+y4))) else some (.next z0)
def F87 (x0:Aa) (x1:Ab) (x2:Int):Option Int:=
 (H_ x0 x1 x2).bind λ y1=>andThen (foldI (uJ x1 y1) y1.1.Af 0 0) (λ _=>none) λ z0=>some z0
def Ajk (x0:Aa) (n0:Nat) (a0:Int) (z0:Int):Option (Ctl Int Unit):=
 (getI x0.Ac a0).bind λ y3=>some (.next (w64 (z0+y3.Rating)))
def F88 (x0:Aa) (x1:Ab) (x2:Int):Option Int:=
 (H_ x0 x1 x2).bind λ y1=>andThen (foldI (Ajk x0) y1.1.Ac 0 0) (λ _=>none) λ z0=>some z0
def Qa (x0:Ax) (x1:Int):Option Int:=
 (F87 x0.An x0.Ao x1).bind λ y1=>(F88 x0.An x0.Ao x1).bind λ y3=>some (max 0 (w64 (y1-y3)))
def Ac0 (n0:Nat) (a0:Int) (z0:(List Aj)):Option (Ctl ((List Aj)) Unit):=
 (getI z0 a0).bind λ y8=>(appI 9 y8.Am [cnt 0 n0]).bind λ y10=>(setI z0 a0 (⟨y10,y8.Ac,y8.Af⟩:Aj)).bind λ y12=>some (.next y12)
def Ayq (x0:Aa) (z1:Int×(List Aj)):Bool:=decide (z1.1<(x0.Ac.length:Int))
def Acz (x0:Aa) (x1:Ab) (y4:(List Int)) (z1:Int×(List Aj)):Option (Ctl (Int×(List Aj)) Unit):=
 bif (Ayq x0 z1) then (Y_ x0 x1 z1.1).bind λ y15=>bif y15.2 then (getI y4 y15.1).bind λ y18=>(getI z1.2 y18).bind λ y20=>(appI 9 y20.Ac [z1.1]).bind λ y22=>(setI z1.2 y18 (⟨y20.Am,y22,y20.Af⟩:Aj)).bind λ y24=>some (.next (w64 (z1.1+1),y24)) else some (.next (w64 (z1.1+1),z1.2)) else some (.brk (z1.1,z1.2))
def Ayp (x0:Aa) (z2:Int×(List Aj)):Bool:=decide (z2.1<(x0.Af.length:Int))
def Acy (x0:Aa) (x1:Ab) (y4:(List Int)) (z2:Int×(List Aj)):Option (Ctl (Int×(List Aj)) Unit):=
 bif (Ayp x0 z2) then (Zc x0 x1 z2.1).bind λ y27=>bif y27.2 then (getI y4 y27.1).bind λ y30=>(getI z2.2 y30).bind λ y32=>(appI 9 y32.Af [z2.1]).bind λ y34=>(setI z2.2 y30 (⟨y32.Am,y32.Ac,y34⟩:Aj)).bind λ y36=>some (.next (w64 (z2.1+1),y36)) else some (.next (w64 (z2.1+1),z2.2)) else some (.brk (z2.1,z2.2))
def Akg (x0:Aa) (x1:Ab):Option ((List Aj)):=
 (F44 x0 x1).bind λ y1=>bif (y1 != 0) then some ([]:List Aj) else (zW x0 x1).bind λ y4=>(mkI 73 x0.Am (⟨([]:List Int),([]:List Int),([]:List Int)⟩:Aj)).bind λ y6=>andThen (foldI Ac0 y4 0 y6) (λ _=>none) λ z0=>andThen (whileN (Acz x0 x1 y4) 1152921504606846976 (0,z0)) (λ _=>none) λ z1=>andThen (whileN (Acy x0 x1 y4) 1152921504606846976 (0,z1.2)) (λ _=>none) λ z2=>(Qb z2.2).bind λ y38=>some y38
def Yg (y1:Int) (y3:Int) (y5:A3):Bool:=decide ((min y1 (w64 (y3-y5.Least)))>0)
def Vd (x0:Ax) (x2:Int) (n0:Nat) (a0:Int) (z0:(List Int)×(List Ak)):Option (Ctl ((List Int)×(List Ak)) Unit):=
 (Qa (⟨x0.An,(⟨x0.Ao.Ae,x0.Ao.Ac,z0.1,x0.Ao.Ah⟩:Ab),z0.2⟩:Ax) x2).bind λ y1=>(getI z0.1 a0).bind λ y3=>(getI x0.An.Af a0).bind λ y5=>bif (Yg y1 y3 y5) then (setI z0.1 a0 (w64 (y3-(min y1 (w64 (y3-y5.Least)))))).bind λ y8=>(getI y8 a0).bind λ y10=>(appI 25 z0.2 [(⟨5,a0,y10⟩:Ak)]).bind λ y12=>some (.next (y8,y12)) else some (.next (z0.1,z0.2))
def Qe (x0:Ax) (x1:List Int) (x2:Int):Option Ax:=
 andThen (foldI (Vd x0 x2) x1 0 (x0.Ao.Al,x0.acts)) (λ _=>none) λ z0=>some (⟨x0.An,(⟨x0.Ao.Ae,x0.Ao.Ac,z0.1,x0.Ao.Ah⟩:Ab),z0.2⟩:Ax)
def U5 (x0:Ag) (x1:Int):Bool:=
 ((x0.Kind==3)&&(x0.B==x1))
def Vi (x0:Ax) (x1c0:Int) (n0:Nat) (a0:Ag) (z0:(List Int)):Option (Ctl ((List Int)) Unit):=
 (getI x0.Ao.Ae (cnt 0 n0)).bind λ y1=>bif (y1&&(U5 a0 x1c0)) then (appI 9 z0 [cnt 0 n0]).bind λ y4=>some (.next y4) else some (.next z0)
def Ac1 (n1:Nat) (a1:Int) (z1:Sg7):Option (Ctl (Sg7) Unit):=
 (Nt (⟨(⟨z1.1,z1.2.1,z1.2.2.1,z1.2.2.2.1,z1.2.2.2.2.1,z1.2.2.2.2.2.1⟩:Aa),(⟨z1.2.2.2.2.2.2.1,z1.2.2.2.2.2.2.2.1,z1.2.2.2.2.2.2.2.2.1,z1.2.2.2.2.2.2.2.2.2.1⟩:Ab),z1.2.2.2.2.2.2.2.2.2.2⟩:Ax) a1).bind λ y6=>some (.next (y6.An.Am,y6.An.Ad,y6.An.Ac,y6.An.Af,y6.An.Phase,y6.An.Au,y6.Ao.Ae,y6.Ao.Ac,y6.Ao.Al,y6.Ao.Ah,y6.acts))
def Vj (x0:Ax) (x1c0:Int):Option (Ax×Int):=
 andThen (foldI (Vi x0 x1c0) x0.An.Ad 0 ([]:List Int)) (λ _=>none) λ z0=>andThen (foldI Ac1 z0 0 (x0.An.Am,x0.An.Ad,x0.An.Ac,x0.An.Af,x0.An.Phase,x0.An.Au,x0.Ao.Ae,x0.Ao.Ac,x0.Ao.Al,x0.Ao.Ah,x0.acts)) (λ _=>none) λ z1=>some ((⟨(⟨z1.1,z1.2.1,z1.2.2.1,z1.2.2.2.1,z1.2.2.2.2.1,z1.2.2.2.2.2.1⟩:Aa),(⟨z1.2.2.2.2.2.2.1,z1.2.2.2.2.2.2.2.1,z1.2.2.2.2.2.2.2.2.1,z1.2.2.2.2.2.2.2.2.2.1⟩:Ab),z1.2.2.2.2.2.2.2.2.2.2⟩:Ax),x1c0)
def Vc (x2:Int) (n0:Nat) (a0:Int) (z0:Sg7):Option (Ctl (Sg7) Unit):=
 (getI z0.2.2.2.2.2.2.2.2.1 a0).bind λ y1=>(Az [(decide (y1>0),true)] (Qa (⟨(⟨z0.1,z0.2.1,z0.2.2.1,z0.2.2.2.1,z0.2.2.2.2.1,z0.2.2.2.2.2.1⟩:Aa),(⟨z0.2.2.2.2.2.2.1,z0.2.2.2.2.2.2.2.1,z0.2.2.2.2.2.2.2.2.1,z0.2.2.2.2.2.2.2.2.2.1⟩:Ab),z0.2.2.2.2.2.2.2.2.2.2⟩:Ax) x2) default).bind λ y3=>bif ((decide (y1>0))&&(decide (y3>0))) then (Vj (⟨(⟨z0.1,z0.2.1,z0.2.2.1,z0.2.2.2.1,z0.2.2.2.2.1,z0.2.2.2.2.2.1⟩:Aa),(⟨z0.2.2.2.2.2.2.1,z0.2.2.2.2.2.2.2.1,z0.2.2.2.2.2.2.2.2.1,z0.2.2.2.2.2.2.2.2.2.1⟩:Ab),z0.2.2.2.2.2.2.2.2.2.2⟩:Ax) a0).bind λ y6=>some (.next (y6.1.An.Am,y6.1.An.Ad,y6.1.An.Ac,y6.1.An.Af,y6.1.An.Phase,y6.1.An.Au,y6.1.Ao.Ae,y6.1.Ao.Ac,y6.1.Ao.Al,y6.1.Ao.Ah,y6.1.acts)) else some (.next (z0.1,z0.2.1,z0.2.2.1,z0.2.2.2.1,z0.2.2.2.2.1,z0.2.2.2.2.2.1,z0.2.2.2.2.2.2.1,z0.2.2.2.2.2.2.2.1,z0.2.2.2.2.2.2.2.2.1,z0.2.2.2.2.2.2.2.2.2.1,z0.2.2.2.2.2.2.2.2.2.2))
def Qd (x0:Ax) (x1:List Int) (x2:Int):Option Ax:=
 andThen (foldI (Vc x2) x1 0 (x0.An.Am,x0.An.Ad,x0.An.Ac,x0.An.Af,x0.An.Phase,x0.An.Au,x0.Ao.Ae,x0.Ao.Ac,x0.Ao.Al,x0.Ao.Ah,x0.acts)) (λ _=>none) λ z0=>some (⟨(⟨z0.1,z0.2.1,z0.2.2.1,z0.2.2.2.1,z0.2.2.2.2.1,z0.2.2.2.2.2.1⟩:Aa),(⟨z0.2.2.2.2.2.2.1,z0.2.2.2.2.2.2.2.1,z0.2.2.2.2.2.2.2.2.1,z0.2.2.2.2.2.2.2.2.2.1⟩:Ab),z0.2.2.2.2.2.2.2.2.2.2⟩:Ax)
def Yz (y1:(List Int)) (n0:Nat) (a0:Aj) (z0:Sg7):Option (Ctl (Sg7) Unit):=
 (F80 y1).bind λ y5=>(Vf y5 a0).bind λ y7=>bif decide ((y7.2.Ac.length:Int)>0) then (getI y7.2.Am 0).bind λ y10=>(Qe (⟨(⟨z0.1,z0.2.1,z0.2.2.1,z0.2.2.2.1,z0.2.2.2.2.1,z0.2.2.2.2.2.1⟩:Aa),(⟨z0.2.2.2.2.2.2.1,z0.2.2.2.2.2.2.2.1,z0.2.2.2.2.2.2.2.2.1,z0.2.2.2.2.2.2.2.2.2.1⟩:Ab),z0.2.2.2.2.2.2.2.2.2.2⟩:Ax) y7.1 y10).bind λ y12=>(getI y7.2.Am 0).bind λ y14=>(Qd y12 y7.1 y14).bind λ y16=>some (.next (y16.An.Am,y16.An.Ad,y16.An.Ac,y16.An.Af,y16.An.Phase,y16.An.Au,y16.Ao.Ae,y16.Ao.Ac,y16.Ao.Al,y16.Ao.Ah,y16.acts)) else some (.next (z0.1,z0.2.1,z0.2.2.1,z0.2.2.2.1,z0.2.2.2.2.1,z0.2.2.2.2.2.1,z0.2.2.2.2.2.2.1,z0.2.2.2.2.2.2.2.1,z0.2.2.2.2.2.2.2.2.1,z0.2.2.2.2.2.2.2.2.2.1,z0.2.2.2.2.2.2.2.2.2.2))
def Wv (x0:Ax):Option Ax:=
 (F85 x0.An).bind λ y1=>(Akg x0.An x0.Ao).bind λ y3=>andThen (foldI (Yz y1) y3 0 (x0.An.Am,x0.An.Ad,x0.An.Ac,x0.An.Af,x0.An.Phase,x0.An.Au,x0.Ao.Ae,x0.Ao.Ac,x0.Ao.Al,x0.Ao.Ah,x0.acts)) (λ _=>none) λ z0=>some (⟨(⟨z0.1,z0.2.1,z0.2.2.1,z0.2.2.2.1,z0.2.2.2.2.1,z0.2.2.2.2.2.1⟩:Aa),(⟨z0.2.2.2.2.2.2.1,z0.2.2.2.2.2.2.2.1,z0.2.2.2.2.2.2.2.2.1,z0.2.2.2.2.2.2.2.2.2.1⟩:Ab),z0.2.2.2.2.2.2.2.2.2.2⟩:Ax)
def Aec (x0:Ax):Option Ax:=
 (uK x0).bind λ y1=>(Wv y1).bind λ y3=>some y3
def Aed (x0:Aa) (x1:Ab):Option (Ab×(List Ak)×Int):=
 (F44 x0 x1).bind λ y1=>bif (y1 != 0) then some ((⟨([]:List Bool),([]:List Ai),([]:List Int),([]:List As)⟩:Ab),([]:List Ak),y1) else (F35 x1).bind λ y4=>(Aec (⟨x0,y4,([]:List Ak)⟩:Ax)).bind λ y6=>some (y6.Ao,y6.acts,0)
def F31 (x0:Aa) (x1:Ab):Option (Ab×(List Ak)×Int):=
 (Aed x0 x1).bind λ y1=>some (y1.1,y1.2.1,y1.2.2)
def Ajt (x1:List Bool) (n0:Nat) (a0:Bool) (z0:Unit):Option (Ctl Unit Bool):=
 (getI x1 (cnt 0 n0)).bind λ y2=>bif !(a0==y2) then some (.ret false) else some (.next ())
def F72 (x0:List Bool) (x1:List Bool):Option Bool:=
 bif ((x0.length:Int) != (x1.length:Int)) then some false else andThen (foldI (Ajt x1) x0 0 ()) some λ z0=>some true
def A6h (a0:Ai) (y2:Ai):Bool:=!((a0.State==y2.State)&&((a0.Since==y2.Since)&&((a0.Au==y2.Au)&&((a0.Phase==y2.Phase)&&true))))
def Ajs (x1:List Ai) (n0:Nat) (a0:Ai) (z0:Unit):Option (Ctl Unit Bool):=
 (getI x1 (cnt 0 n0)).bind λ y2=>bif (A6h a0 y2) then some (.ret false) else some (.next ())
def F73 (x0:List Ai) (x1:List Ai):Option Bool:=
 bif ((x0.length:Int) != (x1.length:Int)) then some false else andThen (foldI (Ajs x1) x0 0 ()) some λ z0=>some true
def Ajr (x1:List Int) (n0:Nat) (a0:Int) (z0:Unit):Option (Ctl Unit Bool):=
 (getI x1 (cnt 0 n0)).bind λ y2=>bif (a0 != y2) then some (.ret false) else some (.next ())
def F74 (x0:List Int) (x1:List Int):Option Bool:=
 bif ((x0.length:Int) != (x1.length:Int)) then some false else andThen (foldI (Ajr x1) x0 0 ()) some λ z0=>some true
def A6g (a0:As) (y2:As):Bool:=!((a0.Kind==y2.Kind)&&((a0.Number==y2.Number)&&true))
def Ajq (x1:List As) (n0:Nat) (a0:As) (z0:Unit):Option (Ctl Unit Bool):=
 (getI x1 (cnt 0 n0)).bind λ y2=>bif (A6g a0 y2) then some (.ret false) else some (.next ())
def F75 (x0:List As) (x1:List As):Option Bool:=
 bif ((x0.length:Int) != (x1.length:Int)) then some false else andThen (foldI (Ajq x1) x0 0 ()) some λ z0=>some true
def F32 (x0:Ab) (x1:Ab):Option Bool:=
 (F72 x0.Ae x1.Ae).bind λ y1=>(Az [(y1,true)] (F73 x0.Ac x1.Ac) default).bind λ y3=>(Az [((y1&&y3),true)] (F74 x0.Al x1.Al) default).bind λ y5=>(Az [(((y1&&y3)&&y5),true)] (F75 x0.Ah x1.Ah) default).bind λ y7=>some (((y1&&y3)&&y5)&&y7)
def Ao0 (a0:Ag) (y1:Bool) (y3:Bool) (y5:Bool):Bool:=((((a0.Kind==1)&&y1)&&y3)&&(!y5))
def Aj7 (x0:Aa) (x1:Ab) (n0:Nat) (a0:Ag) (z0:Unit):Option (Ctl Unit Bool):=
 (Az [((a0.Kind==1),true)] (getI x1.Ae (cnt 0 n0)) default).bind λ y1=>(Az [(((a0.Kind==1)&&y1),true)] (F76 x1 2 (cnt 0 n0)) default).bind λ y3=>(Az [((((a0.Kind==1)&&y1)&&y3),true)] (F58 x0 x1 a0.A) default).bind λ y5=>bif (Ao0 a0 y1 y3 y5) then some (.ret true) else some (.next ())
def F33 (x0:Aa) (x1:Ab):Option Bool:=
 andThen (foldI (Aj7 x0 x1) x0.Ad 0 ()) some λ z0=>some false
def vE (x0:Ag) (x1:Int):Bool:=
 ((x0.Kind==2)&&(x0.B==x1))
def Oz (x1c0:Int) (n0:Nat) (a0:Ag) (z0:Unit):Option (Ctl Unit (Int×Int)):=
 bif vE a0 x1c0 then some (.ret (cnt 0 n0,x1c0)) else some (.next ())
def vF (x0:List Ag) (x1c0:Int):Option (Int×Int):=
 andThen (foldI (Oz x1c0) x0 0 ()) some λ z0=>some ((-1),x1c0)
def F56 (x0:Aa) (x1:Int):Option Int:=
 (vF x0.Ad x1).bind λ y1=>some y1.1
def F57 (x0:Aa) (x1:Ab) (x2:Int):Option Bool:=
 (getI x0.Ad x2).bind λ y1=>(F76 x1 2 x2).bind λ y3=>(Az [(!y3,true)] (F76 x1 3 y1.A) default).bind λ y5=>(Az [(((!y3)&&(!y5)),true),((y1.Kind != 1),false)] (F76 x1 3 y1.B) default).bind λ y7=>some (((!y3)&&(!y5))&&((y1.Kind != 1) || (!y7)))
def F55 (x0:Aa) (x1:Ab) (x2:Int):Option Bool:=
 (F56 x0 x2).bind λ y1=>(F57 x0 x1 y1).bind λ y3=>(Az [(y3,true)] (F76 x1 1 x2) default).bind λ y5=>(Az [((y3&&(!y5)),true)] (getI x1.Ac x2) default).bind λ y7=>some ((y3&&(!y5))&&(y7.State != 3))
def Az8 (x0:Aa) (z0:Int×(List Bool)):Bool:=decide (z0.1<(x0.Ac.length:Int))
def Akc (x0:Aa) (x1:Ab) (z0:Int×(List Bool)):Option (Ctl (Int×(List Bool)) Unit):=
 bif (Az8 x0 z0) then (F55 x0 x1 z0.1).bind λ y7=>bif y7 then (F56 x0 z0.1).bind λ y10=>(getI x0.Ad y10).bind λ y12=>(getI z0.2 y12.A).bind λ y14=>(setI z0.2 y12.A true).bind λ y16=>some (.next (w64 (z0.1+1),y16)) else some (.next (w64 (z0.1+1),z0.2)) else some (.brk (z0.1,z0.2))
def uU (x0:Aa) (x1:Ab) (n2:Nat) (a2:Ag) (z2:(List Bool)):Option (Ctl ((List Bool)) Unit):=
 (Az [((a2.Kind==1),true)] (F57 x0 x1 (cnt 0 n2)) default).bind λ y19=>bif ((a2.Kind==1)&&y19) then (getI z2 a2.A).bind λ y22=>(Az [(y22,false)] (getI z2 a2.B) default).bind λ y24=>(setI z2 a2.A (y22 || y24)).bind λ y26=>(getI y26 a2.B).bind λ y28=>(setI y26 a2.B (y22 || y24)).bind λ y30=>some (.next y30) else some (.next z2)
def Akb (x0:Aa) (x1:Ab) (z1:Int×(List Bool)):Option (Ctl (Int×(List Bool)) Unit):=
 bif decide (z1.1<x0.Am) then andThen (foldI (uU x0 x1) x0.Ad 0 z1.2) (λ _=>none) λ z2=>some (.next (w64 (z1.1+1),z2)) else some (.brk (z1.1,z1.2))
def F23 (x0:Aa) (x1:Ab):Option ((List Bool)):=
 (F44 x0 x1).bind λ y1=>bif (y1 != 0) then some ([]:List Bool) else (mkI 2 x0.Am false).bind λ y4=>andThen (whileN (Akc x0 x1) 1152921504606846976 (0,y4)) (λ _=>none) λ z0=>andThen (whileN (Akb x0 x1) 1152921504606846976 (0,z0.2)) (λ _=>none) λ z1=>some z1.2
def Ajp (x1:Bool) (n0:Nat) (a0:Bool) (z0:Unit):Option (Ctl Unit Int):=
 bif (x1==a0) then some (.ret (cnt 0 n0)) else some (.next ())
def F77 (x0:List Bool) (x1:Bool):Option Int:=
 andThen (foldI (Ajp x1) x0 0 ()) some λ z0=>some (-1)
def F34 (x0:List Bool) (x1:Bool):Option Bool:=
 (F77 x0 x1).bind λ y1=>some (decide (y1>=0))
def Aka (x0:Aa) (x1:Ab) (n0:Nat) (a0:Bool) (z0:Unit):Option (Ctl Unit Bool):=
 (Az [(a0,true)] (F58 x0 x1 (cnt 0 n0)) default).bind λ y3=>bif (a0&&(!y3)) then some (.ret false) else some (.next ())
def F24 (x0:Aa) (x1:Ab):Option Bool:=
 (F23 x0 x1).bind λ y1=>andThen (foldI (Aka x0 x1) y1 0 ()) some λ z0=>(F44 x0 x1).bind λ y6=>some (y6==0)
def Le (x0:Ay) (x1:Int):Option Bool:=
 (F58 x0.An x0.Ao x1).bind λ y1=>some y1
def Ot (x0:Ay) (x1:Int) (x2:Int):Option Ay:=
 (appI 25 x0.acts [(⟨x1,x2,0⟩:Ak)]).bind λ y1=>(getI x0.Ao.Ae x2).bind λ y3=>(setI x0.Ao.Ae x2 (x1==1)).bind λ y5=>some (⟨x0.An,(⟨y5,x0.Ao.Ac,x0.Ao.Al,x0.Ao.Ah⟩:Ab),x0.goal,y1⟩:Ay)
def zG (a0:Ag) (y1:Bool) (y3:Bool) (y5:Bool):Bool:=((((a0.Kind != 2)&&y1)&&(!y3))&&(!y5))
def Y6 (x0:Ay) (n0:Nat) (a0:Ag) (z0:(List Int)):Option (Ctl ((List Int)) Unit):=
 (Az [((a0.Kind != 2),true)] (getI x0.Ao.Ae (cnt 0 n0)) default).bind λ y1=>(Az [(((a0.Kind != 2)&&y1),true)] (F76 x0.Ao 2 (cnt 0 n0)) default).bind λ y3=>(Az [((((a0.Kind != 2)&&y1)&&(!y3)),true)] (Le x0 a0.A) default).bind λ y5=>bif (zG a0 y1 y3 y5) then (appI 9 z0 [cnt 0 n0]).bind λ y8=>some (.next y8) else some (.next z0)
def Y5 (n1:Nat) (a1:Int) (z1:Sg6):Option (Ctl (Sg6) Unit):=
 (Ot (⟨(⟨z1.1,z1.2.1,z1.2.2.1,z1.2.2.2.1,z1.2.2.2.2.1,z1.2.2.2.2.2.1⟩:Aa),(⟨z1.2.2.2.2.2.2.1,z1.2.2.2.2.2.2.2.1,z1.2.2.2.2.2.2.2.2.1,z1.2.2.2.2.2.2.2.2.2.1⟩:Ab),z1.2.2.2.2.2.2.2.2.2.2.1,z1.2.2.2.2.2.2.2.2.2.2.2⟩:Ay) 2 a1).bind λ y10=>some (.next (y10.An.Am,y10.An.Ad,y10.An.Ac,y10.An.Af,y10.An.Phase,y10.An.Au,y10.Ao.Ae,y10.Ao.Ac,y10.Ao.Al,y10.Ao.Ah,y10.goal,y10.acts))
def Ww (x0:Ay):Option Ay:=
 andThen (foldI (Y6 x0) x0.An.Ad 0 ([]:List Int)) (λ _=>none) λ z0=>andThen (foldI Y5 z0 0 (x0.An.Am,x0.An.Ad,x0.An.Ac,x0.An.Af,x0.An.Phase,x0.An.Au,x0.Ao.Ae,x0.Ao.Ac,x0.Ao.Al,x0.Ao.Ah,x0.goal,x0.acts)) (λ _=>none) λ z1=>some (⟨(⟨z1.1,z1.2.1,z1.2.2.1,z1.2.2.2.1,z1.2.2.2.2.1,z1.2.2.2.2.2.1⟩:Aa),(⟨z1.2.2.2.2.2.2.1,z1.2.2.2.2.2.2.2.1,z1.2.2.2.2.2.2.2.2.1,z1.2.2.2.2.2.2.2.2.2.1⟩:Ab),z1.2.2.2.2.2.2.2.2.2.2.1,z1.2.2.2.2.2.2.2.2.2.2.2⟩:Ay)
def Aqj (x0:Int) (x1:Int):Int×Int:=
 (IntKind.wrap .u64 ((IntKind.wrap .u64 ((IntKind.wrap .u64 ((Hy .u64 x0 32)*(Hy .u64 x1 32)))+(Hy .u64 (IntKind.wrap .u64 ((IntKind.wrap .u64 ((Hy .u64 x0 32)*(Pa .u64 x1 4294967295)))+(Hy .u64 (IntKind.wrap .u64 ((Pa .u64 x0 4294967295)*(Pa .u64 x1 4294967295))) 32))) 32)))+(Hy .u64 (IntKind.wrap .u64 ((Pa .u64 (IntKind.wrap .u64 ((IntKind.wrap .u64 ((Hy .u64 x0 32)*(Pa .u64 x1 4294967295)))+(Hy .u64 (IntKind.wrap .u64 ((Pa .u64 x0 4294967295)*(Pa .u64 x1 4294967295))) 32))) 4294967295)+(IntKind.wrap .u64 ((Pa .u64 x0 4294967295)*(Hy .u64 x1 32))))) 32)),IntKind.wrap .u64 (x0*x1))
def So (x0:Int) (x1:Int):Int×Int:=
 ((Aqj x0 x1).1,(Aqj x0 x1).2)
def Ajn (x1:Int):Option (Ctl Unit Unit):=
 bif decide (x1<0) then none else some (.next ())
def Az1 (x0:List Ak) (x1:Int):Bool:=((decide (((So (IntKind.wrap .u64 (x0.length:Int)) (IntKind.wrap .u64 x1)).1)>0)) || (decide (((So (IntKind.wrap .u64 (x0.length:Int)) (IntKind.wrap .u64 x1)).2)>9223372036854775807)))
def Ajm (x0:List Ak) (x1:Int):Option (Ctl Unit Unit):=
 bif (Az1 x0 x1) then none else some (.next ())
def Az0 (z2:Int×(List Ak)):Bool:=decide (z2.1<(z2.2.length:Int))
def Ajo (z2:Int×(List Ak)):Option (Ctl (Int×(List Ak)) Unit):=
 bif (Az0 z2) then (bndI z2.2.length z2.1 (z2.2.length:Int)).bind λ u7=>(bndI z2.2.length 0 z2.1).bind λ u9=>some (.next (w64 (z2.1+((Nat.min ((z2.2.drop 0).take ((Int.toNat z2.1)-0)).length ((Int.toNat (z2.2.length:Int))-(Int.toNat z2.1))):Int)),(Iy z2.2 (Int.toNat z2.1) ((Int.toNat (z2.2.length:Int))-(Int.toNat z2.1)) ((z2.2.drop 0).take ((Int.toNat z2.1)-0))))) else some (.brk (z2.1,z2.2))
def F83 (x0:List Ak) (x1:Int):Option ((List Ak)):=
 andThen (Ajn x1) (λ _=>none) λ z0=>andThen (Ajm x0 x1) (λ _=>none) λ z1=>(mkI 25 (w64 ((So (IntKind.wrap .u64 (x0.length:Int)) (IntKind.wrap .u64 x1)).2)) (⟨0,0,0⟩:Ak)).bind λ y3=>andThen (whileN Ajo 1152921504606846976 (((Nat.min x0.length y3.length):Int),(Iy y3 0 y3.length x0))) (λ _=>none) λ z2=>some z2.2
def Y4 (x0:Ay) (n0:Nat) (a0:Ai) (z0:Sg9):Option (Ctl (Sg9) Unit):=
 (getI z0.2.1 (cnt 0 n0)).bind λ y1=>(F55 x0.An (⟨x0.Ao.Ae,z0.2.1,x0.Ao.Al,x0.Ao.Ah⟩:Ab) (cnt 0 n0)).bind λ y3=>(Az [(!y3,false)] (F56 x0.An (cnt 0 n0)) default).bind λ y5=>(Az [(!y3,false)] (getI x0.An.Ad y5) default).bind λ y7=>(Az [(!y3,false)] (Le (⟨x0.An,(⟨x0.Ao.Ae,z0.2.1,x0.Ao.Al,x0.Ao.Ah⟩:Ab),x0.goal,z0.2.2⟩:Ay) y7.A) default).bind λ y9=>bif ((!y3) || y9) then some (.next (z0.1,z0.2.1,z0.2.2)) else bif (y1.State==0) then (appI 25 z0.2.2 [(⟨3,cnt 0 n0,0⟩:Ak)]).bind λ y13=>(getI x0.An.Ac (cnt 0 n0)).bind λ y15=>(setI z0.2.1 (cnt 0 n0) (⟨2,y1.Since,y1.Au,y1.Phase⟩:Ai)).bind λ y17=>some (.next (max z0.1 y15.Start,y17,y13)) else bif (y1.State==1) then (getI x0.An.Ac (cnt 0 n0)).bind λ y20=>(setI z0.2.1 (cnt 0 n0) (⟨2,y1.Since,y1.Au,y1.Phase⟩:Ai)).bind λ y22=>some (.next (max (max z0.1 y20.Start) 1,y22,z0.2.2)) else (setI z0.2.1 (cnt 0 n0) (⟨2,y1.Since,y1.Au,y1.Phase⟩:Ai)).bind λ y24=>some (.next (z0.1,y24,z0.2.2))
def uP (x0:Ay):Option Ay:=
 andThen (foldI (Y4 x0) x0.Ao.Ac 0 (0,x0.Ao.Ac,x0.acts)) (λ _=>none) λ z0=>(F83 [(⟨7,0,0⟩:Ak)] z0.1).bind λ y26=>(appI 25 z0.2.2 y26).bind λ y28=>some (⟨x0.An,(⟨x0.Ao.Ae,z0.2.1,x0.Ao.Al,x0.Ao.Ah⟩:Ab),x0.goal,y28⟩:Ay)
def Amh (z0:H7) (z1:H7):Bool:=decide (z1.1<(z0.2.2.2.1.length:Int))
def Y2 (z0:H7) (z1:H7):Option (Ctl (H7) Unit):=
 bif (Amh z0 z1) then (F56 (⟨z1.2.1,z1.2.2.1,z1.2.2.2.1,z1.2.2.2.2.1,z1.2.2.2.2.2.1,z1.2.2.2.2.2.2.1⟩:Aa) z1.1).bind λ y3=>(getI z1.2.2.1 y3).bind λ y5=>(Az [((y5.A==z0.1),true)] (F55 (⟨z1.2.1,z1.2.2.1,z1.2.2.2.1,z1.2.2.2.2.1,z1.2.2.2.2.2.1,z1.2.2.2.2.2.2.1⟩:Aa) (⟨z1.2.2.2.2.2.2.2.1,z1.2.2.2.2.2.2.2.2.1,z1.2.2.2.2.2.2.2.2.2.1,z1.2.2.2.2.2.2.2.2.2.2.1⟩:Ab) z1.1) default).bind λ y7=>(Az [(((y5.A==z0.1)&&y7),true)] (Le (⟨(⟨z1.2.1,z1.2.2.1,z1.2.2.2.1,z1.2.2.2.2.1,z1.2.2.2.2.2.1,z1.2.2.2.2.2.2.1⟩:Aa),(⟨z1.2.2.2.2.2.2.2.1,z1.2.2.2.2.2.2.2.2.1,z1.2.2.2.2.2.2.2.2.2.1,z1.2.2.2.2.2.2.2.2.2.2.1⟩:Ab),z1.2.2.2.2.2.2.2.2.2.2.2.1,z1.2.2.2.2.2.2.2.2.2.2.2.2⟩:Ay) z0.1) default).bind λ y9=>bif (((y5.A==z0.1)&&y7)&&(!y9)) then (Ot (⟨(⟨z1.2.1,z1.2.2.1,z1.2.2.2.1,z1.2.2.2.2.1,z1.2.2.2.2.2.1,z1.2.2.2.2.2.2.1⟩:Aa),(⟨z1.2.2.2.2.2.2.2.1,z1.2.2.2.2.2.2.2.2.1,z1.2.2.2.2.2.2.2.2.2.1,z1.2.2.2.2.2.2.2.2.2.2.1⟩:Ab),z1.2.2.2.2.2.2.2.2.2.2.2.1,z1.2.2.2.2.2.2.2.2.2.2.2.2⟩:Ay) 1 y3).bind λ y12=>some (.next (w64 (z1.1+1),y12.An.Am,y12.An.Ad,y12.An.Ac,y12.An.Af,y12.An.Phase,y12.An.Au,y12.Ao.Ae,y12.Ao.Ac,y12.Ao.Al,y12.Ao.Ah,y12.goal,y12.acts)) else some (.next (w64 (z1.1+1),z1.2.1,z1.2.2.1,z1.2.2.2.1,z1.2.2.2.2.1,z1.2.2.2.2.2.1,z1.2.2.2.2.2.2.1,z1.2.2.2.2.2.2.2.1,z1.2.2.2.2.2.2.2.2.1,z1.2.2.2.2.2.2.2.2.2.1,z1.2.2.2.2.2.2.2.2.2.2.1,z1.2.2.2.2.2.2.2.2.2.2.2.1,z1.2.2.2.2.2.2.2.2.2.2.2.2)) else some (.brk (z1.1,z1.2.1,z1.2.2.1,z1.2.2.2.1,z1.2.2.2.2.1,z1.2.2.2.2.2.1,z1.2.2.2.2.2.2.1,z1.2.2.2.2.2.2.2.1,z1.2.2.2.2.2.2.2.2.1,z1.2.2.2.2.2.2.2.2.2.1,z1.2.2.2.2.2.2.2.2.2.2.1,z1.2.2.2.2.2.2.2.2.2.2.2.1,z1.2.2.2.2.2.2.2.2.2.2.2.2))
def Y3 (x0:Ay) (z0:H7):Option (Ctl (H7) Unit):=
 bif decide (z0.1<x0.An.Am) then andThen (whileN (Y2 z0) 1152921504606846976 (0,z0.2.1,z0.2.2.1,z0.2.2.2.1,z0.2.2.2.2.1,z0.2.2.2.2.2.1,z0.2.2.2.2.2.2.1,z0.2.2.2.2.2.2.2.1,z0.2.2.2.2.2.2.2.2.1,z0.2.2.2.2.2.2.2.2.2.1,z0.2.2.2.2.2.2.2.2.2.2.1,z0.2.2.2.2.2.2.2.2.2.2.2.1,z0.2.2.2.2.2.2.2.2.2.2.2.2)) (λ _=>none) λ z1=>some (.next (w64 (z0.1+1),z1.2.1,z1.2.2.1,z1.2.2.2.1,z1.2.2.2.2.1,z1.2.2.2.2.2.1,z1.2.2.2.2.2.2.1,z1.2.2.2.2.2.2.2.1,z1.2.2.2.2.2.2.2.2.1,z1.2.2.2.2.2.2.2.2.2.1,z1.2.2.2.2.2.2.2.2.2.2.1,z1.2.2.2.2.2.2.2.2.2.2.2.1,z1.2.2.2.2.2.2.2.2.2.2.2.2)) else some (.brk (z0.1,z0.2.1,z0.2.2.1,z0.2.2.2.1,z0.2.2.2.2.1,z0.2.2.2.2.2.1,z0.2.2.2.2.2.2.1,z0.2.2.2.2.2.2.2.1,z0.2.2.2.2.2.2.2.2.1,z0.2.2.2.2.2.2.2.2.2.1,z0.2.2.2.2.2.2.2.2.2.2.1,z0.2.2.2.2.2.2.2.2.2.2.2.1,z0.2.2.2.2.2.2.2.2.2.2.2.2))
def uO (x0:Ay):Option Ay:=
 andThen (whileN (Y3 x0) 1152921504606846976 (0,x0.An.Am,x0.An.Ad,x0.An.Ac,x0.An.Af,x0.An.Phase,x0.An.Au,x0.Ao.Ae,x0.Ao.Ac,x0.Ao.Al,x0.Ao.Ah,x0.goal,x0.acts)) (λ _=>none) λ z0=>some (⟨(⟨z0.2.1,z0.2.2.1,z0.2.2.2.1,z0.2.2.2.2.1,z0.2.2.2.2.2.1,z0.2.2.2.2.2.2.1⟩:Aa),(⟨z0.2.2.2.2.2.2.2.1,z0.2.2.2.2.2.2.2.2.1,z0.2.2.2.2.2.2.2.2.2.1,z0.2.2.2.2.2.2.2.2.2.2.1⟩:Ab),z0.2.2.2.2.2.2.2.2.2.2.2.1,z0.2.2.2.2.2.2.2.2.2.2.2.2⟩:Ay)
def Wk (a0:Ag) (y1:Bool) (y3:Bool) (y5:Bool) (y7:Bool) (y9:Bool):Bool:=(((((a0.Kind==1)&&(!y1))&&y3)&&y5)&&(!(y7==y9)))
def Y1 (x0:Ay) (n0:Nat) (a0:Ag) (z0:Unit):Option (Ctl Unit (Int×Bool)):=
 (Az [((a0.Kind==1),true)] (getI x0.Ao.Ae (cnt 0 n0)) default).bind λ y1=>(Az [(((a0.Kind==1)&&(!y1)),true)] (F57 x0.An x0.Ao (cnt 0 n0)) default).bind λ y3=>(Az [((((a0.Kind==1)&&(!y1))&&y3),true)] (getI x0.goal a0.A) default).bind λ y5=>(Az [(((((a0.Kind==1)&&(!y1))&&y3)&&y5),true)] (Le x0 a0.A) default).bind λ y7=>(Az [(((((a0.Kind==1)&&(!y1))&&y3)&&y5),true)] (Le x0 a0.B) default).bind λ y9=>bif (Wk a0 y1 y3 y5 y7 y9) then some (.ret (cnt 0 n0,true)) else some (.next ())
def uN (x0:Ay):Option (Int×Bool):=
 andThen (foldI (Y1 x0) x0.An.Ad 0 ()) some λ z0=>some (0,false)
def F86 (x0:Aa) (x1:Ab) (x2:Int):Option (Int×Bool):=
 (F44 x0 x1).bind λ y1=>bif (y1 != 0) then some (0,false) else (Zc x0 x1 x2).bind λ y4=>some (y4.1,y4.2)
def P1 (a0:(Int×Int)) (a1:Ag) (y10:Bool) (y12:Bool):Bool:=((((a1.Kind != 3) || (a1.B != a0.2)) || (!y10)) || (!y12))
def Y0 (a0:(Int×Int)) (n1:Nat) (a1:Ag) (z1:Sg6):Option (Ctl (Sg6) Unit):=
 (Az [(((a1.Kind != 3) || (a1.B != a0.2)),false)] (F57 (⟨z1.1,z1.2.1,z1.2.2.1,z1.2.2.2.1,z1.2.2.2.2.1,z1.2.2.2.2.2.1⟩:Aa) (⟨z1.2.2.2.2.2.2.1,z1.2.2.2.2.2.2.2.1,z1.2.2.2.2.2.2.2.2.1,z1.2.2.2.2.2.2.2.2.2.1⟩:Ab) (cnt 0 n1)) default).bind λ y10=>(Az [((((a1.Kind != 3) || (a1.B != a0.2)) || (!y10)),false)] (Le (⟨(⟨z1.1,z1.2.1,z1.2.2.1,z1.2.2.2.1,z1.2.2.2.2.1,z1.2.2.2.2.2.1⟩:Aa),(⟨z1.2.2.2.2.2.2.1,z1.2.2.2.2.2.2.2.1,z1.2.2.2.2.2.2.2.2.1,z1.2.2.2.2.2.2.2.2.2.1⟩:Ab),z1.2.2.2.2.2.2.2.2.2.2.1,z1.2.2.2.2.2.2.2.2.2.2.2⟩:Ay) a1.A) default).bind λ y12=>bif (P1 a0 a1 y10 y12) then some (.next (z1.1,z1.2.1,z1.2.2.1,z1.2.2.2.1,z1.2.2.2.2.1,z1.2.2.2.2.2.1,z1.2.2.2.2.2.2.1,z1.2.2.2.2.2.2.2.1,z1.2.2.2.2.2.2.2.2.1,z1.2.2.2.2.2.2.2.2.2.1,z1.2.2.2.2.2.2.2.2.2.2.1,z1.2.2.2.2.2.2.2.2.2.2.2)) else (F87 (⟨z1.1,z1.2.1,z1.2.2.1,z1.2.2.2.1,z1.2.2.2.2.1,z1.2.2.2.2.2.1⟩:Aa) (⟨z1.2.2.2.2.2.2.1,z1.2.2.2.2.2.2.2.1,z1.2.2.2.2.2.2.2.2.1,z1.2.2.2.2.2.2.2.2.2.1⟩:Ab) a1.A).bind λ y15=>(getI z1.2.2.2.2.2.2.2.2.1 a0.2).bind λ y17=>(F88 (⟨z1.1,z1.2.1,z1.2.2.1,z1.2.2.2.1,z1.2.2.2.2.1,z1.2.2.2.2.2.1⟩:Aa) (⟨z1.2.2.2.2.2.2.1,z1.2.2.2.2.2.2.2.1,z1.2.2.2.2.2.2.2.2.1,z1.2.2.2.2.2.2.2.2.2.1⟩:Ab) a1.A).bind λ y19=>bif decide ((w64 (y15+y17))<=y19) then (Ot (⟨(⟨z1.1,z1.2.1,z1.2.2.1,z1.2.2.2.1,z1.2.2.2.2.1,z1.2.2.2.2.2.1⟩:Aa),(⟨z1.2.2.2.2.2.2.1,z1.2.2.2.2.2.2.2.1,z1.2.2.2.2.2.2.2.2.1,z1.2.2.2.2.2.2.2.2.2.1⟩:Ab),z1.2.2.2.2.2.2.2.2.2.2.1,z1.2.2.2.2.2.2.2.2.2.2.2⟩:Ay) 1 (cnt 0 n1)).bind λ y22=>some (.brk (y22.An.Am,y22.An.Ad,y22.An.Ac,y22.An.Af,y22.An.Phase,y22.An.Au,y22.Ao.Ae,y22.Ao.Ac,y22.Ao.Al,y22.Ao.Ah,y22.goal,y22.acts)) else some (.brk (z1.1,z1.2.1,z1.2.2.1,z1.2.2.2.1,z1.2.2.2.2.1,z1.2.2.2.2.2.1,z1.2.2.2.2.2.2.1,z1.2.2.2.2.2.2.2.1,z1.2.2.2.2.2.2.2.2.1,z1.2.2.2.2.2.2.2.2.2.1,z1.2.2.2.2.2.2.2.2.2.2.1,z1.2.2.2.2.2.2.2.2.2.2.2))
def Sg (a0:Int×Int) (z0:Sg6):Option (Ctl (Sg6) Unit):=
 (F86 (⟨z0.1,z0.2.1,z0.2.2.1,z0.2.2.2.1,z0.2.2.2.2.1,z0.2.2.2.2.2.1⟩:Aa) (⟨z0.2.2.2.2.2.2.1,z0.2.2.2.2.2.2.2.1,z0.2.2.2.2.2.2.2.2.1,z0.2.2.2.2.2.2.2.2.2.1⟩:Ab) a0.2).bind λ y5=>(Az [(y5.2,false)] (F76 (⟨z0.2.2.2.2.2.2.1,z0.2.2.2.2.2.2.2.1,z0.2.2.2.2.2.2.2.2.1,z0.2.2.2.2.2.2.2.2.2.1⟩:Ab) 4 a0.2) default).bind λ y7=>bif (y5.2 || y7) then some (.next (z0.1,z0.2.1,z0.2.2.1,z0.2.2.2.1,z0.2.2.2.2.1,z0.2.2.2.2.2.1,z0.2.2.2.2.2.2.1,z0.2.2.2.2.2.2.2.1,z0.2.2.2.2.2.2.2.2.1,z0.2.2.2.2.2.2.2.2.2.1,z0.2.2.2.2.2.2.2.2.2.2.1,z0.2.2.2.2.2.2.2.2.2.2.2)) else andThen (foldI (Y0 a0) z0.2.1 0 (z0.1,z0.2.1,z0.2.2.1,z0.2.2.2.1,z0.2.2.2.2.1,z0.2.2.2.2.2.1,z0.2.2.2.2.2.2.1,z0.2.2.2.2.2.2.2.1,z0.2.2.2.2.2.2.2.2.1,z0.2.2.2.2.2.2.2.2.2.1,z0.2.2.2.2.2.2.2.2.2.2.1,z0.2.2.2.2.2.2.2.2.2.2.2)) (λ _=>none) λ z1=>some (.next (z1.1,z1.2.1,z1.2.2.1,z1.2.2.2.1,z1.2.2.2.2.1,z1.2.2.2.2.2.1,z1.2.2.2.2.2.2.1,z1.2.2.2.2.2.2.2.1,z1.2.2.2.2.2.2.2.2.1,z1.2.2.2.2.2.2.2.2.2.1,z1.2.2.2.2.2.2.2.2.2.2.1,z1.2.2.2.2.2.2.2.2.2.2.2))
def uM (x0:Ay):Option Ay:=
 (F85 x0.An).bind λ y3=>andThen (foldE Sg (bw y3) (x0.An.Am,x0.An.Ad,x0.An.Ac,x0.An.Af,x0.An.Phase,x0.An.Au,x0.Ao.Ae,x0.Ao.Ac,x0.Ao.Al,x0.Ao.Ah,x0.goal,x0.acts)) (λ _=>none) λ z0=>some (⟨(⟨z0.1,z0.2.1,z0.2.2.1,z0.2.2.2.1,z0.2.2.2.2.1,z0.2.2.2.2.2.1⟩:Aa),(⟨z0.2.2.2.2.2.2.1,z0.2.2.2.2.2.2.2.1,z0.2.2.2.2.2.2.2.2.1,z0.2.2.2.2.2.2.2.2.2.1⟩:Ab),z0.2.2.2.2.2.2.2.2.2.2.1,z0.2.2.2.2.2.2.2.2.2.2.2⟩:Ay)
def Aqd (z0:Sg6):Option (Ctl (Sg6) Unit):=
 (uN (⟨(⟨z0.1,z0.2.1,z0.2.2.1,z0.2.2.2.1,z0.2.2.2.2.1,z0.2.2.2.2.2.1⟩:Aa),(⟨z0.2.2.2.2.2.2.1,z0.2.2.2.2.2.2.2.1,z0.2.2.2.2.2.2.2.2.1,z0.2.2.2.2.2.2.2.2.2.1⟩:Ab),z0.2.2.2.2.2.2.2.2.2.2.1,z0.2.2.2.2.2.2.2.2.2.2.2⟩:Ay)).bind λ y26=>bif !y26.2 then some (.brk (z0.1,z0.2.1,z0.2.2.1,z0.2.2.2.1,z0.2.2.2.2.1,z0.2.2.2.2.2.1,z0.2.2.2.2.2.2.1,z0.2.2.2.2.2.2.2.1,z0.2.2.2.2.2.2.2.2.1,z0.2.2.2.2.2.2.2.2.2.1,z0.2.2.2.2.2.2.2.2.2.2.1,z0.2.2.2.2.2.2.2.2.2.2.2)) else (Ot (⟨(⟨z0.1,z0.2.1,z0.2.2.1,z0.2.2.2.1,z0.2.2.2.2.1,z0.2.2.2.2.2.1⟩:Aa),(⟨z0.2.2.2.2.2.2.1,z0.2.2.2.2.2.2.2.1,z0.2.2.2.2.2.2.2.2.1,z0.2.2.2.2.2.2.2.2.2.1⟩:Ab),z0.2.2.2.2.2.2.2.2.2.2.1,z0.2.2.2.2.2.2.2.2.2.2.2⟩:Ay) 1 y26.1).bind λ y29=>some (.next (y29.An.Am,y29.An.Ad,y29.An.Ac,y29.An.Af,y29.An.Phase,y29.An.Au,y29.Ao.Ae,y29.Ao.Ac,y29.Ao.Al,y29.Ao.Ah,y29.goal,y29.acts))
def F8 (x0:Aa) (x1:Ab):Option ((List Ak)×Int):=
 (F31 x0 x1).bind λ y1=>bif (y1.2.2 != 0) then some (([]:List Ak),y1.2.2) else (F32 x1 y1.1).bind λ y4=>(Az [(!y4,false)] (F33 x0 x1) default).bind λ y6=>bif ((!y4) || y6) then some (([]:List Ak),11) else (F23 x0 x1).bind λ y9=>(F34 y9 true).bind λ y11=>(Az [(!y11,false)] (F24 x0 x1) default).bind λ y13=>bif ((!y11) || y13) then some (([]:List Ak),9) else (F35 x1).bind λ y16=>(F23 x0 x1).bind λ y18=>(Ww (⟨x0,y16,y18,([]:List Ak)⟩:Ay)).bind λ y20=>(uP y20).bind λ y22=>(uO y22).bind λ y24=>andThen (whileN Aqd 1152921504606846976 (y24.An.Am,y24.An.Ad,y24.An.Ac,y24.An.Af,y24.An.Phase,y24.An.Au,y24.Ao.Ae,y24.Ao.Ac,y24.Ao.Al,y24.Ao.Ah,y24.goal,y24.acts)) (λ _=>none) λ z0=>(uM (⟨(⟨z0.1,z0.2.1,z0.2.2.1,z0.2.2.2.1,z0.2.2.2.2.1,z0.2.2.2.2.2.1⟩:Aa),(⟨z0.2.2.2.2.2.2.1,z0.2.2.2.2.2.2.2.1,z0.2.2.2.2.2.2.2.2.1,z0.2.2.2.2.2.2.2.2.2.1⟩:Ab),z0.2.2.2.2.2.2.2.2.2.2.1,z0.2.2.2.2.2.2.2.2.2.2.2⟩:Ay)).bind λ y31=>some (y31.acts,0)
def F42:Aa×Ab:=
 ((⟨2,[(⟨1,0,1⟩:Ag),(⟨2,1,0⟩:Ag)],[(⟨100,0,3⟩:Bc)],([]:List A3),0,0⟩:Aa),(⟨[false,false],[(⟨0,0,5000,0⟩:Ai)],([]:List Int),([]:List As)⟩:Ab))
def G8 (x0:Aa) (x1:Int) (x2:Int):Bool:=
 bif (x1==1) then ((decide (x2>=0))&&(decide (x2<(x0.Ac.length:Int)))) else bif (x1==2) then ((decide (x2>=0))&&(decide (x2<(x0.Ad.length:Int)))) else bif (x1==3) then ((decide (x2>=0))&&(decide (x2<x0.Am))) else bif (x1==4) then ((decide (x2>=0))&&(decide (x2<(x0.Af.length:Int)))) else ((decide (x2>=0))&&(decide (x2<0)))
def Aj1 (x1:Ak):Option (Ctl Bool Unit):=
 bif (x1.Kind==1) then some (.next (x1.Kind==1)) else some (.next (x1.Kind==2))
def Aj0 (x1:Ak):Option (Ctl Bool Unit):=
 bif (x1.Kind==3) then some (.next (x1.Kind==3)) else some (.next (x1.Kind==4))
def F62 (x0:Aa) (x1:Ak):Option Bool:=
 andThen (Aj1 x1) (λ _=>none) λ z0=>bif z0 then some (G8 x0 2 x1.Unit) else andThen (Aj0 x1) (λ _=>none) λ z1=>bif z1 then some (G8 x0 1 x1.Unit) else bif (x1.Kind==5) then some (G8 x0 4 x1.Unit) else bif (x1.Kind==6) then some ((G8 x0 1 x1.Unit)&&(G8 x0 3 x1.Value)) else bif (x1.Kind==8) then some (G8 x0 x1.Value x1.Unit) else bif (x1.Kind==9) then some (G8 x0 x1.Value x1.Unit) else some true
def Y8 (x0:Aa) (x1:Ab) (x2:Int):Option Bool:=
 (getI x0.Ad x2).bind λ y1=>(getI x1.Ae x2).bind λ y3=>(Az [(y3,false)] (F76 x1 2 x2) default).bind λ y5=>(Az [((y3 || y5),false)] (F76 x1 3 y1.A) default).bind λ y7=>bif ((y3 || y5) || y7) then some false else bif (y1.Kind==1) then (F76 x1 3 y1.B).bind λ y11=>some (!y11) else bif (y1.Kind==2) then (F76 x1 1 y1.B).bind λ y14=>(Az [(!y14,true)] (getI x1.Ac y1.B) default).bind λ y16=>some ((!y14)&&(y16.State==2)) else (F86 x0 x1 y1.B).bind λ y18=>(F76 x1 4 y1.B).bind λ y20=>some ((!y20)&&(!y18.2))
def L9 (x0:Aa) (x1:Ab) (x2:Int):Option (Int×Bool):=
 (H_ x0 x1 x2).bind λ y1=>bif ((y1.1.Ac.length:Int)==0) then some (0,false) else (getI y1.1.Ac 0).bind λ y4=>some (y4,true)
def Hr (x0:Int):Int:=
 bif decide ((Int.tmod x0 3600)<0) then w64 ((Int.tmod x0 3600)+3600) else Int.tmod x0 3600
def A40 (x0:Int) (x1:Int):Bool:=decide ((Hr (w64 ((Hr x1)-(Hr x0))))>1800)
def Aqi (x0:Int) (x1:Int):Int:=
 bif (A40 x0 x1) then w64 ((Hr (w64 ((Hr x1)-(Hr x0))))-3600) else Hr (w64 ((Hr x1)-(Hr x0)))
def A41 (x1:Ai) (x2:Ai):Bool:=((decide ((min x1.Au x2.Au)<0)) || (decide ((max x1.Au x2.Au)>6000)))
def Akf (x0:Aa) (x1:Ai) (x2:Ai):Bool:=
 bif (A41 x1 x2) then false else ((decide ((max (w64 (x1.Au-x2.Au)) (w64 (x2.Au-x1.Au)))<=x0.Au))&&(decide ((max (Aqi x1.Phase x2.Phase) (w64 (0-Aqi x1.Phase x2.Phase)))<=x0.Phase)))
def Y7 (x0:Aa) (x1:Ab) (x2:Ag):Option Bool:=
 (L9 x0 x1 x2.A).bind λ y1=>bif !y1.2 then some true else bif (x2.Kind==1) then (L9 x0 x1 x2.B).bind λ y5=>(Az [(!y5.2,false)] (getI x1.Ac y1.1) default).bind λ y7=>(Az [(!y5.2,false)] (getI x1.Ac y5.1) default).bind λ y9=>some ((!y5.2) || (Akf x0 y7 y9)) else bif (x2.Kind==2) then (getI x1.Ac y1.1).bind λ y12=>(getI x1.Ac x2.B).bind λ y14=>some (Akf x0 y12 y14) else some true
def Ah3 (x0:Aa) (x2:Int):Bool:=((decide (x2<0)) || (decide (x2>=(x0.Ad.length:Int))))
def Zb (x0:Aa) (x1:Ab) (x2:Int):Option Int:=
 (F44 x0 x1).bind λ y1=>bif (y1 != 0) then some y1 else bif (Ah3 x0 x2) then some 10 else (Y8 x0 x1 x2).bind λ y5=>bif !y5 then some 11 else (getI x0.Ad x2).bind λ y8=>(H_ x0 x1 y8.A).bind λ y10=>(Az [((y8.Kind==1),true)] (F59 y10.1.Am y8.B) default).bind λ y12=>(Az [(!((y8.Kind==1)&&y12),true)] (Y7 x0 x1 y8) default).bind λ y14=>bif ((!((y8.Kind==1)&&y12))&&(!y14)) then some 12 else some 0
def Vr (x0:Aa) (x1:Ab) (x2:Int):Option (Ab×Int):=
 (Zb x0 x1 x2).bind λ y1=>bif (y1 != 0) then some ((⟨([]:List Bool),([]:List Ai),([]:List Int),([]:List As)⟩:Ab),y1) else (F35 x1).bind λ y4=>(getI y4.Ae x2).bind λ y6=>(setI y4.Ae x2 true).bind λ y8=>(Aae x0 (⟨y8,y4.Ac,y4.Al,y4.Ah⟩:Ab)).bind λ y10=>some (y10.1,y10.2)
def Ah6 (x0:Aa) (x2:Int):Bool:=((decide (x2<0)) || (decide (x2>=(x0.Ad.length:Int))))
def Vq (x0:Aa) (x1:Ab) (x2:Int):Option (Ab×Int):=
 (F44 x0 x1).bind λ y1=>bif (y1 != 0) then some ((⟨([]:List Bool),([]:List Ai),([]:List Int),([]:List As)⟩:Ab),y1) else bif (Ah6 x0 x2) then some ((⟨([]:List Bool),([]:List Ai),([]:List Int),([]:List As)⟩:Ab),10) else (getI x1.Ae x2).bind λ y5=>(Az [(!y5,false)] (F76 x1 2 x2) default).bind λ y7=>bif ((!y5) || y7) then some ((⟨([]:List Bool),([]:List Ai),([]:List Int),([]:List As)⟩:Ab),11) else (F35 x1).bind λ y10=>(getI y10.Ae x2).bind λ y12=>(setI y10.Ae x2 false).bind λ y14=>some ((⟨y14,y10.Ac,y10.Al,y10.Ah⟩:Ab),0)
def Aqn (x0:Aa) (x1:Ab) (x2:Int):Option (Int×Bool):=
 (F44 x0 x1).bind λ y1=>bif (y1 != 0) then some (0,false) else (Y_ x0 x1 x2).bind λ y4=>some (y4.1,y4.2)
def Aup (x0:Aa) (x2:Int) (x3:Int):Bool:=((((decide (x2<0)) || (decide (x2>=(x0.Ac.length:Int)))) || (decide (x3<0))) || (decide (x3>=x0.Am)))
def Akn (x0:Aa) (x1:Ab) (x2:Int) (x3:Int):Option (Ab×Int):=
 (F44 x0 x1).bind λ y1=>bif (y1 != 0) then some ((⟨([]:List Bool),([]:List Ai),([]:List Int),([]:List As)⟩:Ab),y1) else bif (Aup x0 x2 x3) then some ((⟨([]:List Bool),([]:List Ai),([]:List Int),([]:List As)⟩:Ab),10) else (L9 x0 x1 x3).bind λ y5=>(Az [(!y5.2,false)] (getI x1.Ac x2) default).bind λ y7=>bif ((!y5.2) || (y7.State != 2)) then some ((⟨([]:List Bool),([]:List Ai),([]:List Int),([]:List As)⟩:Ab),11) else (F35 x1).bind λ y10=>(Aqn x0 x1 x2).bind λ y12=>bif y12.2 then (H_ x0 x1 y12.1).bind λ y15=>(getI x1.Ac y5.1).bind λ y17=>(Nu y10 y15.1.Ac y17).bind λ y19=>some ((⟨y10.Ae,y19,y10.Al,y10.Ah⟩:Ab),0) else (getI x1.Ac y5.1).bind λ y21=>(Nu y10 [x2] y21).bind λ y23=>some ((⟨y10.Ae,y23,y10.Al,y10.Ah⟩:Ab),0)
def Ka (x0:A0) (x1:Int):Option Bool:=
 (F56 x0.An x1).bind λ y1=>(getI x0.Ao.Ae y1).bind λ y3=>some (!y3)
def Ly (x0:A0) (x1:Int):Option (Int×A0):=
 (getI x0.Ao.Ac x1).bind λ y1=>(Az [((y1.State != 0),false)] (F76 x0.Ao 1 x1) default).bind λ y3=>bif ((y1.State != 0) || y3) then some (11,x0) else (getI x0.An.Ac x1).bind λ y6=>(Az [((y6.Start==0),true)] (Ka x0 x1) default).bind λ y8=>bif ((y6.Start==0)&&y8) then (setI x0.Ao.Ac x1 (⟨2,x0.time,5000,0⟩:Ai)).bind λ y11=>some (0,(⟨x0.An,(⟨x0.Ao.Ae,y11,x0.Ao.Al,x0.Ao.Ah⟩:Ab),x0.time⟩:A0)) else (setI x0.Ao.Ac x1 (⟨1,x0.time,5000,0⟩:Ai)).bind λ y13=>some (0,(⟨x0.An,(⟨x0.Ao.Ae,y13,x0.Ao.Al,x0.Ao.Ah⟩:Ab),x0.time⟩:A0))
def Ayr (y1:Ai) (y3:Bool):Bool:=(((y1.State != 1)&&(y1.State != 2)) || (!y3))
def Vp (x0:A0) (x1:Int):Option (Int×A0):=
 (getI x0.Ao.Ac x1).bind λ y1=>(Az [(((y1.State != 1)&&(y1.State != 2)),false)] (Ka x0 x1) default).bind λ y3=>bif (Ayr y1 y3) then some (11,x0) else (setI x0.Ao.Ac x1 (⟨0,y1.Since,y1.Au,y1.Phase⟩:Ai)).bind λ y6=>some (0,(⟨x0.An,(⟨x0.Ao.Ae,y6,x0.Ao.Al,x0.Ao.Ah⟩:Ab),x0.time⟩:A0))
def Ah5 (x2:Int) (y1:A3):Bool:=((decide (x2<0)) || (decide (x2>y1.Load)))
def Vo (x0:A0) (x1:Int) (x2:Int):Option (Int×A0):=
 (Az [(decide (x2<0),false)] (getI x0.An.Af x1) default).bind λ y1=>bif (Ah5 x2 y1) then some (1,x0) else (getI x0.Ao.Al x1).bind λ y4=>(setI x0.Ao.Al x1 x2).bind λ y6=>some (0,(⟨x0.An,(⟨x0.Ao.Ae,x0.Ao.Ac,y6,x0.Ao.Ah⟩:Ab),x0.time⟩:A0))
def Wz (n0:Nat) (a0:Ai) (z0:(List Ai)):Option (Ctl ((List Ai)) Unit):=
 bif (a0.State==2) then (getI z0 (cnt 0 n0)).bind λ y7=>(setI z0 (cnt 0 n0) (⟨y7.State,y7.Since,y7.Au,Hr (w64 (a0.Phase+(w64 (36*(w64 (a0.Au-5000))))))⟩:Ai)).bind λ y9=>some (.next y9) else some (.next z0)
def Za (x0:Aa) (x1:Ab):Option (Ab×Int):=
 (F44 x0 x1).bind λ y1=>bif (y1 != 0) then some ((⟨([]:List Bool),([]:List Ai),([]:List Int),([]:List As)⟩:Ab),y1) else (F35 x1).bind λ y4=>andThen (foldI Wz x1.Ac 0 y4.Ac) (λ _=>none) λ z0=>some ((⟨y4.Ae,z0,y4.Al,y4.Ah⟩:Ab),0)
def Yh (y1:Ab×Int) (z0:Int×(List Ai)):Bool:=decide (z0.1<(y1.1.Ac.length:Int))
def Nq (x0:A0) (y4:Ai) (y6:Bool) (y8:Bc):Bool:=(((y4.State==1)&&y6)&&(decide ((w64 (y4.Since+y8.Start))<=(w64 (x0.time+1)))))
def Oy (x0:A0) (y1:Ab×Int) (z0:Int×(List Ai)):Option (Ctl (Int×(List Ai)) Unit):=
 bif (Yh y1 z0) then (getI z0.2 z0.1).bind λ y4=>(Az [((y4.State==1),true)] (Ka (⟨x0.An,(⟨y1.1.Ae,z0.2,y1.1.Al,y1.1.Ah⟩:Ab),x0.time⟩:A0) z0.1) default).bind λ y6=>(Az [(((y4.State==1)&&y6),true)] (getI x0.An.Ac z0.1) default).bind λ y8=>bif (Nq x0 y4 y6 y8) then (setI z0.2 z0.1 (⟨2,y4.Since,y4.Au,y4.Phase⟩:Ai)).bind λ y11=>some (.next (w64 (z0.1+1),y11)) else some (.next (w64 (z0.1+1),z0.2)) else some (.brk (z0.1,z0.2))
def Kb (x0:A0):Option A0:=
 (Za x0.An x0.Ao).bind λ y1=>andThen (whileN (Oy x0 y1) 1152921504606846976 (0,y1.1.Ac)) (λ _=>none) λ z0=>some (⟨x0.An,(⟨y1.1.Ae,z0.2,y1.1.Al,y1.1.Ah⟩:Ab),x0.time⟩:A0)
def Sn (x0:As) (x1:As):Int:=
 bif (x0.Kind != x1.Kind) then w64 (x0.Kind-x1.Kind) else w64 (x0.Number-x1.Number)
def U8 (x0:List As) (x1:As) (z0:Int×Int):Option (Ctl (Int×Int) Unit):=
 bif decide (z0.1<z0.2) then (getI x0 (w64 (Hy .u64 (IntKind.wrap .u64 (w64 (z0.1+z0.2))) 1))).bind λ y2=>bif decide ((Sn y2 x1)<0) then some (.next (w64 ((w64 (Hy .u64 (IntKind.wrap .u64 (w64 (z0.1+z0.2))) 1))+1),z0.2)) else some (.next (z0.1,w64 (Hy .u64 (IntKind.wrap .u64 (w64 (z0.1+z0.2))) 1))) else some (.brk (z0.1,z0.2))
def U9 (x0:List As) (x1:As):Option (Int×Bool):=
 andThen (whileN (U8 x0 x1) 1152921504606846976 (0,(x0.length:Int))) (λ _=>none) λ z0=>(Az [(decide (z0.1<(x0.length:Int)),true)] (getI x0 z0.1) default).bind λ y5=>some (z0.1,((decide (z0.1<(x0.length:Int)))&&((Sn y5 x1)==0)))
def Qc (x0:List As) (x1:Int) (x2:List As):Option ((List As)):=
 (bndI x0.length x1 (x0.length:Int)).bind λ u2=>bif ((x2.length:Int)==0) then some x0 else bif (x1==(x0.length:Int)) then (appI 17 x0 x2).bind λ y5=>some y5 else insI 17 x0 x1 x2
def U7 (x0:List As) (x1:Int) (x2:Int):Option ((List As)):=
 (bnd3I x0.length x1 x2 (x0.length:Int)).bind λ u2=>bif (x1==x2) then some x0 else (bndI x0.length 0 x1).bind λ u5=>(bndI x0.length x2 (x0.length:Int)).bind λ u7=>(appPI x0 ((Int.toNat x1)-0) ((x0.drop (Int.toNat x2)).take ((Int.toNat (x0.length:Int))-(Int.toNat x2)))).bind λ y8=>(bndI (y8.length-0) (((((Int.toNat x1)-0)+((x0.drop (Int.toNat x2)).take ((Int.toNat (x0.length:Int))-(Int.toNat x2))).length):Nat):Int) (x0.length:Int)).bind λ u11=>some ((G5 y8 (0+(Int.toNat (((((Int.toNat x1)-0)+((x0.drop (Int.toNat x2)).take ((Int.toNat (x0.length:Int))-(Int.toNat x2))).length):Nat):Int))) ((Int.toNat (x0.length:Int))-(Int.toNat (((((Int.toNat x1)-0)+((x0.drop (Int.toNat x2)).take ((Int.toNat (x0.length:Int))-(Int.toNat x2))).length):Nat):Int))) (⟨0,0⟩:As)).take (((Int.toNat x1)-0)+((x0.drop (Int.toNat x2)).take ((Int.toNat (x0.length:Int))-(Int.toNat x2))).length))
def Rv (x0:A0) (x2:Bool):Bool:=(x2&&(decide ((x0.Ao.Ah.length:Int)>=32)))
def Ox (x0:A0) (x1:As) (x2:Bool) (y1:Int×Bool):Option (Ctl ((List As)) Unit):=
 bif x2 then (Qc x0.Ao.Ah y1.1 [x1]).bind λ y6=>some (.next y6) else (U7 x0.Ao.Ah y1.1 (w64 (y1.1+1))).bind λ y8=>some (.next y8)
def H9 (x0:A0) (x1:As) (x2:Bool):Option (Int×A0):=
 (U9 x0.Ao.Ah x1).bind λ y1=>bif (y1.2==x2) then some (11,x0) else bif (Rv x0 x2) then some (2,x0) else andThen (Ox x0 x1 x2 y1) (λ _=>none) λ z0=>bif (x1.Kind==1) then (getI x0.Ao.Ac x1.Number).bind λ y11=>(setI x0.Ao.Ac x1.Number (⟨0,y11.Since,y11.Au,y11.Phase⟩:Ai)).bind λ y13=>bif x2 then (getI y13 x1.Number).bind λ y16=>(setI y13 x1.Number (⟨3,y16.Since,y16.Au,y16.Phase⟩:Ai)).bind λ y18=>some (0,(⟨x0.An,(⟨x0.Ao.Ae,y18,x0.Ao.Al,z0⟩:Ab),x0.time⟩:A0)) else some (0,(⟨x0.An,(⟨x0.Ao.Ae,y13,x0.Ao.Al,z0⟩:Ab),x0.time⟩:A0)) else some (0,(⟨x0.An,(⟨x0.Ao.Ae,x0.Ao.Ac,x0.Ao.Al,z0⟩:Ab),x0.time⟩:A0))
def Oq (x0:A0) (x1:Ak):Option (Int×A0):=
 bif (x1.Kind==1) then (Vr x0.An x0.Ao x1.Unit).bind λ y2=>some (y2.2,(⟨x0.An,y2.1,x0.time⟩:A0)) else bif (x1.Kind==2) then (Vq x0.An x0.Ao x1.Unit).bind λ y5=>some (y5.2,(⟨x0.An,y5.1,x0.time⟩:A0)) else bif (x1.Kind==6) then (Akn x0.An x0.Ao x1.Unit x1.Value).bind λ y8=>some (y8.2,(⟨x0.An,y8.1,x0.time⟩:A0)) else bif (x1.Kind==3) then (Ly x0 x1.Unit).bind λ y11=>some (y11.1,y11.2) else bif (x1.Kind==4) then (Vp x0 x1.Unit).bind λ y14=>some (y14.1,y14.2) else bif (x1.Kind==5) then (Vo x0 x1.Unit x1.Value).bind λ y17=>some (y17.1,y17.2) else bif (x1.Kind==7) then (Kb x0).bind λ y20=>some (0,y20) else (H9 x0 (⟨x1.Value,x1.Unit⟩:As) (x1.Kind==8)).bind λ y22=>some (y22.1,y22.2)
def Ado (x2:Int) (x3:Ak):Bool:=((((decide (x2<0)) || (decide (x2>2147483648))) || (decide (x3.Kind<1))) || (decide (x3.Kind>9)))
def F27 (x0:Aa) (x1:Ab) (x2:Int) (x3:Ak):Option (Ab×Int):=
 (F44 x0 x1).bind λ y1=>bif (y1 != 0) then some ((⟨([]:List Bool),([]:List Ai),([]:List Int),([]:List As)⟩:Ab),y1) else bif (Ado x2 x3) then some ((⟨([]:List Bool),([]:List Ai),([]:List Int),([]:List As)⟩:Ab),1) else (F62 x0 x3).bind λ y5=>bif !y5 then some ((⟨([]:List Bool),([]:List Ai),([]:List Int),([]:List As)⟩:Ab),10) else (F35 x1).bind λ y8=>(Oq (⟨x0,y8,x2⟩:A0) x3).bind λ y10=>bif (y10.1 != 0) then some ((⟨([]:List Bool),([]:List Ai),([]:List Int),([]:List As)⟩:Ab),y10.1) else some (y10.2.Ao,0)
def Ako (x0:Aa) (n0:Nat) (a0:Ak) (z0:Sg1):Option (Ctl (Sg1) (Ab×Int×Int×Int)):=
 (F27 x0 (⟨z0.2.1,z0.2.2.1,z0.2.2.2.1,z0.2.2.2.2⟩:Ab) z0.1 a0).bind λ y6=>bif (y6.2 != 0) then some (.ret ((⟨z0.2.1,z0.2.2.1,z0.2.2.2.1,z0.2.2.2.2⟩:Ab),z0.1,cnt 0 n0,y6.2)) else bif (a0.Kind==7) then some (.next (w64 (z0.1+1),y6.1.Ae,y6.1.Ac,y6.1.Al,y6.1.Ah)) else some (.next (z0.1,y6.1.Ae,y6.1.Ac,y6.1.Al,y6.1.Ah))
def F10 (x0:Aa) (x1:Ab) (x2:Int) (x3:List Ak):Option (Ab×Int×Int×Int):=
 (F44 x0 x1).bind λ y1=>bif (y1 != 0) then some ((⟨([]:List Bool),([]:List Ai),([]:List Int),([]:List As)⟩:Ab),0,0,y1) else (F35 x1).bind λ y4=>andThen (foldI (Ako x0) x3 0 (x2,y4.Ae,y4.Ac,y4.Al,y4.Ah)) some λ z0=>some ((⟨z0.2.1,z0.2.2.1,z0.2.2.2.1,z0.2.2.2.2⟩:Ab),z0.1,(x3.length:Int),0)
def A6i (a0:Ak) (y2:Ak):Bool:=!((a0.Kind==y2.Kind)&&((a0.Unit==y2.Unit)&&((a0.Value==y2.Value)&&true)))
def Awq (x1:List Ak) (n0:Nat) (a0:Ak) (z0:Unit):Option (Ctl Unit Unit):=
 (getI x1 (cnt 0 n0)).bind λ y2=>bif (A6i a0 y2) then none else some (.next ())
def F43 (x0:List Ak) (x1:List Ak):Option Bool:=
 bif ((x0.length:Int) != (x1.length:Int)) then none else andThen (foldI (Awq x1) x0 0 ()) (λ _=>none) λ z0=>some true
def F9:Option Bool:=
 (F8 F42.1 F42.2).bind λ y1=>(F10 F42.1 F42.2 7 y1.1).bind λ y3=>(Az [((y1.2==0),true)] (F43 y1.1 [(⟨3,0,0⟩:Ak),(⟨7,0,0⟩:Ak),(⟨7,0,0⟩:Ak),(⟨7,0,0⟩:Ak),(⟨1,1,0⟩:Ak),(⟨1,0,0⟩:Ak)]) default).bind λ y5=>(Az [((((((y1.2==0)&&y5)&&(y3.2.2.2==0))&&(y3.2.1==10))&&(y3.2.2.1==6)),true)] (F24 F42.1 y3.1) default).bind λ y7=>(Az [(((((((y1.2==0)&&y5)&&(y3.2.2.2==0))&&(y3.2.1==10))&&(y3.2.2.1==6))&&y7),true)] (F24 F42.1 F42.2) default).bind λ y9=>some (((((((y1.2==0)&&y5)&&(y3.2.2.2==0))&&(y3.2.1==10))&&(y3.2.2.1==6))&&y7)&&(!y9))
def A4z (y3:Aa×Ab×Ap) (y10:Ab×Int×Int×Int) (y12:Int):Bool:=((((y10.2.2.2 != 0) || (y12 != 0)) || ((y10.1.Al.length:Int) != (y3.1.Af.length:Int))) || ((y10.1.Ae.length:Int) != (y3.1.Ad.length:Int)))
def Ayo (y3:Aa×Ab×Ap) (y18:Ak) (y20:Ag):Bool:=((((y18.Kind==1)&&(decide (y18.Unit>=0)))&&(decide (y18.Unit<(y3.1.Ad.length:Int))))&&(y20.Kind==3))
def Aqg (y3:Aa×Ab×Ap) (y15:(List Int)) (y18:Ak) (z1:Int):Option (Ctl Int Unit):=
 (getI y15 z1).bind λ y27=>(getI y3.1.Ad y18.Unit).bind λ y29=>bif (y27 != y29.B) then some (.next (w64 (z1+1))) else some (.brk z1)
def Aqh (y3:Aa×Ab×Ap) (y5:(List Ak)×Int) (y15:(List Int)) (z0:Int×Int):Option (Ctl (Int×Int) Bool):=
 bif decide (z0.2>=0) then (getI y5.1 z0.2).bind λ y18=>(Az [((((y18.Kind==1)&&(decide (y18.Unit>=0)))&&(decide (y18.Unit<(y3.1.Ad.length:Int)))),true)] (getI y3.1.Ad y18.Unit) default).bind λ y20=>bif (Ayo y3 y18 y20) then andThen (whileN (Aqg y3 y15 y18) 1152921504606846976 0) (λ _=>none) λ z1=>bif decide (z1<=z0.1) then some (.ret false) else some (.next (z1,w64 (z0.2-1))) else some (.next (z0.1,w64 (z0.2-1))) else some (.brk (z0.1,z0.2))
def A4y (y3:Aa×Ab×Ap) (z2:Int):Bool:=decide (z2<(y3.1.Af.length:Int))
def Aqe (y3:Aa×Ab×Ap) (y10:Ab×Int×Int×Int) (z2:Int) (n3:Nat) (a3:Int) (z3:Unit):Option (Ctl Unit Bool):=
 (getI y3.1.Ad a3).bind λ y46=>(F15 y10.1 2 a3).bind λ y48=>(Az [(y48,false)] (F15 y10.1 3 y46.A) default).bind λ y50=>(Az [((y48 || y50),false)] (F14 y3.1 y10.1 y46.A) default).bind λ y52=>bif ((y48 || y50) || (!y52)) then some (.next ()) else (F17 y3.1 y10.1 y46.A).bind λ y55=>(getI y10.1.Al z2).bind λ y57=>(F18 y3.1 y10.1 y46.A).bind λ y59=>bif decide ((w64 (y55+y57))<=y59) then some (.ret false) else some (.brk ())
def Aqf (y3:Aa×Ab×Ap) (y10:Ab×Int×Int×Int) (z2:Int):Option (Ctl Int Bool):=
 bif (A4y y3 z2) then (F13 y3.1 y3.2.1 z2).bind λ y34=>(F13 y3.1 y10.1 z2).bind λ y36=>(Az [(y34.2,true)] (F14 y3.1 y3.2.1 y34.1) default).bind λ y38=>bif ((y34.2&&y38)&&(!y36.2)) then some (.ret false) else (Az [(y36.2,false)] (F15 y10.1 4 z2) default).bind λ y41=>bif (y36.2 || y41) then some (.next (w64 (z2+1))) else (F16 y3.1 3 z2).bind λ y44=>andThen (foldI (Aqe y3 y10 z2) y44 0 ()) (λ v=>some (.ret v)) λ z3=>some (.next (w64 (z2+1))) else some (.brk z2)
def F3 (x0:List Int):Option Bool:=
 (F6 x0).bind λ y1=>(F7 y1).bind λ y3=>(F8 y3.1 y3.2.1).bind λ y5=>bif (y5.2 != 0) then (F9).bind λ y8=>some y8 else (F10 y3.1 y3.2.1 20 y5.1).bind λ y10=>(Az [((y10.2.2.2 != 0),false)] (F11 y3.1 y10.1) default).bind λ y12=>bif (A4z y3 y10 y12) then some false else (F12 y3.1).bind λ y15=>andThen (whileN (Aqh y3 y5 y15) 1152921504606846976 ((-1),w64 ((y5.1.length:Int)-1))) some λ z0=>andThen (whileN (Aqf y3 y10) 1152921504606846976 0) some λ z2=>(F9).bind λ y62=>some y62
end Go.Proofs.YtcigbocngfaopaaGreat
