import Derived.Test.YtcigbocngfaopaaGreatTy
set_option linter.unusedVariables false
namespace Go.Proofs.YtcigbocngfaopaaGreat
open Go.SL
abbrev Sg0:=(List Bool)×(List Int)×(List Ak)
abbrev Sg1:=Int×(List Bool)×(List Ag)×(List Int)×(List As)
abbrev Sg2:=Int×(List Int)×Int×(List Ah)
abbrev Sg3:=Int×(List Int)×Int×(List Ah)×(List A3)
abbrev Sg4:=Int×(List Int)×Int×(List Ah)×(List Be)
abbrev Sg5:=Int×(List Int)×Int×(List Ag)
abbrev Sg6:=Int×(List Ah)×(List Be)×(List A3)×Int×Int×(List Bool)×(List Ag)×(List Int)×(List As)×(List Bool)×(List Ak)
abbrev Sg7:=Int×(List Ah)×(List Be)×(List A3)×Int×Int×(List Bool)×(List Ag)×(List Int)×(List As)×(List Ak)
abbrev Sg8:=Int×(List Ah)×(List Be)×(List A3)×Int×Int×(List Int)×(List Bool)×(List Ag)×(List Int)×(List As)×(List Ak)
abbrev Sg9:=Int×(List Ag)×(List Ak)
abbrev Zf:=Int×Int×(List Int)×Int×(List Ah)×(List Be)×(List A3)×Int×Int
abbrev Il:=Int×Int×(List Ah)×(List Be)×(List A3)×Int×Int×(List Bool)×(List Ag)×(List Int)×(List As)×(List Bool)×(List Ak)
def F6 (x0:List Int):Option Au:=
 (cutI x0 0 (min (x0.length:Int) 600)).bind λ y2=>some (⟨y2,0⟩:Au)
def Alr (x0:Int) (x1:Int):Option Int:=
 bif decide (x1<1) then some 0 else (nzI x1).bind λ u3=>(nzI x1).bind λ u5=>some (Int.tmod (w64 ((Int.tmod x0 x1)+x1)) x1)
def F60 (x0:Au) (x1:Int):Option (Int×Au):=
 bif decide (x0.At>=(x0.L.length:Int)) then some (0,x0) else (getI x0.L (w64 ((w64 (x0.At+1))-1))).bind λ y2=>(Alr y2 x1).bind λ y4=>some (y4,(⟨x0.L,w64 (x0.At+1)⟩:Au))
def F64 (x0:Au) (x1:Int) (x2:Int):Option (Int×Au):=
 (F60 x0 (w64 ((w64 (x2-x1))+1))).bind λ y1=>some (w64 (x1+y1.1),y1.2)
def F65 (x0:Au) (x1:List Int):Option (Int×Au):=
 (F60 x0 (x1.length:Int)).bind λ y1=>(getI x1 y1.1).bind λ y3=>some (y3,y1.2)
def vX (y1:Int×Au) (z0:Sg2):Option (Ctl (Sg2) Unit):=
 bif decide (z0.1<y1.1) then (F60 (⟨z0.2.1,z0.2.2.1⟩:Au) 6).bind λ y8=>bif decide (y8.1<5) then (F60 y8.2 z0.1).bind λ y11=>(appI 25 z0.2.2.2 [(⟨1,y11.1,z0.1⟩:Ah)]).bind λ y13=>some (.next (w64 (z0.1+1),y11.2.L,y11.2.At,y13)) else some (.next (w64 (z0.1+1),y8.2.L,y8.2.At,z0.2.2.2)) else some (.brk (z0.1,z0.2.1,z0.2.2.1,z0.2.2.2))
def Ak6 (y1:Int×Au) (z0:Sg2) (y15:Int×Au):Option (Ctl ((List Ah)) Unit):=
 bif ((decide (y1.1>2))&&(y15.1==1)) then (appI 25 z0.2.2.2 [(⟨1,0,w64 (y1.1-1)⟩:Ah)]).bind λ y18=>some (.next y18) else some (.next z0.2.2.2)
def vW (y1:Int×Au) (z2:Sg4):Option (Ctl (Sg4) Unit):=
 bif decide (z2.1>0) then (F60 (⟨z2.2.1,z2.2.2.1⟩:Au) y1.1).bind λ y23=>(appI 25 z2.2.2.2.1 [(⟨2,y23.1,(z2.2.2.2.2.length:Int)⟩:Ah)]).bind λ y25=>(F65 y23.2 [10,50,100]).bind λ y27=>(F65 y27.2 [0,5,y27.1]).bind λ y29=>(F65 y29.2 [0,1,3]).bind λ y31=>(appI 25 z2.2.2.2.2 [(⟨y27.1,y29.1,y31.1⟩:Be)]).bind λ y33=>some (.next (w64 (z2.1-1),y31.2.L,y31.2.At,y25,y33)) else some (.brk (z2.1,z2.2.1,z2.2.2.1,z2.2.2.2.1,z2.2.2.2.2))
def Ak5 (y1:Int×Au) (z3:Sg3) (y38:Int×Au) (y40:List Ah) (y42:Int×Au):Option (Ctl ((List Ah)) Unit):=
 bif ((decide (y1.1>1))&&(y42.1==3)) then (nzI y1.1).bind λ u46=>(appI 25 y40 [(⟨3,Int.tmod (w64 (y38.1+1)) y1.1,(z3.2.2.2.2.length:Int)⟩:Ah)]).bind λ y47=>some (.next y47) else some (.next y40)
def A1u (z3:Sg3) (y57:Int×Au):Bool:=((decide ((z3.2.2.2.2.length:Int)>0))&&(y57.1==3))
def vV (y1:Int×Au) (z3:Sg3):Option (Ctl (Sg3) Unit):=
 bif decide (z3.1>0) then (F60 (⟨z3.2.1,z3.2.2.1⟩:Au) y1.1).bind λ y38=>(appI 25 z3.2.2.2.1 [(⟨3,y38.1,(z3.2.2.2.2.length:Int)⟩:Ah)]).bind λ y40=>(Az [(decide (y1.1>1),true)] (F60 y38.2 4) (default,y38.2)).bind λ y42=>andThen (Ak5 y1 z3 y38 y40 y42) (λ _=>none) λ z4=>(F65 y42.2 [0,5,20,40]).bind λ y49=>(F65 y49.2 [0,w64 (Int.tdiv y49.1 2),y49.1]).bind λ y51=>(F60 y51.2 3).bind λ y53=>(F64 y53.2 (-1) 2).bind λ y55=>(Az [(decide ((z3.2.2.2.2.length:Int)>0),true)] (F60 y55.2 4) (default,y55.2)).bind λ y57=>bif (A1u z3 y57) then (F60 y57.2 (z3.2.2.2.2.length:Int)).bind λ y60=>(appI 57 z3.2.2.2.2 [(⟨y49.1,y51.1,y53.1,y55.1,[y60.1]⟩:A3)]).bind λ y62=>some (.next (w64 (z3.1-1),y60.2.L,y60.2.At,z4,y62)) else (appI 57 z3.2.2.2.2 [(⟨y49.1,y51.1,y53.1,y55.1,([]:List Int)⟩:A3)]).bind λ y64=>some (.next (w64 (z3.1-1),y57.2.L,y57.2.At,z4,y64)) else some (.brk (z3.1,z3.2.1,z3.2.2.1,z3.2.2.2.1,z3.2.2.2.2))
def F28 (x0:Au):Option (Aa×Au):=
 (F64 x0 1 4).bind λ y1=>(F65 y1.2 [0,50,200,1800]).bind λ y3=>(F65 y3.2 [0,10,50]).bind λ y5=>andThen (whileN (vX y1) 1152921504606846976 (1,y5.2.L,y5.2.At,([]:List Ah))) (λ _=>none) λ z0=>(Az [(decide (y1.1>2),true)] (F60 (⟨z0.2.1,z0.2.2.1⟩:Au) 2) (default,(⟨z0.2.1,z0.2.2.1⟩:Au))).bind λ y15=>andThen (Ak6 y1 z0 y15) (λ _=>none) λ z1=>(F60 y15.2 5).bind λ y20=>andThen (whileN (vW y1) 1152921504606846976 (y20.1,y20.2.L,y20.2.At,z1,([]:List Be))) (λ _=>none) λ z2=>(F60 (⟨z2.2.1,z2.2.2.1⟩:Au) 6).bind λ y35=>andThen (whileN (vV y1) 1152921504606846976 (y35.1,y35.2.L,y35.2.At,z2.2.2.2.1,([]:List A3))) (λ _=>none) λ z3=>some ((⟨y1.1,z3.2.2.2.1,z2.2.2.2.2,z3.2.2.2.2,y3.1,y5.1⟩:Aa),(⟨z3.2.1,z3.2.2.1⟩:Au))
def F46 (x0:Int) (x1:Int) (x2:Int):Bool:=
 ((decide (x0>=x1))&&(decide (x0<=x2)))
def F47 (x0:Aa) (x1:As):Bool:=
 bif (x1.Kind==1) then F46 x1.Number 0 (w64 ((x0.Ac.length:Int)-1)) else bif (x1.Kind==2) then F46 x1.Number 0 (w64 ((x0.Ad.length:Int)-1)) else bif (x1.Kind==3) then F46 x1.Number 0 (w64 (x0.Al-1)) else bif (x1.Kind==4) then F46 x1.Number 0 (w64 ((x0.Af.length:Int)-1)) else false
def Anq (x1:Aa) (z0:Int×(List Int)×Int×(List Bool)):Bool:=decide (z0.1<(x1.Ad.length:Int))
def To (x1:Aa) (z0:Int×(List Int)×Int×(List Bool)):Option (Ctl (Int×(List Int)×Int×(List Bool)) Unit):=
 bif (Anq x1 z0) then (F60 (⟨z0.2.1,z0.2.2.1⟩:Au) 2).bind λ y2=>(appI 2 z0.2.2.2 [(y2.1==1)]).bind λ y4=>some (.next (w64 (z0.1+1),y2.2.L,y2.2.At,y4)) else some (.brk (z0.1,z0.2.1,z0.2.2.1,z0.2.2.2))
def Anp (x1:Aa) (z1:Int×(List Bool)):Bool:=decide (z1.1<(x1.Af.length:Int))
def Ai1 (z1:Int×(List Bool)) (a2:Ah) (y7:Bool):Bool:=(((a2.Kind==3)&&(a2.B==z1.1))&&y7)
def Tm (z1:Int×(List Bool)) (n2:Nat) (a2:Ah) (z2:Bool×(List Bool)):Option (Ctl (Bool×(List Bool)) Unit):=
 (Az [(((a2.Kind==3)&&(a2.B==z1.1)),true)] (getI z2.2 (cnt 0 n2)) default).bind λ y7=>bif (Ai1 z1 a2 y7) then (getI z2.2 (cnt 0 n2)).bind λ y10=>(setI z2.2 (cnt 0 n2) z2.1).bind λ y12=>some (.next (false,y12)) else some (.next (z2.1,z2.2))
def Tn (x1:Aa) (z1:Int×(List Bool)):Option (Ctl (Int×(List Bool)) Unit):=
 bif (Anp x1 z1) then andThen (foldI (Tm z1) x1.Ad 0 (true,z1.2)) (λ _=>none) λ z2=>some (.next (w64 (z1.1+1),z2.2)) else some (.brk (z1.1,z1.2))
def Ai0 (x1:Aa) (z3:Sg5):Bool:=decide (z3.1<(x1.Ac.length:Int))
def Tl (x1:Aa) (z3:Sg5):Option (Ctl (Sg5) Unit):=
 bif (Ai0 x1 z3) then (F65 (⟨z3.2.1,z3.2.2.1⟩:Au) [0,1,2,2,2,3]).bind λ y15=>(F60 y15.2 5).bind λ y17=>(F65 y17.2 [5000,5000,5005,4950]).bind λ y19=>(F65 y19.2 [0,0,40,1800,3590]).bind λ y21=>(appI 33 z3.2.2.2 [(⟨y15.1,y17.1,y19.1,y21.1⟩:Ag)]).bind λ y23=>some (.next (w64 (z3.1+1),y21.2.L,y21.2.At,y23)) else some (.brk (z3.1,z3.2.1,z3.2.2.1,z3.2.2.2))
def Tk (n4:Nat) (a4:A3) (z4:(List Int)×Int×(List Int)):Option (Ctl ((List Int)×Int×(List Int)) Unit):=
 (F65 (⟨z4.1,z4.2.1⟩:Au) [a4.Load,a4.Load,a4.Least,w64 (Int.tdiv a4.Load 3)]).bind λ y25=>(appI 9 z4.2.2 [y25.1]).bind λ y27=>some (.next (y25.2.L,y25.2.At,y27))
def Tj (x1:Aa) (z5:Int×(List Int)×Int×(List As)):Option (Ctl (Int×(List Int)×Int×(List As)) Unit):=
 bif decide (z5.1<=4) then (F60 (⟨z5.2.1,z5.2.2.1⟩:Au) 5).bind λ y30=>bif (y30.1==4) then (F60 y30.2 4).bind λ y33=>bif F47 x1 (⟨z5.1,y33.1⟩:As) then (appI 17 z5.2.2.2 [(⟨z5.1,y33.1⟩:As)]).bind λ y36=>some (.next (w64 (z5.1+1),y33.2.L,y33.2.At,y36)) else some (.next (w64 (z5.1+1),y33.2.L,y33.2.At,z5.2.2.2)) else some (.next (w64 (z5.1+1),y30.2.L,y30.2.At,z5.2.2.2)) else some (.brk (z5.1,z5.2.1,z5.2.2.1,z5.2.2.2))
def vU (x0:Au) (x1:Aa):Option (Ab×Au):=
 andThen (whileN (To x1) 1152921504606846976 (0,x0.L,x0.At,([]:List Bool))) (λ _=>none) λ z0=>andThen (whileN (Tn x1) 1152921504606846976 (0,z0.2.2.2)) (λ _=>none) λ z1=>andThen (whileN (Tl x1) 1152921504606846976 (0,z0.2.1,z0.2.2.1,([]:List Ag))) (λ _=>none) λ z3=>andThen (foldI Tk x1.Af 0 (z3.2.1,z3.2.2.1,([]:List Int))) (λ _=>none) λ z4=>andThen (whileN (Tj x1) 7 (1,z4.1,z4.2.1,([]:List As))) (λ _=>none) λ z5=>some ((⟨z1.2,z3.2.2.2,z4.2.2,z5.2.2.2⟩:Ab),(⟨z5.2.1,z5.2.2.1⟩:Au))
def Kk (x1:Int) (x2:Int) (a0:Ah):Bool:=((a0.Kind==x1)&&((a0.B==x2) || ((x1==1)&&(a0.A==x2))))
def Ak2 (x1:Int) (x2:Int) (n0:Nat) (a0:Ah) (z0:(List Int)):Option (Ctl ((List Int)) Unit):=
 bif (Kk x1 x2 a0) then (appI 9 z0 [cnt 0 n0]).bind λ y2=>some (.next y2) else some (.next z0)
def F49 (x0:Aa) (x1:Int) (x2:Int):Option ((List Int)):=
 andThen (foldI (Ak2 x1 x2) x0.Ad 0 ([]:List Int)) (λ _=>none) λ z0=>some z0
def A1h (x0:Aa) (a0:Ah):Bool:=!(F46 a0.B (w64 (a0.A+1)) (w64 (x0.Al-1)))
def A1g (x0:Aa) (a0:Ah):Bool:=!(F46 a0.B 0 (w64 ((x0.Ac.length:Int)-1)))
def A1f (x0:Aa) (a0:Ah):Bool:=!(F46 a0.B 0 (w64 ((x0.Af.length:Int)-1)))
def Ap0 (a0:Ah) (a1:Ah):Bool:=((a1.Kind==a0.Kind)&&((a1.A==a0.A)&&((a1.B==a0.B)&&true)))
def vH (a0:Ah) (n1:Nat) (a1:Ah) (z1:Unit):Option (Ctl Unit Bool):=
 bif (Ap0 a0 a1) then some (.ret false) else some (.next ())
def Akj (x0:Aa) (n0:Nat) (a0:Ah) (z0:Unit):Option (Ctl Unit Bool):=
 bif !(F46 a0.A 0 (w64 (x0.Al-1))) then some (.ret false) else bif (a0.Kind==1) then bif (A1h x0 a0) then some (.ret false) else some (.next ()) else bif (a0.Kind==2) then bif (A1g x0 a0) then some (.ret false) else some (.next ()) else bif (a0.Kind==3) then bif (A1f x0 a0) then some (.ret false) else (cutI x0.Ad 0 (cnt 0 n0)).bind λ y9=>andThen (foldI (vH a0) y9 0 ()) (λ v=>some (.ret v)) λ z1=>some (.next ()) else some (.ret false)
def Avt (x0:Aa) (z2:Int):Bool:=decide (z2<(x0.Ac.length:Int))
def Aki (x0:Aa) (z2:Int):Option (Ctl Int Bool):=
 bif (Avt x0 z2) then (F49 x0 2 z2).bind λ y12=>bif ((y12.length:Int) != 1) then some (.ret false) else some (.next (w64 (z2+1))) else some (.brk z2)
def Avs (x0:Aa) (z3:Int):Bool:=decide (z3<(x0.Af.length:Int))
def Akh (x0:Aa) (z3:Int):Option (Ctl Int Bool):=
 bif (Avs x0 z3) then (F49 x0 3 z3).bind λ y16=>bif decide ((y16.length:Int)<1) then some (.ret false) else some (.next (w64 (z3+1))) else some (.brk z3)
def F95 (x0:Aa):Option Bool:=
 andThen (foldI (Akj x0) x0.Ad 0 ()) some λ z0=>andThen (whileN (Aki x0) 1152921504606846976 0) some λ z2=>andThen (whileN (Akh x0) 1152921504606846976 0) some λ z3=>some true
def A1e (a0:Be):Bool:=(((!(F46 a0.Rating 1 50000)) || (!(F46 a0.Least 0 a0.Rating))) || (!(F46 a0.Start 0 600)))
def Akg (n0:Nat) (a0:Be) (z0:Unit):Option (Ctl Unit Bool):=
 bif (A1e a0) then some (.ret false) else some (.next ())
def F96 (x0:Aa):Option Bool:=
 andThen (foldI Akg x0.Ac 0 ()) some λ z0=>some true
def A1d (a0:A3):Bool:=(((((!(F46 a0.Load 0 50000)) || (!(F46 a0.Least 0 a0.Load))) || (!(F46 a0.Bl 0 15))) || (!(F46 a0.Thruster (-1) 7))) || (decide ((a0.Needs.length:Int)>4)))
def A1c (n0:Nat) (n1:Nat) (a1:Int) (y2:Int):Bool:=((!(F46 a1 0 (w64 ((cnt 0 n0)-1)))) || ((decide ((cnt 0 n1)>0))&&(decide (y2>=a1))))
def Ake (n0:Nat) (a0:A3) (n1:Nat) (a1:Int) (z1:Unit):Option (Ctl Unit Bool):=
 (Az [(!(F46 a1 0 (w64 ((cnt 0 n0)-1))),false),(decide ((cnt 0 n1)>0),true)] (getI a0.Needs (w64 ((cnt 0 n1)-1))) default).bind λ y2=>bif (A1c n0 n1 a1 y2) then some (.ret false) else some (.next ())
def Akf (n0:Nat) (a0:A3) (z0:Unit):Option (Ctl Unit Bool):=
 bif (A1d a0) then some (.ret false) else andThen (foldI (Ake n0 a0) a0.Needs 0 ()) (λ v=>some (.ret v)) λ z1=>some (.next ())
def F97 (x0:Aa):Option Bool:=
 andThen (foldI Akf x0.Af 0 ()) some λ z0=>some true
def Ap2 (x0:Aa):Bool:=(((((decide (x0.Al<1)) || (decide (x0.Al>6))) || (decide ((x0.Ad.length:Int)>24))) || (decide ((x0.Ac.length:Int)>8))) || (decide ((x0.Af.length:Int)>16)))
def Ap1 (x0:Aa) (y2:Bool) (y4:Bool) (y6:Bool):Bool:=(((((((!y2) || (!y4)) || (!y6)) || (decide (x0.Phase<0))) || (decide (x0.Phase>1800))) || (decide (x0.Ar<0))) || (decide (x0.Ar>6000)))
def F45 (x0:Aa):Option Int:=
 bif (Ap2 x0) then some 2 else (F95 x0).bind λ y2=>(Az [(!y2,false)] (F96 x0) default).bind λ y4=>(Az [(((!y2) || (!y4)),false)] (F97 x0) default).bind λ y6=>bif (Ap1 x0 y2 y4 y6) then some 14 else some 0
def F48 (x0:As) (x1:As):Bool:=
 ((decide (x0.Kind<x1.Kind)) || ((x0.Kind==x1.Kind)&&(decide (x0.Number<x1.Number))))
def A12 (x0:Aa) (x1:Ab):Bool:=((((x1.Ae.length:Int) != (x0.Ad.length:Int)) || ((x1.Ac.length:Int) != (x0.Ac.length:Int))) || ((x1.Am.length:Int) != (x0.Af.length:Int)))
def A11 (a0:Ag):Bool:=((((!(F46 a0.State 0 3)) || (!(F46 a0.Since 0 2147483648))) || (!(F46 a0.Ar 0 6000))) || (!(F46 a0.Phase 0 3599)))
def Alo (n0:Nat) (a0:Ag) (z0:Unit):Option (Ctl Unit Int):=
 bif (A11 a0) then some (.ret 11) else some (.next ())
def Aln (x0:Aa) (n1:Nat) (a1:Int) (z1:Unit):Option (Ctl Unit Int):=
 (getI x0.Af (cnt 0 n1)).bind λ y6=>bif !(F46 a1 0 y6.Load) then some (.ret 11) else some (.next ())
def A10 (x0:Aa) (n2:Nat) (a2:As) (y10:As):Bool:=((!(F47 x0 a2)) || ((decide ((cnt 0 n2)>0))&&(!(F48 y10 a2))))
def Alm (x0:Aa) (x1:Ab) (n2:Nat) (a2:As) (z2:Unit):Option (Ctl Unit Int):=
 (Az [(!(F47 x0 a2),false),(decide ((cnt 0 n2)>0),true)] (getI x1.Ai (w64 ((cnt 0 n2)-1))) default).bind λ y10=>bif (A10 x0 n2 a2 y10) then some (.ret 11) else some (.next ())
def A1z (x0:Aa) (z3:Int):Bool:=decide (z3<(x0.Af.length:Int))
def Alk (x1:Ab) (n4:Nat) (a4:Int) (z4:Int):Option (Ctl Int Unit):=
 (getI x1.Ae a4).bind λ y16=>bif y16 then some (.next (w64 (z4+1))) else some (.next z4)
def All (x0:Aa) (x1:Ab) (z3:Int):Option (Ctl Int Int):=
 bif (A1z x0 z3) then (F49 x0 3 z3).bind λ y14=>andThen (foldI (Alk x1) y14 0 0) (λ _=>none) λ z4=>bif decide (z4>1) then some (.ret 11) else some (.next (w64 (z3+1))) else some (.brk z3)
def F11 (x0:Aa) (x1:Ab):Option Int:=
 (F45 x0).bind λ y1=>bif (y1 != 0) then some y1 else bif (A12 x0 x1) then some 8 else andThen (foldI Alo x1.Ac 0 ()) some λ z0=>andThen (foldI (Aln x0) x1.Am 0 ()) some λ z1=>bif decide ((x1.Ai.length:Int)>32) then some 11 else andThen (foldI (Alm x0 x1) x1.Ai 0 ()) some λ z2=>andThen (whileN (All x0 x1) 1152921504606846976 0) some λ z3=>some 0
def Z7 (x0:Ab):Option Ab:=
 (appI 2 ([]:List Bool) x0.Ae).bind λ y1=>(appI 33 ([]:List Ag) x0.Ac).bind λ y3=>(appI 9 ([]:List Int) x0.Am).bind λ y5=>(appI 17 ([]:List As) x0.Ai).bind λ y7=>some (⟨y1,y3,y5,y7⟩:Ab)
def A1x (x1:Int) (x2:Int) (a0:As):Bool:=((a0.Kind==x1)&&(a0.Number==x2))
def yC (x1:Int) (x2:Int) (n0:Nat) (a0:As) (z0:Unit):Option (Ctl Unit Bool):=
 bif (A1x x1 x2 a0) then some (.ret true) else some (.next ())
def F15 (x0:Ab) (x1:Int) (x2:Int):Option Bool:=
 andThen (foldI (yC x1 x2) x0.Ai 0 ()) some λ z0=>some false
def Alp (x0:Aa) (x1:Ab) (x2:Int):Option Bool:=
 (getI x0.Ad x2).bind λ y1=>(F15 x1 3 y1.A).bind λ y3=>bif y3 then some true else bif (y1.Kind==1) then (F15 x1 3 y1.B).bind λ y7=>some y7 else bif (y1.Kind==2) then (F15 x1 1 y1.B).bind λ y10=>(Az [(y10,false)] (getI x1.Ac y1.B) default).bind λ y12=>some (y10 || (y12.State != 2)) else (F15 x1 4 y1.B).bind λ y14=>some y14
def uQ (a1:Ah) (y7:Bool) (y9:Bool) (y11:Bool):Bool:=(((a1.Kind==1)&&y7)&&(y9 || y11))
def Akc (x1:Ab) (n1:Nat) (a1:Ah) (z1:(List Bool)):Option (Ctl ((List Bool)) Unit):=
 (Az [((a1.Kind==1),true)] (getI x1.Ae (cnt 0 n1)) default).bind λ y7=>(Az [(((a1.Kind==1)&&y7),true)] (getI z1 a1.A) default).bind λ y9=>(Az [(((a1.Kind==1)&&y7),true),(y9,false)] (getI z1 a1.B) default).bind λ y11=>bif (uQ a1 y7 y9 y11) then (getI z1 a1.A).bind λ y14=>(setI z1 a1.A true).bind λ y16=>(getI y16 a1.B).bind λ y18=>(setI y16 a1.B true).bind λ y20=>some (.next y20) else some (.next z1)
def Akd (x0:Aa) (x1:Ab) (n0:Nat) (a0:Bool) (z0:(List Bool)):Option (Ctl ((List Bool)) Unit):=
 andThen (foldI (Akc x1) x0.Ad 0 z0) (λ _=>none) λ z1=>some (.next z1)
def Akb (n2:Nat) (a2:Bool) (z2:(List Int)):Option (Ctl ((List Int)) Unit):=
 bif a2 then (appI 9 z2 [cnt 0 n2]).bind λ y23=>some (.next y23) else some (.next z2)
def F98 (x0:Aa) (x1:Ab) (x2:Int):Option ((List Int)):=
 (mkI 2 x0.Al false).bind λ y1=>(getI y1 x2).bind λ y3=>(setI y1 x2 true).bind λ y5=>andThen (foldI (Akd x0 x1) y5 0 y5) (λ _=>none) λ z0=>andThen (foldI Akb z0 0 ([]:List Int)) (λ _=>none) λ z2=>some z2
def Aei (x0:Aa) (x2:Int) (y1:Int) (y3:Ag):Bool:=((((y1 != 0) || (decide (x2<0))) || (decide (x2>=(x0.Ac.length:Int)))) || (y3.State != 2))
def F52 (x0:Aa) (x1:Ab) (x2:Int):Option (Int×Bool):=
 (F11 x0 x1).bind λ y1=>(Az [((((y1 != 0) || (decide (x2<0))) || (decide (x2>=(x0.Ac.length:Int)))),false)] (getI x1.Ac x2) default).bind λ y3=>bif (Aei x0 x2 y1 y3) then some (0,false) else (F49 x0 2 x2).bind λ y6=>(getI y6 0).bind λ y8=>(getI x1.Ae y8).bind λ y10=>bif !y10 then some (0,false) else (getI x0.Ad y8).bind λ y13=>some (y13.A,true)
def vP (x1:Int) (n0:Nat) (a0:Int) (z0:Unit):Option (Ctl Unit Bool):=
 bif (a0==x1) then some (.ret true) else some (.next ())
def F53 (x0:List Int) (x1:Int):Option Bool:=
 andThen (foldI (vP x1) x0 0 ()) some λ z0=>some false
def A1y (x0:Aa) (x2:Int) (y1:Int):Bool:=(((y1 != 0) || (decide (x2<0))) || (decide (x2>=(x0.Af.length:Int))))
def yE (x0:Aa) (x1:Ab) (n0:Nat) (a0:Int) (z0:Unit):Option (Ctl Unit (Int×Bool)):=
 (getI x1.Ae a0).bind λ y6=>bif y6 then (getI x0.Ad a0).bind λ y9=>some (.ret (y9.A,true)) else some (.next ())
def F13 (x0:Aa) (x1:Ab) (x2:Int):Option (Int×Bool):=
 (F11 x0 x1).bind λ y1=>bif (A1y x0 x2 y1) then some (0,false) else (F49 x0 3 x2).bind λ y4=>andThen (foldI (yE x0 x1) y4 0 ()) some λ z0=>some (0,false)
def A1t (x0:Aa) (x2:Int) (y1:Int):Bool:=(((y1 != 0) || (decide (x2<0))) || (decide (x2>=x0.Al)))
def A1s (x0:Aa) (z0:Int×(List Int)):Bool:=decide (z0.1<(x0.Ac.length:Int))
def Ak1 (x0:Aa) (x1:Ab) (y4:(List Int)) (z0:Int×(List Int)):Option (Ctl (Int×(List Int)) Unit):=
 bif (A1s x0 z0) then (F52 x0 x1 z0.1).bind λ y7=>(Az [(y7.2,true)] (F53 y4 y7.1) default).bind λ y9=>bif (y7.2&&y9) then (appI 9 z0.2 [z0.1]).bind λ y12=>some (.next (w64 (z0.1+1),y12)) else some (.next (w64 (z0.1+1),z0.2)) else some (.brk (z0.1,z0.2))
def A1r (x0:Aa) (z1:Int×(List Int)):Bool:=decide (z1.1<(x0.Af.length:Int))
def Ak0 (x0:Aa) (x1:Ab) (y4:(List Int)) (z1:Int×(List Int)):Option (Ctl (Int×(List Int)) Unit):=
 bif (A1r x0 z1) then (F13 x0 x1 z1.1).bind λ y15=>(Az [(y15.2,true)] (F53 y4 y15.1) default).bind λ y17=>bif (y15.2&&y17) then (appI 9 z1.2 [z1.1]).bind λ y20=>some (.next (w64 (z1.1+1),y20)) else some (.next (w64 (z1.1+1),z1.2)) else some (.brk (z1.1,z1.2))
def F50 (x0:Aa) (x1:Ab) (x2:Int):Option (Aj×Bool):=
 (F11 x0 x1).bind λ y1=>bif (A1t x0 x2 y1) then some ((⟨([]:List Int),([]:List Int),([]:List Int)⟩:Aj),false) else (F98 x0 x1 x2).bind λ y4=>andThen (whileN (Ak1 x0 x1 y4) 1152921504606846976 (0,([]:List Int))) (λ _=>none) λ z0=>andThen (whileN (Ak0 x0 x1 y4) 1152921504606846976 (0,([]:List Int))) (λ _=>none) λ z1=>some ((⟨y4,z0.2,z1.2⟩:Aj),true)
def F14 (x0:Aa) (x1:Ab) (x2:Int):Option Bool:=
 (F50 x0 x1 x2).bind λ y1=>some (y1.2&&(decide ((y1.1.Ac.length:Int)>0)))
def Alb (x0:Aa) (x1:Ab) (z0:Int×(List Aj)):Option (Ctl (Int×(List Aj)) Unit):=
 bif decide (z0.1<x0.Al) then (F50 x0 x1 z0.1).bind λ y5=>(getI y5.1.Al 0).bind λ y7=>bif (y7==z0.1) then (appI 73 z0.2 [y5.1]).bind λ y10=>some (.next (w64 (z0.1+1),y10)) else some (.next (w64 (z0.1+1),z0.2)) else some (.brk (z0.1,z0.2))
def F21 (x0:Aa) (x1:Ab):Option ((List Aj)):=
 (F11 x0 x1).bind λ y1=>bif (y1 != 0) then some ([]:List Aj) else andThen (whileN (Alb x0 x1) 1152921504606846976 (0,([]:List Aj))) (λ _=>none) λ z0=>some z0.2
def Aa0 (x1:Ab) (a0:Aj) (n1:Nat) (a1:Int) (z1:(List Ag)):Option (Ctl ((List Ag)) Unit):=
 (getI a0.Ac 0).bind λ y5=>(getI x1.Ac y5).bind λ y7=>(getI a0.Ac 0).bind λ y9=>(getI x1.Ac y9).bind λ y11=>(getI z1 a1).bind λ y13=>(setI z1 a1 (⟨y13.State,y13.Since,y7.Ar,y13.Phase⟩:Ag)).bind λ y15=>(getI y15 a1).bind λ y17=>(setI y15 a1 (⟨y17.State,y17.Since,y17.Ar,y11.Phase⟩:Ag)).bind λ y19=>some (.next y19)
def Aa1 (x1:Ab) (n0:Nat) (a0:Aj) (z0:(List Ag)):Option (Ctl ((List Ag)) Unit):=
 andThen (foldI (Aa0 x1 a0) a0.Ac 0 z0) (λ _=>none) λ z1=>some (.next z1)
def Aro (x0:Aa) (x1:Ab):Option Ab:=
 (Z7 x1).bind λ y1=>(F21 x0 x1).bind λ y3=>andThen (foldI (Aa1 x1) y3 0 y1.Ac) (λ _=>none) λ z0=>some (⟨y1.Ae,z0,y1.Am,y1.Ai⟩:Ab)
def Aa8 (x0:Aa) (x1:Ab):Option (Ab×Int):=
 (F11 x0 x1).bind λ y1=>bif (y1 != 0) then some ((⟨([]:List Bool),([]:List Ag),([]:List Int),([]:List As)⟩:Ab),y1) else (Aro x0 x1).bind λ y4=>some (y4,0)
def A1p (x0:Aa) (z0:Int×(List Bool)×(List Ak)):Bool:=decide (z0.1<(x0.Ad.length:Int))
def Akw (x0:Aa) (x1:Ab) (z0:Int×(List Bool)×(List Ak)):Option (Ctl (Int×(List Bool)×(List Ak)) Unit):=
 bif (A1p x0 z0) then (getI z0.2.1 z0.1).bind λ y7=>(Az [(y7,true)] (Alp x0 x1 z0.1) default).bind λ y9=>bif (y7&&y9) then (setI z0.2.1 z0.1 false).bind λ y12=>(appI 25 z0.2.2 [(⟨2,z0.1,0⟩:Ak)]).bind λ y14=>some (.next (w64 (z0.1+1),y12,y14)) else some (.next (w64 (z0.1+1),z0.2.1,z0.2.2)) else some (.brk (z0.1,z0.2.1,z0.2.2))
def Akv (x0:Aa) (y4:Ab) (n1:Nat) (a1:Ah) (z1:(List Bool)×(List Ak)):Option (Ctl ((List Bool)×(List Ak)) Unit):=
 (Az [((a1.Kind==3),true)] (getI z1.1 (cnt 0 n1)) default).bind λ y16=>(Az [(((a1.Kind==3)&&y16),true)] (F14 x0 (⟨z1.1,y4.Ac,y4.Am,y4.Ai⟩:Ab) a1.A) default).bind λ y18=>bif (((a1.Kind==3)&&y16)&&(!y18)) then (getI z1.1 (cnt 0 n1)).bind λ y21=>(setI z1.1 (cnt 0 n1) false).bind λ y23=>(appI 25 z1.2 [(⟨2,cnt 0 n1,0⟩:Ak)]).bind λ y25=>some (.next (y23,y25)) else some (.next (z1.1,z1.2))
def F66 (x0:Aa) (x1:Ab):Option (Ab×(List Ak)×Int):=
 (F11 x0 x1).bind λ y1=>bif (y1 != 0) then some ((⟨([]:List Bool),([]:List Ag),([]:List Int),([]:List As)⟩:Ab),([]:List Ak),y1) else (Z7 x1).bind λ y4=>andThen (whileN (Akw x0 x1) 1152921504606846976 (0,y4.Ae,([]:List Ak))) (λ _=>none) λ z0=>andThen (foldI (Akv x0 y4) x0.Ad 0 (z0.2.1,z0.2.2)) (λ _=>none) λ z1=>(Aa8 x0 (⟨z1.1,y4.Ac,y4.Am,y4.Ai⟩:Ab)).bind λ y27=>some (y27.1,z1.2,0)
def Alh (z0:Int×(List Int)) (n1:Nat) (a1:A3) (z1:(List Int)):Option (Ctl ((List Int)) Unit):=
 bif (a1.Bl==z0.1) then (appI 9 z1 [cnt 0 n1]).bind λ y6=>some (.next y6) else some (.next z1)
def Ali (x0:Aa) (z0:Int×(List Int)):Option (Ctl (Int×(List Int)) Unit):=
 bif decide (z0.1<=15) then andThen (foldI (Alh z0) x0.Af 0 z0.2) (λ _=>none) λ z1=>some (.next (w64 (z0.1+1),z1)) else some (.brk (z0.1,z0.2))
def F12 (x0:Aa):Option ((List Int)):=
 (F45 x0).bind λ y1=>bif (y1 != 0) then some ([]:List Int) else andThen (whileN (Ali x0) 18 (0,([]:List Int))) (λ _=>none) λ z0=>some z0.2
def uS (y1:Aj×Bool):Bool:=((!y1.2) || ((y1.1.Ac.length:Int)==0))
def vZ (x1:Ab) (n0:Nat) (a0:Int) (z0:Int):Option (Ctl Int Unit):=
 (getI x1.Am a0).bind λ y4=>some (.next (w64 (z0+y4)))
def F17 (x0:Aa) (x1:Ab) (x2:Int):Option Int:=
 (F50 x0 x1 x2).bind λ y1=>bif (uS y1) then some 0 else andThen (foldI (vZ x1) y1.1.Af 0 0) (λ _=>none) λ z0=>some z0
def Alf (x0:Aa) (n0:Nat) (a0:Int) (z0:Int):Option (Ctl Int Unit):=
 (getI x0.Ac a0).bind λ y3=>some (.next (w64 (z0+y3.Rating)))
def F18 (x0:Aa) (x1:Ab) (x2:Int):Option Int:=
 (F50 x0 x1 x2).bind λ y1=>andThen (foldI (Alf x0) y1.1.Ac 0 0) (λ _=>none) λ z0=>some z0
def F16 (x0:Aa) (x1:Int) (x2:Int):Option ((List Int)):=
 (F45 x0).bind λ y1=>bif (y1 != 0) then some ([]:List Int) else (F49 x0 x1 x2).bind λ y4=>some y4
def uR (z1:Int×(List Int)×(List Ak)) (y18:A3) (y20:Bool) (y22:Int):Bool:=(((decide (z1.1<=0)) || (!y20)) || (decide (y22<=y18.Least)))
def Akt (x0:Aa) (a0:Aj) (n1:Nat) (a1:Int) (z1:Int×(List Int)×(List Ak)):Option (Ctl (Int×(List Int)×(List Ak)) Unit):=
 (getI x0.Af a1).bind λ y18=>(Az [(decide (z1.1<=0),false)] (F53 a0.Af a1) default).bind λ y20=>(Az [(((decide (z1.1<=0)) || (!y20)),false)] (getI z1.2.1 a1) default).bind λ y22=>bif (uR z1 y18 y20 y22) then some (.next (z1.1,z1.2.1,z1.2.2)) else (getI z1.2.1 a1).bind λ y25=>(setI z1.2.1 a1 (w64 (y25-(min z1.1 (w64 (y25-y18.Least)))))).bind λ y27=>(getI y27 a1).bind λ y29=>(appI 25 z1.2.2 [(⟨5,a1,y29⟩:Ak)]).bind λ y31=>some (.next (w64 (z1.1-(min z1.1 (w64 (y25-y18.Least)))),y27,y31))
def A6q (z2:Int×(List Bool)×(List Ak)) (y33:Bool) (y35:Int):Bool:=(((decide (z2.1<=0)) || (!y33)) || (y35==0))
def Akr (n3:Nat) (a3:Int) (z3:(List Bool)×(List Ak)):Option (Ctl ((List Bool)×(List Ak)) Unit):=
 (getI z3.1 a3).bind λ y40=>bif y40 then (setI z3.1 a3 false).bind λ y43=>(appI 25 z3.2 [(⟨2,a3,0⟩:Ak)]).bind λ y45=>some (.next (y43,y45)) else some (.next (z3.1,z3.2))
def Aks (x0:Aa) (a0:Aj) (z1:Int×(List Int)×(List Ak)) (n2:Nat) (a2:Int) (z2:Int×(List Bool)×(List Ak)):Option (Ctl (Int×(List Bool)×(List Ak)) Unit):=
 (Az [(decide (z2.1<=0),false)] (F53 a0.Af a2) default).bind λ y33=>(Az [(((decide (z2.1<=0)) || (!y33)),false)] (getI z1.2.1 a2) default).bind λ y35=>bif (A6q z2 y33 y35) then some (.next (z2.1,z2.2.1,z2.2.2)) else (F16 x0 3 a2).bind λ y38=>andThen (foldI Akr y38 0 (z2.2.1,z2.2.2)) (λ _=>none) λ z3=>(getI z1.2.1 a2).bind λ y47=>some (.next (w64 (z2.1-y47),z3.1,z3.2))
def Aku (x0:Aa) (x1:Ab) (y6:(List Int)) (n0:Nat) (a0:Aj) (z0:Sg0):Option (Ctl (Sg0) Unit):=
 (getI a0.Al 0).bind λ y10=>(F17 x0 x1 y10).bind λ y12=>(getI a0.Al 0).bind λ y14=>(F18 x0 x1 y14).bind λ y16=>andThen (foldI (Akt x0 a0) y6 0 (w64 (y12-y16),z0.2.1,z0.2.2)) (λ _=>none) λ z1=>andThen (foldI (Aks x0 a0 z1) y6 0 (z1.1,z0.1,z1.2.2)) (λ _=>none) λ z2=>some (.next (z2.2.1,z1.2.1,z2.2.2))
def F67 (x0:Aa) (x1:Ab):Option (Ab×(List Ak)×Int):=
 (F11 x0 x1).bind λ y1=>bif (y1 != 0) then some ((⟨([]:List Bool),([]:List Ag),([]:List Int),([]:List As)⟩:Ab),([]:List Ak),y1) else (Z7 x1).bind λ y4=>(F12 x0).bind λ y6=>(F21 x0 x1).bind λ y8=>andThen (foldI (Aku x0 x1 y6) y8 0 (y4.Ae,y4.Am,([]:List Ak))) (λ _=>none) λ z0=>some ((⟨z0.1,y4.Ac,z0.2.1,y4.Ai⟩:Ab),z0.2.2,0)
def F29 (x0:Aa) (x1:Ab):Option (Ab×(List Ak)×Int):=
 (F66 x0 x1).bind λ y1=>bif (y1.2.2 != 0) then some ((⟨([]:List Bool),([]:List Ag),([]:List Int),([]:List As)⟩:Ab),([]:List Ak),y1.2.2) else (F67 x0 y1.1).bind λ y4=>(appI 25 y1.2.1 y4.2.1).bind λ y6=>some (y4.1,y6,0)
def F7 (x0:Au):Option (Aa×Ab×Au):=
 (F28 x0).bind λ y1=>(vU y1.2 y1.1).bind λ y3=>(F29 y1.1 y3.1).bind λ y5=>some (y1.1,y5.1,y3.2)
def F93 (x0:Int) (x1:Int) (x2:Int):Bool:=
 ((decide (x0>=x1))&&(decide (x0<=x2)))
def Aob (x1:Int) (n0:Nat) (a0:Int) (z0:Unit):Option (Ctl Unit Int):=
 bif (x1==a0) then some (.ret (cnt 0 n0)) else some (.next ())
def Arq (x0:List Int) (x1:Int):Option Int:=
 andThen (foldI (Aob x1) x0 0 ()) some λ z0=>some (-1)
def F59 (x0:List Int) (x1:Int):Option Bool:=
 (Arq x0 x1).bind λ y1=>some (decide (y1>=0))
def A0w (x0:List Int):Bool:=
 ((x0.length:Int)==0)
def Ads (n0:Nat) (a0:List Int) (z0:Unit):Option (Ctl Unit Int):=
 bif A0w a0 then some (.ret (cnt 0 n0)) else some (.next ())
def yA (x0:List (List Int)):Option Int:=
 andThen (foldI Ads x0 0 ()) some λ z0=>some (-1)
def V8 (x0:List (List Int)):Option Bool:=
 (yA x0).bind λ y1=>some (decide (y1>=0))
def Apz (x0:Aa) (a0:Ah):Bool:=((a0.Kind==1)&&(F93 a0.B (w64 (a0.A+1)) (w64 (x0.Al-1))))
def Apy (z0:(List Int)×(List (List Int))) (a0:Ah) (y7:Int):Bool:=(((a0.Kind==2)&&(F93 a0.B 0 (w64 ((z0.1.length:Int)-1))))&&(y7==0))
def A1b (z0:(List Int)×(List (List Int))) (a0:Ah) (y16:Bool):Bool:=(((a0.Kind==3)&&(F93 a0.B 0 (w64 ((z0.2.length:Int)-1))))&&(!y16))
def Aka (x0:Aa) (n0:Nat) (a0:Ah) (z0:(List Int)×(List (List Int))):Option (Ctl ((List Int)×(List (List Int))) Bool):=
 bif !(F93 a0.A 0 (w64 (x0.Al-1))) then some (.ret false) else bif (Apz x0 a0) then some (.next (z0.1,z0.2)) else (Az [(((a0.Kind==2)&&(F93 a0.B 0 (w64 ((z0.1.length:Int)-1)))),true)] (getI z0.1 a0.B) default).bind λ y7=>bif (Apy z0 a0 y7) then (getI z0.1 a0.B).bind λ y10=>(setI z0.1 a0.B (w64 (y10+1))).bind λ y12=>some (.next (y12,z0.2)) else (Az [(((a0.Kind==3)&&(F93 a0.B 0 (w64 ((z0.2.length:Int)-1)))),true)] (getI z0.2 a0.B) default).bind λ y14=>(Az [(((a0.Kind==3)&&(F93 a0.B 0 (w64 ((z0.2.length:Int)-1)))),true)] (F59 y14 a0.A) default).bind λ y16=>bif (A1b z0 a0 y16) then (getI z0.2 a0.B).bind λ y19=>(appI 9 y19 [a0.A]).bind λ y21=>(setI z0.2 a0.B y21).bind λ y23=>some (.next (z0.1,y23)) else some (.ret false)
def F99 (x0:Aa):Option Bool:=
 (mkI 9 (x0.Ac.length:Int) 0).bind λ y1=>(mkI 25 (x0.Af.length:Int) ([]:List Int)).bind λ y3=>andThen (foldI (Aka x0) x0.Ad 0 (y1,y3)) some λ z0=>(F59 z0.1 0).bind λ y27=>(Az [(!y27,true)] (V8 z0.2) default).bind λ y29=>some ((!y27)&&(!y29))
def Aba (x0:Be):Bool:=
 (((F93 x0.Rating 1 50000)&&(F93 x0.Least 0 x0.Rating))&&(F93 x0.Start 0 600))
def Av1 (x1:Int) (n0:Nat) (a0:Int) (y1:Int):Bool:=((!(F93 a0 0 (w64 (x1-1)))) || ((decide ((cnt 0 n0)>0))&&(decide (y1>=a0))))
def Xx (x0:A3) (x1:Int) (n0:Nat) (a0:Int) (z0:Unit):Option (Ctl Unit Bool):=
 (Az [(!(F93 a0 0 (w64 (x1-1))),false),(decide ((cnt 0 n0)>0),true)] (getI x0.Needs (w64 ((cnt 0 n0)-1))) default).bind λ y1=>bif (Av1 x1 n0 a0 y1) then some (.ret false) else some (.next ())
def Aa9 (x0:A3) (x1:Int):Option Bool:=
 andThen (foldI (Xx x0 x1) x0.Needs 0 ()) some λ z0=>some (((((F93 x0.Load 0 50000)&&(F93 x0.Least 0 x0.Load))&&(F93 x0.Bl 0 15))&&(F93 x0.Thruster (-1) 7))&&(decide ((x0.Needs.length:Int)<=4)))
def A1q (x0:Aa):Bool:=((((!(F93 x0.Al 1 6)) || (decide ((x0.Ad.length:Int)>24))) || (decide ((x0.Ac.length:Int)>8))) || (decide ((x0.Af.length:Int)>16)))
def Ax2 (n0:Nat) (a0:Be) (z0:Bool):Option (Ctl Bool Unit):=
 some (.next (z0&&(Aba a0)))
def Akz (n1:Nat) (a1:A3) (z1:Bool):Option (Ctl Bool Unit):=
 (Az [(z1,true)] (Aa9 a1 (cnt 0 n1)) default).bind λ y4=>some (.next (z1&&y4))
def F51 (x0:Aa):Option Int:=
 bif (A1q x0) then some 2 else (F99 x0).bind λ y2=>andThen (foldI Ax2 x0.Ac 0 ((y2&&(F93 x0.Phase 0 1800))&&(F93 x0.Ar 0 6000))) (λ _=>none) λ z0=>andThen (foldI Akz x0.Af 0 z0) (λ _=>none) λ z1=>bif !z1 then some 14 else some 0
def Mo (x0:Aa) (x1:Int):Int:=
 bif (x1==1) then (x0.Ac.length:Int) else bif (x1==2) then (x0.Ad.length:Int) else bif (x1==3) then x0.Al else bif (x1==4) then (x0.Af.length:Int) else 0
def Z2 (x0:Int):Bool:=
 (x0 != x0)
def Ld (x0:Int) (x1:Int):Int:=
 bif Z2 x0 then bif Z2 x1 then 0 else (-1) else bif Z2 x1 then 1 else bif decide (x0<x1) then (-1) else bif decide (x0>x1) then 1 else 0
def Xw (n0:Nat) (a0:Int) (z0:Unit):Option (Ctl Unit Int):=
 bif (a0 != 0) then some (.ret a0) else some (.next ())
def Aa2 (x0:List Int):Option Int:=
 andThen (foldI Xw x0 0 ()) some λ z0=>some 0
def A1j (x0:Aa) (n0:Nat) (a0:As) (y5:Int):Bool:=((!(F93 a0.Number 0 (w64 ((Mo x0 a0.Kind)-1)))) || ((decide ((cnt 0 n0)>0))&&(decide (y5>=0))))
def vI (x0:Aa) (x1:List As) (n0:Nat) (a0:As) (z0:Unit):Option (Ctl Unit Bool):=
 (Az [(!(F93 a0.Number 0 (w64 ((Mo x0 a0.Kind)-1))),false),(decide ((cnt 0 n0)>0),true)] (getI x1 (w64 ((cnt 0 n0)-1))) default).bind λ y1=>(Az [(!(F93 a0.Number 0 (w64 ((Mo x0 a0.Kind)-1))),false),(decide ((cnt 0 n0)>0),true)] (getI x1 (w64 ((cnt 0 n0)-1))) default).bind λ y3=>(Az [(!(F93 a0.Number 0 (w64 ((Mo x0 a0.Kind)-1))),false),(decide ((cnt 0 n0)>0),true)] (Aa2 [Ld y1.Kind a0.Kind,Ld y3.Number a0.Number]) default).bind λ y5=>bif (A1j x0 n0 a0 y5) then some (.ret false) else some (.next ())
def F89 (x0:Aa) (x1:List As):Option Bool:=
 andThen (foldI (vI x0 x1) x1 0 ()) some λ z0=>some (decide ((x1.length:Int)<=32))
def F92 (x0:Ag):Bool:=
 ((((F93 x0.State 0 3)&&(F93 x0.Since 0 2147483648))&&(F93 x0.Ar 0 6000))&&(F93 x0.Phase 0 3599))
def F91 (x0:Ag):Bool:=
 !(F92 x0)
def Adt (n0:Nat) (a0:Ag) (z0:Unit):Option (Ctl Unit Int):=
 bif F91 a0 then some (.ret (cnt 0 n0)) else some (.next ())
def yF (x0:List Ag):Option Int:=
 andThen (foldI Adt x0 0 ()) some λ z0=>some (-1)
def Xq (x0:List Ag):Option Bool:=
 (yF x0).bind λ y1=>some (decide (y1>=0))
def A1i (x2:Int) (a0:Ah) (y1:Bool):Bool:=(((a0.Kind==3)&&(a0.B==x2))&&y1)
def Akk (x1:Ab) (x2:Int) (n0:Nat) (a0:Ah) (z0:Int):Option (Ctl Int Unit):=
 (Az [(((a0.Kind==3)&&(a0.B==x2)),true)] (getI x1.Ae (cnt 0 n0)) default).bind λ y1=>bif (A1i x2 a0 y1) then some (.next (w64 (z0+1))) else some (.next z0)
def F94 (x0:Aa) (x1:Ab) (x2:Int):Option Int:=
 andThen (foldI (Akk x1 x2) x0.Ad 0 0) (λ _=>none) λ z0=>some z0
def Ap3 (x0:Aa) (x1:Ab):Bool:=((((x1.Ae.length:Int) != (x0.Ad.length:Int)) || ((x1.Ac.length:Int) != (x0.Ac.length:Int))) || ((x1.Am.length:Int) != (x0.Af.length:Int)))
def Ak3 (x0:Aa) (x1:Ab) (n0:Nat) (a0:Int) (z0:Bool):Option (Ctl Bool Unit):=
 (Az [(z0,true)] (getI x0.Af (cnt 0 n0)) default).bind λ y9=>(Az [((z0&&(F93 a0 0 y9.Load)),true)] (F94 x0 x1 (cnt 0 n0)) default).bind λ y11=>some (.next ((z0&&(F93 a0 0 y9.Load))&&(decide (y11<=1))))
def F44 (x0:Aa) (x1:Ab):Option Int:=
 (F51 x0).bind λ y1=>bif (y1 != 0) then some y1 else bif (Ap3 x0 x1) then some 8 else (F89 x0 x1.Ai).bind λ y5=>(Az [(y5,true)] (Xq x1.Ac) default).bind λ y7=>andThen (foldI (Ak3 x0 x1) x1.Am 0 (y5&&(!y7))) (λ _=>none) λ z0=>bif !z0 then some 11 else some 0
def F78 (x0:List Bool):Option (List Bool):=appI 2 [] x0
def F79 (x0:List Ag):Option (List Ag):=appI 33 [] x0
def F80 (x0:List Int):Option (List Int):=appI 9 [] x0
def F81 (x0:List As):Option (List As):=appI 17 [] x0
def F35 (x0:Ab):Option Ab:=
 (F78 x0.Ae).bind λ y1=>(F79 x0.Ac).bind λ y3=>(F80 x0.Am).bind λ y5=>(F81 x0.Ai).bind λ y7=>some (⟨y1,y3,y5,y7⟩:Ab)
def A6t (x1:As) (a0:As):Bool:=((x1.Kind==a0.Kind)&&((x1.Number==a0.Number)&&true))
def Aoa (x1:As) (n0:Nat) (a0:As) (z0:Unit):Option (Ctl Unit Int):=
 bif (A6t x1 a0) then some (.ret (cnt 0 n0)) else some (.next ())
def Arm (x0:List As) (x1:As):Option Int:=
 andThen (foldI (Aoa x1) x0 0 ()) some λ z0=>some (-1)
def Arp (x0:List As) (x1:As):Option Bool:=
 (Arm x0 x1).bind λ y1=>some (decide (y1>=0))
def F76 (x0:Ab) (x1:Int) (x2:Int):Option Bool:=
 (Arp x0.Ai (⟨x1,x2⟩:As)).bind λ y1=>some y1
def Me (x0:Int) (x1:Int) (x2:Ax):Option (Bool×Ax):=
 (F76 x2.Aq x0 x1).bind λ y1=>some (y1,x2)
def We (x0:Ax) (x1:Ah):Option (Bool×Ax):=
 (Me 3 x1.A x0).bind λ y1=>bif y1.1 then some (true,y1.2) else bif (x1.Kind==1) then (Me 3 x1.B y1.2).bind λ y5=>some (y5.1,y5.2) else bif (x1.Kind==2) then (Me 1 x1.B y1.2).bind λ y8=>(Az [(y8.1,false)] (getI y8.2.Aq.Ac x1.B) default).bind λ y10=>some ((y8.1 || (y10.State != 2)),y8.2) else (Me 4 x1.B y1.2).bind λ y12=>some (y12.1,y12.2)
def Oe (x0:Ax) (x1:Int):Option Ax:=
 (getI x0.Aq.Ae x1).bind λ y1=>(setI x0.Aq.Ae x1 false).bind λ y3=>(appI 25 x0.acts [(⟨2,x1,0⟩:Ak)]).bind λ y5=>some (⟨x0.An,(⟨y3,x0.Aq.Ac,x0.Aq.Am,x0.Aq.Ai⟩:Ab),y5⟩:Ax)
def Wj (n0:Nat) (a0:Ah) (z0:Sg8):Option (Ctl (Sg8) Unit):=
 (getI z0.2.2.2.2.2.2.2.1 (cnt 0 n0)).bind λ y1=>(Az [(y1,true)] (We (⟨(⟨z0.1,z0.2.1,z0.2.2.1,z0.2.2.2.1,z0.2.2.2.2.1,z0.2.2.2.2.2.1⟩:Aa),(⟨z0.2.2.2.2.2.2.2.1,z0.2.2.2.2.2.2.2.2.1,z0.2.2.2.2.2.2.2.2.2.1,z0.2.2.2.2.2.2.2.2.2.2.1⟩:Ab),z0.2.2.2.2.2.2.2.2.2.2.2⟩:Ax) a0) (default,(⟨(⟨z0.1,z0.2.1,z0.2.2.1,z0.2.2.2.1,z0.2.2.2.2.1,z0.2.2.2.2.2.1⟩:Aa),(⟨z0.2.2.2.2.2.2.2.1,z0.2.2.2.2.2.2.2.2.1,z0.2.2.2.2.2.2.2.2.2.1,z0.2.2.2.2.2.2.2.2.2.2.1⟩:Ab),z0.2.2.2.2.2.2.2.2.2.2.2⟩:Ax))).bind λ y3=>bif (y1&&y3.1) then (appI 9 z0.2.2.2.2.2.2.1 [cnt 0 n0]).bind λ y6=>some (.next (y3.2.An.Al,y3.2.An.Ad,y3.2.An.Ac,y3.2.An.Af,y3.2.An.Phase,y3.2.An.Ar,y6,y3.2.Aq.Ae,y3.2.Aq.Ac,y3.2.Aq.Am,y3.2.Aq.Ai,y3.2.acts)) else some (.next (y3.2.An.Al,y3.2.An.Ad,y3.2.An.Ac,y3.2.An.Af,y3.2.An.Phase,y3.2.An.Ar,z0.2.2.2.2.2.2.1,y3.2.Aq.Ae,y3.2.Aq.Ac,y3.2.Aq.Am,y3.2.Aq.Ai,y3.2.acts))
def Pk (n1:Nat) (a1:Int) (z1:Sg7):Option (Ctl (Sg7) Unit):=
 (Oe (⟨(⟨z1.1,z1.2.1,z1.2.2.1,z1.2.2.2.1,z1.2.2.2.2.1,z1.2.2.2.2.2.1⟩:Aa),(⟨z1.2.2.2.2.2.2.1,z1.2.2.2.2.2.2.2.1,z1.2.2.2.2.2.2.2.2.1,z1.2.2.2.2.2.2.2.2.2.1⟩:Ab),z1.2.2.2.2.2.2.2.2.2.2⟩:Ax) a1).bind λ y8=>some (.next (y8.An.Al,y8.An.Ad,y8.An.Ac,y8.An.Af,y8.An.Phase,y8.An.Ar,y8.Aq.Ae,y8.Aq.Ac,y8.Aq.Am,y8.Aq.Ai,y8.acts))
def Wk (x0:Ax):Option Ax:=
 andThen (foldI Wj x0.An.Ad 0 (x0.An.Al,x0.An.Ad,x0.An.Ac,x0.An.Af,x0.An.Phase,x0.An.Ar,([]:List Int),x0.Aq.Ae,x0.Aq.Ac,x0.Aq.Am,x0.Aq.Ai,x0.acts)) (λ _=>none) λ z0=>andThen (foldI Pk z0.2.2.2.2.2.2.1 0 (z0.1,z0.2.1,z0.2.2.1,z0.2.2.2.1,z0.2.2.2.2.1,z0.2.2.2.2.2.1,z0.2.2.2.2.2.2.2.1,z0.2.2.2.2.2.2.2.2.1,z0.2.2.2.2.2.2.2.2.2.1,z0.2.2.2.2.2.2.2.2.2.2.1,z0.2.2.2.2.2.2.2.2.2.2.2)) (λ _=>none) λ z1=>some (⟨(⟨z1.1,z1.2.1,z1.2.2.1,z1.2.2.2.1,z1.2.2.2.2.1,z1.2.2.2.2.2.1⟩:Aa),(⟨z1.2.2.2.2.2.2.1,z1.2.2.2.2.2.2.2.1,z1.2.2.2.2.2.2.2.2.1,z1.2.2.2.2.2.2.2.2.2.1⟩:Ab),z1.2.2.2.2.2.2.2.2.2.2⟩:Ax)
def Aay (n0:Nat) (a0:Int) (z0:(List Int)):Option (Ctl ((List Int)) Unit):=
 (getI z0 (cnt 0 n0)).bind λ y3=>(setI z0 (cnt 0 n0) (cnt 0 n0)).bind λ y5=>some (.next y5)
def Xu (x1:Ab) (n2:Nat) (a2:Ah) (z2:(List Int)):Option (Ctl ((List Int)) Unit):=
 (Az [((a2.Kind==1),true)] (getI x1.Ae (cnt 0 n2)) default).bind λ y7=>bif ((a2.Kind==1)&&y7) then (getI z2 a2.A).bind λ y10=>(getI z2 a2.B).bind λ y12=>(setI z2 a2.A (min y10 y12)).bind λ y14=>(getI y14 a2.B).bind λ y16=>(setI y14 a2.B (min y10 y12)).bind λ y18=>some (.next y18) else some (.next z2)
def Aax (x0:Aa) (x1:Ab) (n1:Nat) (a1:Int) (z1:(List Int)):Option (Ctl ((List Int)) Unit):=
 andThen (foldI (Xu x1) x0.Ad 0 z1) (λ _=>none) λ z2=>some (.next z2)
def Aaz (x0:Aa) (x1:Ab):Option ((List Int)):=
 (mkI 9 x0.Al 0).bind λ y1=>andThen (foldI Aay y1 0 y1) (λ _=>none) λ z0=>andThen (foldI (Aax x0 x1) z0 0 z0) (λ _=>none) λ z1=>some z1
def Avw (x2:Int) (x3:Int) (a0:Ah) (y1:Bool):Bool:=(((a0.Kind==x2)&&(a0.B==x3))&&y1)
def Xt (x1:Ab) (x2:Int) (x3:Int) (n0:Nat) (a0:Ah) (z0:Unit):Option (Ctl Unit (Int×Bool)):=
 (Az [(((a0.Kind==x2)&&(a0.B==x3)),true)] (getI x1.Ae (cnt 0 n0)) default).bind λ y1=>bif (Avw x2 x3 a0 y1) then some (.ret (a0.A,true)) else some (.next ())
def Aaw (x0:Aa) (x1:Ab) (x2:Int) (x3:Int):Option (Int×Bool):=
 andThen (foldI (Xt x1 x2 x3) x0.Ad 0 ()) some λ z0=>some (0,false)
def uT (x1:Ab) (x2:Int) (y1:Ag):Bool:=((!(F93 x2 0 (w64 ((x1.Ac.length:Int)-1)))) || (y1.State != 2))
def Z3 (x0:Aa) (x1:Ab) (x2:Int):Option (Int×Bool):=
 (Az [(!(F93 x2 0 (w64 ((x1.Ac.length:Int)-1))),false)] (getI x1.Ac x2) default).bind λ y1=>bif (uT x1 x2 y1) then some (0,false) else (Aaw x0 x1 2 x2).bind λ y4=>some (y4.1,y4.2)
def Z5 (x0:Aa) (x1:Ab) (x2:Int):Option (Int×Bool):=
 (Aaw x0 x1 3 x2).bind λ y1=>some (y1.1,y1.2)
def Arn (x0:Aj):Bool:=
 ((x0.Al.length:Int)==0)
def Adr (n0:Nat) (a0:Aj) (z0:Unit):Option (Ctl Unit Int):=
 bif Arn a0 then some (.ret (cnt 0 n0)) else some (.next ())
def Vz (x0:List Aj):Option Int:=
 andThen (foldI Adr x0 0 ()) some λ z0=>some (-1)
def Ai2 (z0:Int×Int×(List Aj)):Bool:=decide (z0.2.1<(z0.2.2.length:Int))
def V3 (z0:Int×Int×(List Aj)):Option (Ctl (Int×Int×(List Aj)) Unit):=
 bif (Ai2 z0) then (getI z0.2.2 z0.2.1).bind λ y5=>bif !(Arn y5) then (getI z0.2.2 z0.1).bind λ y8=>(setI z0.2.2 z0.1 y5).bind λ y10=>some (.next (w64 (z0.1+1),w64 (z0.2.1+1),y10)) else some (.next (z0.1,w64 (z0.2.1+1),z0.2.2)) else some (.brk (z0.1,z0.2.1,z0.2.2))
def Q7 (x0:List Aj):Option ((List Aj)):=
 (Vz x0).bind λ y1=>bif (y1==(-1)) then some x0 else andThen (whileN V3 1152921504606846976 (y1,w64 (y1+1),x0)) (λ _=>none) λ z0=>(bndI z0.2.2.length z0.1 (z0.2.2.length:Int)).bind λ u13=>(bndI (Hf z0.2.2 (Int.toNat z0.1) ((Int.toNat (z0.2.2.length:Int))-(Int.toNat z0.1)) (⟨([]:List Int),([]:List Int),([]:List Int)⟩:Aj)).length 0 z0.1).bind λ u15=>some ((Hf z0.2.2 (Int.toNat z0.1) ((Int.toNat (z0.2.2.length:Int))-(Int.toNat z0.1)) (⟨([]:List Int),([]:List Int),([]:List Int)⟩:Aj)).take ((Int.toNat z0.1)-0))
def Aa5 (n0:Nat) (a0:Int) (z0:(List Aj)):Option (Ctl ((List Aj)) Unit):=
 (getI z0 a0).bind λ y8=>(appI 9 y8.Al [cnt 0 n0]).bind λ y10=>(setI z0 a0 (⟨y10,y8.Ac,y8.Af⟩:Aj)).bind λ y12=>some (.next y12)
def Avy (x0:Aa) (z1:Int×(List Aj)):Bool:=decide (z1.1<(x0.Ac.length:Int))
def Aa4 (x0:Aa) (x1:Ab) (y4:(List Int)) (z1:Int×(List Aj)):Option (Ctl (Int×(List Aj)) Unit):=
 bif (Avy x0 z1) then (Z3 x0 x1 z1.1).bind λ y15=>bif y15.2 then (getI y4 y15.1).bind λ y18=>(getI z1.2 y18).bind λ y20=>(appI 9 y20.Ac [z1.1]).bind λ y22=>(setI z1.2 y18 (⟨y20.Al,y22,y20.Af⟩:Aj)).bind λ y24=>some (.next (w64 (z1.1+1),y24)) else some (.next (w64 (z1.1+1),z1.2)) else some (.brk (z1.1,z1.2))
def Avx (x0:Aa) (z2:Int×(List Aj)):Bool:=decide (z2.1<(x0.Af.length:Int))
def Aa3 (x0:Aa) (x1:Ab) (y4:(List Int)) (z2:Int×(List Aj)):Option (Ctl (Int×(List Aj)) Unit):=
 bif (Avx x0 z2) then (Z5 x0 x1 z2.1).bind λ y27=>bif y27.2 then (getI y4 y27.1).bind λ y30=>(getI z2.2 y30).bind λ y32=>(appI 9 y32.Af [z2.1]).bind λ y34=>(setI z2.2 y30 (⟨y32.Al,y32.Ac,y34⟩:Aj)).bind λ y36=>some (.next (w64 (z2.1+1),y36)) else some (.next (w64 (z2.1+1),z2.2)) else some (.brk (z2.1,z2.2))
def Z6 (x0:Aa) (x1:Ab):Option ((List Aj)):=
 (F44 x0 x1).bind λ y1=>bif (y1 != 0) then some ([]:List Aj) else (Aaz x0 x1).bind λ y4=>(mkI 73 x0.Al (⟨([]:List Int),([]:List Int),([]:List Int)⟩:Aj)).bind λ y6=>andThen (foldI Aa5 y4 0 y6) (λ _=>none) λ z0=>andThen (whileN (Aa4 x0 x1 y4) 1152921504606846976 (0,z0)) (λ _=>none) λ z1=>andThen (whileN (Aa3 x0 x1 y4) 1152921504606846976 (0,z1.2)) (λ _=>none) λ z2=>(Q7 z2.2).bind λ y38=>some y38
def Nj (x2:Int) (n0:Nat) (a0:Aj) (z0:Unit):Option (Ctl Unit (Aj×Bool)):=
 (F59 a0.Al x2).bind λ y3=>bif y3 then some (.ret (a0,true)) else some (.next ())
def Io (x0:Aa) (x1:Ab) (x2:Int):Option (Aj×Bool):=
 (Z6 x0 x1).bind λ y1=>andThen (foldI (Nj x2) y1 0 ()) some λ z0=>some ((⟨([]:List Int),([]:List Int),([]:List Int)⟩:Aj),false)
def F58 (x0:Aa) (x1:Ab) (x2:Int):Option Bool:=
 (Io x0 x1 x2).bind λ y1=>some (decide ((y1.1.Ac.length:Int)>0))
def Wd (x0:Ah) (x1:Ax):Option (Bool×Ax):=
 (Az [((x0.Kind==3),true)] (F58 x1.An x1.Aq x0.A) default).bind λ y1=>some (((x0.Kind==3)&&(!y1)),x1)
def Wh (n0:Nat) (a0:Ah) (z0:Sg8):Option (Ctl (Sg8) Unit):=
 (getI z0.2.2.2.2.2.2.2.1 (cnt 0 n0)).bind λ y1=>(Az [(y1,true)] (Wd a0 (⟨(⟨z0.1,z0.2.1,z0.2.2.1,z0.2.2.2.1,z0.2.2.2.2.1,z0.2.2.2.2.2.1⟩:Aa),(⟨z0.2.2.2.2.2.2.2.1,z0.2.2.2.2.2.2.2.2.1,z0.2.2.2.2.2.2.2.2.2.1,z0.2.2.2.2.2.2.2.2.2.2.1⟩:Ab),z0.2.2.2.2.2.2.2.2.2.2.2⟩:Ax)) (default,(⟨(⟨z0.1,z0.2.1,z0.2.2.1,z0.2.2.2.1,z0.2.2.2.2.1,z0.2.2.2.2.2.1⟩:Aa),(⟨z0.2.2.2.2.2.2.2.1,z0.2.2.2.2.2.2.2.2.1,z0.2.2.2.2.2.2.2.2.2.1,z0.2.2.2.2.2.2.2.2.2.2.1⟩:Ab),z0.2.2.2.2.2.2.2.2.2.2.2⟩:Ax))).bind λ y3=>bif (y1&&y3.1) then (appI 9 z0.2.2.2.2.2.2.1 [cnt 0 n0]).bind λ y6=>some (.next (y3.2.An.Al,y3.2.An.Ad,y3.2.An.Ac,y3.2.An.Af,y3.2.An.Phase,y3.2.An.Ar,y6,y3.2.Aq.Ae,y3.2.Aq.Ac,y3.2.Aq.Am,y3.2.Aq.Ai,y3.2.acts)) else some (.next (y3.2.An.Al,y3.2.An.Ad,y3.2.An.Ac,y3.2.An.Af,y3.2.An.Phase,y3.2.An.Ar,z0.2.2.2.2.2.2.1,y3.2.Aq.Ae,y3.2.Aq.Ac,y3.2.Aq.Am,y3.2.Aq.Ai,y3.2.acts))
def Ady (n1:Nat) (a1:Int) (z1:Sg7):Option (Ctl (Sg7) Unit):=
 (Oe (⟨(⟨z1.1,z1.2.1,z1.2.2.1,z1.2.2.2.1,z1.2.2.2.2.1,z1.2.2.2.2.2.1⟩:Aa),(⟨z1.2.2.2.2.2.2.1,z1.2.2.2.2.2.2.2.1,z1.2.2.2.2.2.2.2.2.1,z1.2.2.2.2.2.2.2.2.2.1⟩:Ab),z1.2.2.2.2.2.2.2.2.2.2⟩:Ax) a1).bind λ y8=>some (.next (y8.An.Al,y8.An.Ad,y8.An.Ac,y8.An.Af,y8.An.Phase,y8.An.Ar,y8.Aq.Ae,y8.Aq.Ac,y8.Aq.Am,y8.Aq.Ai,y8.acts))
def Wi (x0:Ax):Option Ax:=
 andThen (foldI Wh x0.An.Ad 0 (x0.An.Al,x0.An.Ad,x0.An.Ac,x0.An.Af,x0.An.Phase,x0.An.Ar,([]:List Int),x0.Aq.Ae,x0.Aq.Ac,x0.Aq.Am,x0.Aq.Ai,x0.acts)) (λ _=>none) λ z0=>andThen (foldI Ady z0.2.2.2.2.2.2.1 0 (z0.1,z0.2.1,z0.2.2.1,z0.2.2.2.1,z0.2.2.2.2.1,z0.2.2.2.2.2.1,z0.2.2.2.2.2.2.2.1,z0.2.2.2.2.2.2.2.2.1,z0.2.2.2.2.2.2.2.2.2.1,z0.2.2.2.2.2.2.2.2.2.2.1,z0.2.2.2.2.2.2.2.2.2.2.2)) (λ _=>none) λ z1=>some (⟨(⟨z1.1,z1.2.1,z1.2.2.1,z1.2.2.2.1,z1.2.2.2.2.1,z1.2.2.2.2.2.1⟩:Aa),(⟨z1.2.2.2.2.2.2.1,z1.2.2.2.2.2.2.2.1,z1.2.2.2.2.2.2.2.2.1,z1.2.2.2.2.2.2.2.2.2.1⟩:Ab),z1.2.2.2.2.2.2.2.2.2.2⟩:Ax)
def V7 (x2:Ag) (n0:Nat) (a0:Int) (z0:(List Ag)):Option (Ctl ((List Ag)) Unit):=
 (getI z0 a0).bind λ y1=>(setI z0 a0 (⟨y1.State,y1.Since,x2.Ar,y1.Phase⟩:Ag)).bind λ y3=>(getI y3 a0).bind λ y5=>(setI y3 a0 (⟨y5.State,y5.Since,y5.Ar,x2.Phase⟩:Ag)).bind λ y7=>some (.next y7)
def Of (x0:Ab) (x1:List Int) (x2:Ag):Option ((List Ag)):=
 andThen (foldI (V7 x2) x1 0 x0.Ac) (λ _=>none) λ z0=>some z0
def Avz (a0:Aj):Bool:=decide ((a0.Ac.length:Int)>0)
def Aa6 (x1:Ab) (y4:Ab) (n0:Nat) (a0:Aj) (z0:(List Ag)):Option (Ctl ((List Ag)) Unit):=
 bif (Avz a0) then (getI a0.Ac 0).bind λ y9=>(getI x1.Ac y9).bind λ y11=>(Of (⟨y4.Ae,z0,y4.Am,y4.Ai⟩:Ab) a0.Ac y11).bind λ y13=>some (.next y13) else some (.next z0)
def Aa7 (x0:Aa) (x1:Ab):Option (Ab×Int):=
 (F44 x0 x1).bind λ y1=>bif (y1 != 0) then some ((⟨([]:List Bool),([]:List Ag),([]:List Int),([]:List As)⟩:Ab),y1) else (F35 x1).bind λ y4=>(Z6 x0 x1).bind λ y6=>andThen (foldI (Aa6 x1 y4) y6 0 y4.Ac) (λ _=>none) λ z0=>some ((⟨y4.Ae,z0,y4.Am,y4.Ai⟩:Ab),0)
def vO (x0:Ax):Option Ax:=
 (Wk x0).bind λ y1=>(Wi y1).bind λ y3=>(Aa7 y3.An y3.Aq).bind λ y5=>some (⟨y3.An,y5.1,y3.acts⟩:Ax)
def Og (x0:Int) (x1:Int) (x2:Aa):Option Int:=
 (getI x2.Af x0).bind λ y1=>(getI x2.Af x1).bind λ y3=>some (Ld y1.Bl y3.Bl)
def Zb (x1:Int) (z1:Int×(List Int)) (y12:Int):Bool:=((decide (z1.1>x1))&&(decide (y12<0)))
def Pi (x1:Int) (x3c0:Aa) (z1:Int×(List Int)):Option (Ctl (Int×(List Int)) Unit):=
 (Az [(decide (z1.1>x1),true)] (getI z1.2 z1.1) default).bind λ y8=>(Az [(decide (z1.1>x1),true)] (getI z1.2 (w64 (z1.1-1))) default).bind λ y10=>(Az [(decide (z1.1>x1),true)] (Og y8 y10 x3c0) default).bind λ y12=>bif (Zb x1 z1 y12) then (getI z1.2 (w64 (z1.1-1))).bind λ y15=>(getI z1.2 z1.1).bind λ y17=>(setI z1.2 z1.1 y15).bind λ y19=>(getI y19 (w64 (z1.1-1))).bind λ y21=>(setI y19 (w64 (z1.1-1)) y17).bind λ y23=>some (.next (w64 (z1.1-1),y23)) else some (.brk (z1.1,z1.2))
def Vx (x1:Int) (x2:Int) (x3c0:Aa) (z0:Int×(List Int)):Option (Ctl (Int×(List Int)) Unit):=
 bif decide (z0.1<x2) then andThen (whileN (Pi x1 x3c0) 1152921504606846976 (z0.1,z0.2)) (λ _=>none) λ z1=>some (.next (w64 (z0.1+1),z1.2)) else some (.brk (z0.1,z0.2))
def Vy (x0:List Int) (x1:Int) (x2:Int) (x3c0:Aa):Option ((List Int)×Aa):=
 andThen (whileN (Vx x1 x2 x3c0) 1152921504606846976 (w64 (x1+1),x0)) (λ _=>none) λ z0=>some (z0.2,x3c0)
def V1 (x1:Int) (z0:Zf):Option (Ctl (Zf) Unit):=
 bif decide (z0.2.1<=x1) then (Vy z0.2.2.1 z0.1 z0.2.1 (⟨z0.2.2.2.1,z0.2.2.2.2.1,z0.2.2.2.2.2.1,z0.2.2.2.2.2.2.1,z0.2.2.2.2.2.2.2.1,z0.2.2.2.2.2.2.2.2⟩:Aa)).bind λ y2=>some (.next (z0.2.1,w64 (z0.2.1+20),y2.1,y2.2.Al,y2.2.Ad,y2.2.Ac,y2.2.Af,y2.2.Phase,y2.2.Ar)) else some (.brk (z0.1,z0.2.1,z0.2.2.1,z0.2.2.2.1,z0.2.2.2.2.1,z0.2.2.2.2.2.1,z0.2.2.2.2.2.2.1,z0.2.2.2.2.2.2.2.1,z0.2.2.2.2.2.2.2.2))
def A8i (x1:Int) (z2:Unit):Option (Ctl Unit Unit):=
 bif decide (40<=x1) then none else some (.brk ())
def V0 (x1:Int) (z1:Unit):Option (Ctl Unit Unit):=
 bif decide (20<x1) then none else some (.brk ())
def yB (x0:List Int) (x1:Int) (x2c0:Aa):Option ((List Int)×Aa):=
 andThen (whileN (V1 x1) 1152921504606846976 (0,20,x0,x2c0.Al,x2c0.Ad,x2c0.Ac,x2c0.Af,x2c0.Phase,x2c0.Ar)) (λ _=>none) λ z0=>(Vy z0.2.2.1 z0.1 x1 (⟨z0.2.2.2.1,z0.2.2.2.2.1,z0.2.2.2.2.2.1,z0.2.2.2.2.2.2.1,z0.2.2.2.2.2.2.2.1,z0.2.2.2.2.2.2.2.2⟩:Aa)).bind λ y4=>andThen (whileN (V0 x1) 1152921504606846976 ()) (λ _=>none) λ z1=>some (y4.1,y4.2)
def V9 (x0:List Int) (x1c0:Aa):Option ((List Int)×Aa):=
 (yB x0 (x0.length:Int) x1c0).bind λ y1=>some (y1.1,y1.2)
def A1k (x0:Aa) (z0:Int×(List Int)):Bool:=decide (z0.1<(x0.Af.length:Int))
def Akm (x0:Aa) (z0:Int×(List Int)):Option (Ctl (Int×(List Int)) Unit):=
 bif (A1k x0 z0) then (appI 9 z0.2 [z0.1]).bind λ y5=>some (.next (w64 (z0.1+1),y5)) else some (.brk (z0.1,z0.2))
def F85 (x0:Aa):Option ((List Int)):=
 (F51 x0).bind λ y1=>bif (y1 != 0) then some ([]:List Int) else andThen (whileN (Akm x0) 1152921504606846976 (0,([]:List Int))) (λ _=>none) λ z0=>(V9 z0.2 x0).bind λ y7=>some y7.1
def Ra (x0:Int) (x1:Aj):Option Bool:=
 (F59 x1.Af x0).bind λ y1=>some (!y1)
def Pj (x1c0:Aj) (n0:Nat) (a0:Int) (z0:Unit):Option (Ctl Unit (Int×Aj)):=
 (Ra a0 x1c0).bind λ y1=>bif y1 then some (.ret (cnt 0 n0,x1c0)) else some (.next ())
def yD (x0:List Int) (x1c0:Aj):Option (Int×Aj):=
 andThen (foldI (Pj x1c0) x0 0 ()) some λ z0=>some ((-1),x1c0)
def Ai3 (z0:Int×Int×(List Int)):Bool:=decide (z0.2.1<(z0.2.2.length:Int))
def Wb (y1:Int×Aj) (z0:Int×Int×(List Int)):Option (Ctl (Int×Int×(List Int)) Unit):=
 bif (Ai3 z0) then (getI z0.2.2 z0.2.1).bind λ y5=>(Ra y5 y1.2).bind λ y7=>bif !y7 then (getI z0.2.2 z0.1).bind λ y10=>(setI z0.2.2 z0.1 y5).bind λ y12=>some (.next (w64 (z0.1+1),w64 (z0.2.1+1),y12)) else some (.next (z0.1,w64 (z0.2.1+1),z0.2.2)) else some (.brk (z0.1,z0.2.1,z0.2.2))
def Wc (x0:List Int) (x1c0:Aj):Option ((List Int)×Aj):=
 (yD x0 x1c0).bind λ y1=>bif (y1.1==(-1)) then some (x0,y1.2) else andThen (whileN (Wb y1) 1152921504606846976 (y1.1,w64 (y1.1+1),x0)) (λ _=>none) λ z0=>(bndI z0.2.2.length z0.1 (z0.2.2.length:Int)).bind λ u15=>(bndI (Hf z0.2.2 (Int.toNat z0.1) ((Int.toNat (z0.2.2.length:Int))-(Int.toNat z0.1)) 0).length 0 z0.1).bind λ u17=>some (((Hf z0.2.2 (Int.toNat z0.1) ((Int.toNat (z0.2.2.length:Int))-(Int.toNat z0.1)) 0).take ((Int.toNat z0.1)-0)),y1.2)
def vJ (x1:Ab) (y1:Aj×Bool) (n0:Nat) (a0:Int) (z0:Int):Option (Ctl Int Unit):=
 bif decide ((y1.1.Ac.length:Int)>0) then (getI x1.Am a0).bind λ y4=>some (.next (w64 (z0+y4))) else some (.next z0)
def F87 (x0:Aa) (x1:Ab) (x2:Int):Option Int:=
 (Io x0 x1 x2).bind λ y1=>andThen (foldI (vJ x1 y1) y1.1.Af 0 0) (λ _=>none) λ z0=>some z0
def Akl (x0:Aa) (n0:Nat) (a0:Int) (z0:Int):Option (Ctl Int Unit):=
 (getI x0.Ac a0).bind λ y3=>some (.next (w64 (z0+y3.Rating)))
def F88 (x0:Aa) (x1:Ab) (x2:Int):Option Int:=
 (Io x0 x1 x2).bind λ y1=>andThen (foldI (Akl x0) y1.1.Ac 0 0) (λ _=>none) λ z0=>some z0
def Q6 (x0:Ax) (x1:Int):Option Int:=
 (F87 x0.An x0.Aq x1).bind λ y1=>(F88 x0.An x0.Aq x1).bind λ y3=>some (max 0 (w64 (y1-y3)))
def Adw (n0:Nat) (a0:Int) (z0:(List Aj)):Option (Ctl ((List Aj)) Unit):=
 (getI z0 a0).bind λ y8=>(appI 9 y8.Al [cnt 0 n0]).bind λ y10=>(setI z0 a0 (⟨y10,y8.Ac,y8.Af⟩:Aj)).bind λ y12=>some (.next y12)
def A0a (x0:Aa) (z1:Int×(List Aj)):Bool:=decide (z1.1<(x0.Ac.length:Int))
def Adv (x0:Aa) (x1:Ab) (y4:(List Int)) (z1:Int×(List Aj)):Option (Ctl (Int×(List Aj)) Unit):=
 bif (A0a x0 z1) then (Z3 x0 x1 z1.1).bind λ y15=>bif y15.2 then (getI y4 y15.1).bind λ y18=>(getI z1.2 y18).bind λ y20=>(appI 9 y20.Ac [z1.1]).bind λ y22=>(setI z1.2 y18 (⟨y20.Al,y22,y20.Af⟩:Aj)).bind λ y24=>some (.next (w64 (z1.1+1),y24)) else some (.next (w64 (z1.1+1),z1.2)) else some (.brk (z1.1,z1.2))
def Az9 (x0:Aa) (z2:Int×(List Aj)):Bool:=decide (z2.1<(x0.Af.length:Int))
def Adu (x0:Aa) (x1:Ab) (y4:(List Int)) (z2:Int×(List Aj)):Option (Ctl (Int×(List Aj)) Unit):=
 bif (Az9 x0 z2) then (Z5 x0 x1 z2.1).bind λ y27=>bif y27.2 then (getI y4 y27.1).bind λ y30=>(getI z2.2 y30).bind λ y32=>(appI 9 y32.Af [z2.1]).bind λ y34=>(setI z2.2 y30 (⟨y32.Al,y32.Ac,y34⟩:Aj)).bind λ y36=>some (.next (w64 (z2.1+1),y36)) else some (.next (w64 (z2.1+1),z2.2)) else some (.brk (z2.1,z2.2))
def Alj (x0:Aa) (x1:Ab):Option ((List Aj)):=
 (F44 x0 x1).bind λ y1=>bif (y1 != 0) then some ([]:List Aj) else (Aaz x0 x1).bind λ y4=>(mkI 73 x0.Al (⟨([]:List Int),([]:List Int),([]:List Int)⟩:Aj)).bind λ y6=>andThen (foldI Adw y4 0 y6) (λ _=>none) λ z0=>andThen (whileN (Adv x0 x1 y4) 1152921504606846976 (0,z0)) (λ _=>none) λ z1=>andThen (whileN (Adu x0 x1 y4) 1152921504606846976 (0,z1.2)) (λ _=>none) λ z2=>(Q7 z2.2).bind λ y38=>some y38
def Zc (y1:Int) (y3:Int) (y5:A3):Bool:=decide ((min y1 (w64 (y3-y5.Least)))>0)
def Wa (x0:Ax) (x2:Int) (n0:Nat) (a0:Int) (z0:(List Int)×(List Ak)):Option (Ctl ((List Int)×(List Ak)) Unit):=
 (Q6 (⟨x0.An,(⟨x0.Aq.Ae,x0.Aq.Ac,z0.1,x0.Aq.Ai⟩:Ab),z0.2⟩:Ax) x2).bind λ y1=>(getI z0.1 a0).bind λ y3=>(getI x0.An.Af a0).bind λ y5=>bif (Zc y1 y3 y5) then (setI z0.1 a0 (w64 (y3-(min y1 (w64 (y3-y5.Least)))))).bind λ y8=>(getI y8 a0).bind λ y10=>(appI 25 z0.2 [(⟨5,a0,y10⟩:Ak)]).bind λ y12=>some (.next (y8,y12)) else some (.next (z0.1,z0.2))
def Q_ (x0:Ax) (x1:List Int) (x2:Int):Option Ax:=
 andThen (foldI (Wa x0 x2) x1 0 (x0.Aq.Am,x0.acts)) (λ _=>none) λ z0=>some (⟨x0.An,(⟨x0.Aq.Ae,x0.Aq.Ac,z0.1,x0.Aq.Ai⟩:Ab),z0.2⟩:Ax)
def V2 (x0:Ah) (x1:Int):Bool:=
 ((x0.Kind==3)&&(x0.B==x1))
def Wf (x0:Ax) (x1c0:Int) (n0:Nat) (a0:Ah) (z0:(List Int)):Option (Ctl ((List Int)) Unit):=
 (getI x0.Aq.Ae (cnt 0 n0)).bind λ y1=>bif (y1&&(V2 a0 x1c0)) then (appI 9 z0 [cnt 0 n0]).bind λ y4=>some (.next y4) else some (.next z0)
def Adx (n1:Nat) (a1:Int) (z1:Sg7):Option (Ctl (Sg7) Unit):=
 (Oe (⟨(⟨z1.1,z1.2.1,z1.2.2.1,z1.2.2.2.1,z1.2.2.2.2.1,z1.2.2.2.2.2.1⟩:Aa),(⟨z1.2.2.2.2.2.2.1,z1.2.2.2.2.2.2.2.1,z1.2.2.2.2.2.2.2.2.1,z1.2.2.2.2.2.2.2.2.2.1⟩:Ab),z1.2.2.2.2.2.2.2.2.2.2⟩:Ax) a1).bind λ y6=>some (.next (y6.An.Al,y6.An.Ad,y6.An.Ac,y6.An.Af,y6.An.Phase,y6.An.Ar,y6.Aq.Ae,y6.Aq.Ac,y6.Aq.Am,y6.Aq.Ai,y6.acts))
def Wg (x0:Ax) (x1c0:Int):Option (Ax×Int):=
 andThen (foldI (Wf x0 x1c0) x0.An.Ad 0 ([]:List Int)) (λ _=>none) λ z0=>andThen (foldI Adx z0 0 (x0.An.Al,x0.An.Ad,x0.An.Ac,x0.An.Af,x0.An.Phase,x0.An.Ar,x0.Aq.Ae,x0.Aq.Ac,x0.Aq.Am,x0.Aq.Ai,x0.acts)) (λ _=>none) λ z1=>some ((⟨(⟨z1.1,z1.2.1,z1.2.2.1,z1.2.2.2.1,z1.2.2.2.2.1,z1.2.2.2.2.2.1⟩:Aa),(⟨z1.2.2.2.2.2.2.1,z1.2.2.2.2.2.2.2.1,z1.2.2.2.2.2.2.2.2.1,z1.2.2.2.2.2.2.2.2.2.1⟩:Ab),z1.2.2.2.2.2.2.2.2.2.2⟩:Ax),x1c0)
def V_ (x2:Int) (n0:Nat) (a0:Int) (z0:Sg7):Option (Ctl (Sg7) Unit):=
 (getI z0.2.2.2.2.2.2.2.2.1 a0).bind λ y1=>(Az [(decide (y1>0),true)] (Q6 (⟨(⟨z0.1,z0.2.1,z0.2.2.1,z0.2.2.2.1,z0.2.2.2.2.1,z0.2.2.2.2.2.1⟩:Aa),(⟨z0.2.2.2.2.2.2.1,z0.2.2.2.2.2.2.2.1,z0.2.2.2.2.2.2.2.2.1,z0.2.2.2.2.2.2.2.2.2.1⟩:Ab),z0.2.2.2.2.2.2.2.2.2.2⟩:Ax) x2) default).bind λ y3=>bif ((decide (y1>0))&&(decide (y3>0))) then (Wg (⟨(⟨z0.1,z0.2.1,z0.2.2.1,z0.2.2.2.1,z0.2.2.2.2.1,z0.2.2.2.2.2.1⟩:Aa),(⟨z0.2.2.2.2.2.2.1,z0.2.2.2.2.2.2.2.1,z0.2.2.2.2.2.2.2.2.1,z0.2.2.2.2.2.2.2.2.2.1⟩:Ab),z0.2.2.2.2.2.2.2.2.2.2⟩:Ax) a0).bind λ y6=>some (.next (y6.1.An.Al,y6.1.An.Ad,y6.1.An.Ac,y6.1.An.Af,y6.1.An.Phase,y6.1.An.Ar,y6.1.Aq.Ae,y6.1.Aq.Ac,y6.1.Aq.Am,y6.1.Aq.Ai,y6.1.acts)) else some (.next (z0.1,z0.2.1,z0.2.2.1,z0.2.2.2.1,z0.2.2.2.2.1,z0.2.2.2.2.2.1,z0.2.2.2.2.2.2.1,z0.2.2.2.2.2.2.2.1,z0.2.2.2.2.2.2.2.2.1,z0.2.2.2.2.2.2.2.2.2.1,z0.2.2.2.2.2.2.2.2.2.2))
def Q9 (x0:Ax) (x1:List Int) (x2:Int):Option Ax:=
 andThen (foldI (V_ x2) x1 0 (x0.An.Al,x0.An.Ad,x0.An.Ac,x0.An.Af,x0.An.Phase,x0.An.Ar,x0.Aq.Ae,x0.Aq.Ac,x0.Aq.Am,x0.Aq.Ai,x0.acts)) (λ _=>none) λ z0=>some (⟨(⟨z0.1,z0.2.1,z0.2.2.1,z0.2.2.2.1,z0.2.2.2.2.1,z0.2.2.2.2.2.1⟩:Aa),(⟨z0.2.2.2.2.2.2.1,z0.2.2.2.2.2.2.2.1,z0.2.2.2.2.2.2.2.2.1,z0.2.2.2.2.2.2.2.2.2.1⟩:Ab),z0.2.2.2.2.2.2.2.2.2.2⟩:Ax)
def Zt (y1:(List Int)) (n0:Nat) (a0:Aj) (z0:Sg7):Option (Ctl (Sg7) Unit):=
 (F80 y1).bind λ y5=>(Wc y5 a0).bind λ y7=>bif decide ((y7.2.Ac.length:Int)>0) then (getI y7.2.Al 0).bind λ y10=>(Q_ (⟨(⟨z0.1,z0.2.1,z0.2.2.1,z0.2.2.2.1,z0.2.2.2.2.1,z0.2.2.2.2.2.1⟩:Aa),(⟨z0.2.2.2.2.2.2.1,z0.2.2.2.2.2.2.2.1,z0.2.2.2.2.2.2.2.2.1,z0.2.2.2.2.2.2.2.2.2.1⟩:Ab),z0.2.2.2.2.2.2.2.2.2.2⟩:Ax) y7.1 y10).bind λ y12=>(getI y7.2.Al 0).bind λ y14=>(Q9 y12 y7.1 y14).bind λ y16=>some (.next (y16.An.Al,y16.An.Ad,y16.An.Ac,y16.An.Af,y16.An.Phase,y16.An.Ar,y16.Aq.Ae,y16.Aq.Ac,y16.Aq.Am,y16.Aq.Ai,y16.acts)) else some (.next (z0.1,z0.2.1,z0.2.2.1,z0.2.2.2.1,z0.2.2.2.2.1,z0.2.2.2.2.2.1,z0.2.2.2.2.2.2.1,z0.2.2.2.2.2.2.2.1,z0.2.2.2.2.2.2.2.2.1,z0.2.2.2.2.2.2.2.2.2.1,z0.2.2.2.2.2.2.2.2.2.2))
def Xr (x0:Ax):Option Ax:=
 (F85 x0.An).bind λ y1=>(Alj x0.An x0.Aq).bind λ y3=>andThen (foldI (Zt y1) y3 0 (x0.An.Al,x0.An.Ad,x0.An.Ac,x0.An.Af,x0.An.Phase,x0.An.Ar,x0.Aq.Ae,x0.Aq.Ac,x0.Aq.Am,x0.Aq.Ai,x0.acts)) (λ _=>none) λ z0=>some (⟨(⟨z0.1,z0.2.1,z0.2.2.1,z0.2.2.2.1,z0.2.2.2.2.1,z0.2.2.2.2.2.1⟩:Aa),(⟨z0.2.2.2.2.2.2.1,z0.2.2.2.2.2.2.2.1,z0.2.2.2.2.2.2.2.2.1,z0.2.2.2.2.2.2.2.2.2.1⟩:Ab),z0.2.2.2.2.2.2.2.2.2.2⟩:Ax)
def Ae6 (x0:Ax):Option Ax:=
 (vO x0).bind λ y1=>(Xr y1).bind λ y3=>some y3
def Ae7 (x0:Aa) (x1:Ab):Option (Ab×(List Ak)×Int):=
 (F44 x0 x1).bind λ y1=>bif (y1 != 0) then some ((⟨([]:List Bool),([]:List Ag),([]:List Int),([]:List As)⟩:Ab),([]:List Ak),y1) else (F35 x1).bind λ y4=>(Ae6 (⟨x0,y4,([]:List Ak)⟩:Ax)).bind λ y6=>some (y6.Aq,y6.acts,0)
def F31 (x0:Aa) (x1:Ab):Option (Ab×(List Ak)×Int):=
 (Ae7 x0 x1).bind λ y1=>some (y1.1,y1.2.1,y1.2.2)
def vN (x1:List Bool) (n0:Nat) (a0:Bool) (z0:Unit):Option (Ctl Unit Bool):=
 (getI x1 (cnt 0 n0)).bind λ y2=>bif !(a0==y2) then some (.ret false) else some (.next ())
def F72 (x0:List Bool) (x1:List Bool):Option Bool:=
 bif ((x0.length:Int) != (x1.length:Int)) then some false else andThen (foldI (vN x1) x0 0 ()) some λ z0=>some true
def A1o (a0:Ag) (y2:Ag):Bool:=!((a0.State==y2.State)&&((a0.Since==y2.Since)&&((a0.Ar==y2.Ar)&&((a0.Phase==y2.Phase)&&true))))
def vM (x1:List Ag) (n0:Nat) (a0:Ag) (z0:Unit):Option (Ctl Unit Bool):=
 (getI x1 (cnt 0 n0)).bind λ y2=>bif (A1o a0 y2) then some (.ret false) else some (.next ())
def F73 (x0:List Ag) (x1:List Ag):Option Bool:=
 bif ((x0.length:Int) != (x1.length:Int)) then some false else andThen (foldI (vM x1) x0 0 ()) some λ z0=>some true
def vL (x1:List Int) (n0:Nat) (a0:Int) (z0:Unit):Option (Ctl Unit Bool):=
 (getI x1 (cnt 0 n0)).bind λ y2=>bif (a0 != y2) then some (.ret false) else some (.next ())
def F74 (x0:List Int) (x1:List Int):Option Bool:=
 bif ((x0.length:Int) != (x1.length:Int)) then some false else andThen (foldI (vL x1) x0 0 ()) some λ z0=>some true
def A1n (a0:As) (y2:As):Bool:=!((a0.Kind==y2.Kind)&&((a0.Number==y2.Number)&&true))
def vK (x1:List As) (n0:Nat) (a0:As) (z0:Unit):Option (Ctl Unit Bool):=
 (getI x1 (cnt 0 n0)).bind λ y2=>bif (A1n a0 y2) then some (.ret false) else some (.next ())
def F75 (x0:List As) (x1:List As):Option Bool:=
 bif ((x0.length:Int) != (x1.length:Int)) then some false else andThen (foldI (vK x1) x0 0 ()) some λ z0=>some true
def F32 (x0:Ab) (x1:Ab):Option Bool:=
 (F72 x0.Ae x1.Ae).bind λ y1=>(Az [(y1,true)] (F73 x0.Ac x1.Ac) default).bind λ y3=>(Az [((y1&&y3),true)] (F74 x0.Am x1.Am) default).bind λ y5=>(Az [(((y1&&y3)&&y5),true)] (F75 x0.Ai x1.Ai) default).bind λ y7=>some (((y1&&y3)&&y5)&&y7)
def Ap4 (a0:Ah) (y1:Bool) (y3:Bool) (y5:Bool):Bool:=((((a0.Kind==1)&&y1)&&y3)&&(!y5))
def Ak4 (x0:Aa) (x1:Ab) (n0:Nat) (a0:Ah) (z0:Unit):Option (Ctl Unit Bool):=
 (Az [((a0.Kind==1),true)] (getI x1.Ae (cnt 0 n0)) default).bind λ y1=>(Az [(((a0.Kind==1)&&y1),true)] (F76 x1 2 (cnt 0 n0)) default).bind λ y3=>(Az [((((a0.Kind==1)&&y1)&&y3),true)] (F58 x0 x1 a0.A) default).bind λ y5=>bif (Ap4 a0 y1 y3 y5) then some (.ret true) else some (.next ())
def F33 (x0:Aa) (x1:Ab):Option Bool:=
 andThen (foldI (Ak4 x0 x1) x0.Ad 0 ()) some λ z0=>some false
def yG (x0:Ah) (x1:Int):Bool:=
 ((x0.Kind==2)&&(x0.B==x1))
def Pn (x1c0:Int) (n0:Nat) (a0:Ah) (z0:Unit):Option (Ctl Unit (Int×Int)):=
 bif yG a0 x1c0 then some (.ret (cnt 0 n0,x1c0)) else some (.next ())
def yH (x0:List Ah) (x1c0:Int):Option (Int×Int):=
 andThen (foldI (Pn x1c0) x0 0 ()) some λ z0=>some ((-1),x1c0)
def F56 (x0:Aa) (x1:Int):Option Int:=
 (yH x0.Ad x1).bind λ y1=>some y1.1
def F57 (x0:Aa) (x1:Ab) (x2:Int):Option Bool:=
 (getI x0.Ad x2).bind λ y1=>(F76 x1 2 x2).bind λ y3=>(Az [(!y3,true)] (F76 x1 3 y1.A) default).bind λ y5=>(Az [(((!y3)&&(!y5)),true),((y1.Kind != 1),false)] (F76 x1 3 y1.B) default).bind λ y7=>some (((!y3)&&(!y5))&&((y1.Kind != 1) || (!y7)))
def F55 (x0:Aa) (x1:Ab) (x2:Int):Option Bool:=
 (F56 x0 x2).bind λ y1=>(F57 x0 x1 y1).bind λ y3=>(Az [(y3,true)] (F76 x1 1 x2) default).bind λ y5=>(Az [((y3&&(!y5)),true)] (getI x1.Ac x2) default).bind λ y7=>some ((y3&&(!y5))&&(y7.State != 3))
def A1v (x0:Aa) (z0:Int×(List Bool)):Bool:=decide (z0.1<(x0.Ac.length:Int))
def Ak9 (x0:Aa) (x1:Ab) (z0:Int×(List Bool)):Option (Ctl (Int×(List Bool)) Unit):=
 bif (A1v x0 z0) then (F55 x0 x1 z0.1).bind λ y7=>bif y7 then (F56 x0 z0.1).bind λ y10=>(getI x0.Ad y10).bind λ y12=>(getI z0.2 y12.A).bind λ y14=>(setI z0.2 y12.A true).bind λ y16=>some (.next (w64 (z0.1+1),y16)) else some (.next (w64 (z0.1+1),z0.2)) else some (.brk (z0.1,z0.2))
def vY (x0:Aa) (x1:Ab) (n2:Nat) (a2:Ah) (z2:(List Bool)):Option (Ctl ((List Bool)) Unit):=
 (Az [((a2.Kind==1),true)] (F57 x0 x1 (cnt 0 n2)) default).bind λ y19=>bif ((a2.Kind==1)&&y19) then (getI z2 a2.A).bind λ y22=>(Az [(y22,false)] (getI z2 a2.B) default).bind λ y24=>(setI z2 a2.A (y22 || y24)).bind λ y26=>(getI y26 a2.B).bind λ y28=>(setI y26 a2.B (y22 || y24)).bind λ y30=>some (.next y30) else some (.next z2)
def Ak8 (x0:Aa) (x1:Ab) (z1:Int×(List Bool)):Option (Ctl (Int×(List Bool)) Unit):=
 bif decide (z1.1<x0.Al) then andThen (foldI (vY x0 x1) x0.Ad 0 z1.2) (λ _=>none) λ z2=>some (.next (w64 (z1.1+1),z2)) else some (.brk (z1.1,z1.2))
def F23 (x0:Aa) (x1:Ab):Option ((List Bool)):=
 (F44 x0 x1).bind λ y1=>bif (y1 != 0) then some ([]:List Bool) else (mkI 2 x0.Al false).bind λ y4=>andThen (whileN (Ak9 x0 x1) 1152921504606846976 (0,y4)) (λ _=>none) λ z0=>andThen (whileN (Ak8 x0 x1) 1152921504606846976 (0,z0.2)) (λ _=>none) λ z1=>some z1.2
def Akq (x1:Bool) (n0:Nat) (a0:Bool) (z0:Unit):Option (Ctl Unit Int):=
 bif (x1==a0) then some (.ret (cnt 0 n0)) else some (.next ())
def F77 (x0:List Bool) (x1:Bool):Option Int:=
 andThen (foldI (Akq x1) x0 0 ()) some λ z0=>some (-1)
def F34 (x0:List Bool) (x1:Bool):Option Bool:=
 (F77 x0 x1).bind λ y1=>some (decide (y1>=0))
def Ak7 (x0:Aa) (x1:Ab) (n0:Nat) (a0:Bool) (z0:Unit):Option (Ctl Unit Bool):=
 (Az [(a0,true)] (F58 x0 x1 (cnt 0 n0)) default).bind λ y3=>bif (a0&&(!y3)) then some (.ret false) else some (.next ())
def F24 (x0:Aa) (x1:Ab):Option Bool:=
 (F23 x0 x1).bind λ y1=>andThen (foldI (Ak7 x0 x1) y1 0 ()) some λ z0=>(F44 x0 x1).bind λ y6=>some (y6==0)
def Lq (x0:Ay) (x1:Int):Option Bool:=
 (F58 x0.An x0.Aq x1).bind λ y1=>some y1
def Ph (x0:Ay) (x1:Int) (x2:Int):Option Ay:=
 (appI 25 x0.acts [(⟨x1,x2,0⟩:Ak)]).bind λ y1=>(getI x0.Aq.Ae x2).bind λ y3=>(setI x0.Aq.Ae x2 (x1==1)).bind λ y5=>some (⟨x0.An,(⟨y5,x0.Aq.Ac,x0.Aq.Am,x0.Aq.Ai⟩:Ab),x0.goal,y1⟩:Ay)
def Aaj (a0:Ah) (y1:Bool) (y3:Bool) (y5:Bool):Bool:=((((a0.Kind != 2)&&y1)&&(!y3))&&(!y5))
def Z0 (x0:Ay) (n0:Nat) (a0:Ah) (z0:(List Int)):Option (Ctl ((List Int)) Unit):=
 (Az [((a0.Kind != 2),true)] (getI x0.Aq.Ae (cnt 0 n0)) default).bind λ y1=>(Az [(((a0.Kind != 2)&&y1),true)] (F76 x0.Aq 2 (cnt 0 n0)) default).bind λ y3=>(Az [((((a0.Kind != 2)&&y1)&&(!y3)),true)] (Lq x0 a0.A) default).bind λ y5=>bif (Aaj a0 y1 y3 y5) then (appI 9 z0 [cnt 0 n0]).bind λ y8=>some (.next y8) else some (.next z0)
def Zz (n1:Nat) (a1:Int) (z1:Sg6):Option (Ctl (Sg6) Unit):=
 (Ph (⟨(⟨z1.1,z1.2.1,z1.2.2.1,z1.2.2.2.1,z1.2.2.2.2.1,z1.2.2.2.2.2.1⟩:Aa),(⟨z1.2.2.2.2.2.2.1,z1.2.2.2.2.2.2.2.1,z1.2.2.2.2.2.2.2.2.1,z1.2.2.2.2.2.2.2.2.2.1⟩:Ab),z1.2.2.2.2.2.2.2.2.2.2.1,z1.2.2.2.2.2.2.2.2.2.2.2⟩:Ay) 2 a1).bind λ y10=>some (.next (y10.An.Al,y10.An.Ad,y10.An.Ac,y10.An.Af,y10.An.Phase,y10.An.Ar,y10.Aq.Ae,y10.Aq.Ac,y10.Aq.Am,y10.Aq.Ai,y10.goal,y10.acts))
def Xs (x0:Ay):Option Ay:=
 andThen (foldI (Z0 x0) x0.An.Ad 0 ([]:List Int)) (λ _=>none) λ z0=>andThen (foldI Zz z0 0 (x0.An.Al,x0.An.Ad,x0.An.Ac,x0.An.Af,x0.An.Phase,x0.An.Ar,x0.Aq.Ae,x0.Aq.Ac,x0.Aq.Am,x0.Aq.Ai,x0.goal,x0.acts)) (λ _=>none) λ z1=>some (⟨(⟨z1.1,z1.2.1,z1.2.2.1,z1.2.2.2.1,z1.2.2.2.2.1,z1.2.2.2.2.2.1⟩:Aa),(⟨z1.2.2.2.2.2.2.1,z1.2.2.2.2.2.2.2.1,z1.2.2.2.2.2.2.2.2.1,z1.2.2.2.2.2.2.2.2.2.1⟩:Ab),z1.2.2.2.2.2.2.2.2.2.2.1,z1.2.2.2.2.2.2.2.2.2.2.2⟩:Ay)
def Arl (x0:Int) (x1:Int):Int×Int:=
 (IntKind.wrap .u64 ((IntKind.wrap .u64 ((IntKind.wrap .u64 ((H7 .u64 x0 32)*(H7 .u64 x1 32)))+(H7 .u64 (IntKind.wrap .u64 ((IntKind.wrap .u64 ((H7 .u64 x0 32)*(Py .u64 x1 4294967295)))+(H7 .u64 (IntKind.wrap .u64 ((Py .u64 x0 4294967295)*(Py .u64 x1 4294967295))) 32))) 32)))+(H7 .u64 (IntKind.wrap .u64 ((Py .u64 (IntKind.wrap .u64 ((IntKind.wrap .u64 ((H7 .u64 x0 32)*(Py .u64 x1 4294967295)))+(H7 .u64 (IntKind.wrap .u64 ((Py .u64 x0 4294967295)*(Py .u64 x1 4294967295))) 32))) 4294967295)+(IntKind.wrap .u64 ((Py .u64 x0 4294967295)*(H7 .u64 x1 32))))) 32)),IntKind.wrap .u64 (x0*x1))
def Ts (x0:Int) (x1:Int):Int×Int:=
 ((Arl x0 x1).1,(Arl x0 x1).2)
def Ako (x1:Int):Option (Ctl Unit Unit):=
 bif decide (x1<0) then none else some (.next ())
def A1m (x0:List Ak) (x1:Int):Bool:=((decide (((Ts (IntKind.wrap .u64 (x0.length:Int)) (IntKind.wrap .u64 x1)).1)>0)) || (decide (((Ts (IntKind.wrap .u64 (x0.length:Int)) (IntKind.wrap .u64 x1)).2)>9223372036854775807)))
def Akn (x0:List Ak) (x1:Int):Option (Ctl Unit Unit):=
 bif (A1m x0 x1) then none else some (.next ())
def A1l (z2:Int×(List Ak)):Bool:=decide (z2.1<(z2.2.length:Int))
def Akp (z2:Int×(List Ak)):Option (Ctl (Int×(List Ak)) Unit):=
 bif (A1l z2) then (bndI z2.2.length z2.1 (z2.2.length:Int)).bind λ u7=>(bndI z2.2.length 0 z2.1).bind λ u9=>some (.next (w64 (z2.1+((Nat.min ((z2.2.drop 0).take ((Int.toNat z2.1)-0)).length ((Int.toNat (z2.2.length:Int))-(Int.toNat z2.1))):Int)),(I8 z2.2 (Int.toNat z2.1) ((Int.toNat (z2.2.length:Int))-(Int.toNat z2.1)) ((z2.2.drop 0).take ((Int.toNat z2.1)-0))))) else some (.brk (z2.1,z2.2))
def F83 (x0:List Ak) (x1:Int):Option ((List Ak)):=
 andThen (Ako x1) (λ _=>none) λ z0=>andThen (Akn x0 x1) (λ _=>none) λ z1=>(mkI 25 (w64 ((Ts (IntKind.wrap .u64 (x0.length:Int)) (IntKind.wrap .u64 x1)).2)) (⟨0,0,0⟩:Ak)).bind λ y3=>andThen (whileN Akp 1152921504606846976 (((Nat.min x0.length y3.length):Int),(I8 y3 0 y3.length x0))) (λ _=>none) λ z2=>some z2.2
def Zy (x0:Ay) (n0:Nat) (a0:Ag) (z0:Sg9):Option (Ctl (Sg9) Unit):=
 (getI z0.2.1 (cnt 0 n0)).bind λ y1=>(F55 x0.An (⟨x0.Aq.Ae,z0.2.1,x0.Aq.Am,x0.Aq.Ai⟩:Ab) (cnt 0 n0)).bind λ y3=>(Az [(!y3,false)] (F56 x0.An (cnt 0 n0)) default).bind λ y5=>(Az [(!y3,false)] (getI x0.An.Ad y5) default).bind λ y7=>(Az [(!y3,false)] (Lq (⟨x0.An,(⟨x0.Aq.Ae,z0.2.1,x0.Aq.Am,x0.Aq.Ai⟩:Ab),x0.goal,z0.2.2⟩:Ay) y7.A) default).bind λ y9=>bif ((!y3) || y9) then some (.next (z0.1,z0.2.1,z0.2.2)) else bif (y1.State==0) then (appI 25 z0.2.2 [(⟨3,cnt 0 n0,0⟩:Ak)]).bind λ y13=>(getI x0.An.Ac (cnt 0 n0)).bind λ y15=>(setI z0.2.1 (cnt 0 n0) (⟨2,y1.Since,y1.Ar,y1.Phase⟩:Ag)).bind λ y17=>some (.next (max z0.1 y15.Start,y17,y13)) else bif (y1.State==1) then (getI x0.An.Ac (cnt 0 n0)).bind λ y20=>(setI z0.2.1 (cnt 0 n0) (⟨2,y1.Since,y1.Ar,y1.Phase⟩:Ag)).bind λ y22=>some (.next (max (max z0.1 y20.Start) 1,y22,z0.2.2)) else (setI z0.2.1 (cnt 0 n0) (⟨2,y1.Since,y1.Ar,y1.Phase⟩:Ag)).bind λ y24=>some (.next (z0.1,y24,z0.2.2))
def vT (x0:Ay):Option Ay:=
 andThen (foldI (Zy x0) x0.Aq.Ac 0 (0,x0.Aq.Ac,x0.acts)) (λ _=>none) λ z0=>(F83 [(⟨7,0,0⟩:Ak)] z0.1).bind λ y26=>(appI 25 z0.2.2 y26).bind λ y28=>some (⟨x0.An,(⟨x0.Aq.Ae,z0.2.1,x0.Aq.Am,x0.Aq.Ai⟩:Ab),x0.goal,y28⟩:Ay)
def Ano (z0:Il) (z1:Il):Bool:=decide (z1.1<(z0.2.2.2.1.length:Int))
def Zw (z0:Il) (z1:Il):Option (Ctl (Il) Unit):=
 bif (Ano z0 z1) then (F56 (⟨z1.2.1,z1.2.2.1,z1.2.2.2.1,z1.2.2.2.2.1,z1.2.2.2.2.2.1,z1.2.2.2.2.2.2.1⟩:Aa) z1.1).bind λ y3=>(getI z1.2.2.1 y3).bind λ y5=>(Az [((y5.A==z0.1),true)] (F55 (⟨z1.2.1,z1.2.2.1,z1.2.2.2.1,z1.2.2.2.2.1,z1.2.2.2.2.2.1,z1.2.2.2.2.2.2.1⟩:Aa) (⟨z1.2.2.2.2.2.2.2.1,z1.2.2.2.2.2.2.2.2.1,z1.2.2.2.2.2.2.2.2.2.1,z1.2.2.2.2.2.2.2.2.2.2.1⟩:Ab) z1.1) default).bind λ y7=>(Az [(((y5.A==z0.1)&&y7),true)] (Lq (⟨(⟨z1.2.1,z1.2.2.1,z1.2.2.2.1,z1.2.2.2.2.1,z1.2.2.2.2.2.1,z1.2.2.2.2.2.2.1⟩:Aa),(⟨z1.2.2.2.2.2.2.2.1,z1.2.2.2.2.2.2.2.2.1,z1.2.2.2.2.2.2.2.2.2.1,z1.2.2.2.2.2.2.2.2.2.2.1⟩:Ab),z1.2.2.2.2.2.2.2.2.2.2.2.1,z1.2.2.2.2.2.2.2.2.2.2.2.2⟩:Ay) z0.1) default).bind λ y9=>bif (((y5.A==z0.1)&&y7)&&(!y9)) then (Ph (⟨(⟨z1.2.1,z1.2.2.1,z1.2.2.2.1,z1.2.2.2.2.1,z1.2.2.2.2.2.1,z1.2.2.2.2.2.2.1⟩:Aa),(⟨z1.2.2.2.2.2.2.2.1,z1.2.2.2.2.2.2.2.2.1,z1.2.2.2.2.2.2.2.2.2.1,z1.2.2.2.2.2.2.2.2.2.2.1⟩:Ab),z1.2.2.2.2.2.2.2.2.2.2.2.1,z1.2.2.2.2.2.2.2.2.2.2.2.2⟩:Ay) 1 y3).bind λ y12=>some (.next (w64 (z1.1+1),y12.An.Al,y12.An.Ad,y12.An.Ac,y12.An.Af,y12.An.Phase,y12.An.Ar,y12.Aq.Ae,y12.Aq.Ac,y12.Aq.Am,y12.Aq.Ai,y12.goal,y12.acts)) else some (.next (w64 (z1.1+1),z1.2.1,z1.2.2.1,z1.2.2.2.1,z1.2.2.2.2.1,z1.2.2.2.2.2.1,z1.2.2.2.2.2.2.1,z1.2.2.2.2.2.2.2.1,z1.2.2.2.2.2.2.2.2.1,z1.2.2.2.2.2.2.2.2.2.1,z1.2.2.2.2.2.2.2.2.2.2.1,z1.2.2.2.2.2.2.2.2.2.2.2.1,z1.2.2.2.2.2.2.2.2.2.2.2.2)) else some (.brk (z1.1,z1.2.1,z1.2.2.1,z1.2.2.2.1,z1.2.2.2.2.1,z1.2.2.2.2.2.1,z1.2.2.2.2.2.2.1,z1.2.2.2.2.2.2.2.1,z1.2.2.2.2.2.2.2.2.1,z1.2.2.2.2.2.2.2.2.2.1,z1.2.2.2.2.2.2.2.2.2.2.1,z1.2.2.2.2.2.2.2.2.2.2.2.1,z1.2.2.2.2.2.2.2.2.2.2.2.2))
def Zx (x0:Ay) (z0:Il):Option (Ctl (Il) Unit):=
 bif decide (z0.1<x0.An.Al) then andThen (whileN (Zw z0) 1152921504606846976 (0,z0.2.1,z0.2.2.1,z0.2.2.2.1,z0.2.2.2.2.1,z0.2.2.2.2.2.1,z0.2.2.2.2.2.2.1,z0.2.2.2.2.2.2.2.1,z0.2.2.2.2.2.2.2.2.1,z0.2.2.2.2.2.2.2.2.2.1,z0.2.2.2.2.2.2.2.2.2.2.1,z0.2.2.2.2.2.2.2.2.2.2.2.1,z0.2.2.2.2.2.2.2.2.2.2.2.2)) (λ _=>none) λ z1=>some (.next (w64 (z0.1+1),z1.2.1,z1.2.2.1,z1.2.2.2.1,z1.2.2.2.2.1,z1.2.2.2.2.2.1,z1.2.2.2.2.2.2.1,z1.2.2.2.2.2.2.2.1,z1.2.2.2.2.2.2.2.2.1,z1.2.2.2.2.2.2.2.2.2.1,z1.2.2.2.2.2.2.2.2.2.2.1,z1.2.2.2.2.2.2.2.2.2.2.2.1,z1.2.2.2.2.2.2.2.2.2.2.2.2)) else some (.brk (z0.1,z0.2.1,z0.2.2.1,z0.2.2.2.1,z0.2.2.2.2.1,z0.2.2.2.2.2.1,z0.2.2.2.2.2.2.1,z0.2.2.2.2.2.2.2.1,z0.2.2.2.2.2.2.2.2.1,z0.2.2.2.2.2.2.2.2.2.1,z0.2.2.2.2.2.2.2.2.2.2.1,z0.2.2.2.2.2.2.2.2.2.2.2.1,z0.2.2.2.2.2.2.2.2.2.2.2.2))
def vS (x0:Ay):Option Ay:=
 andThen (whileN (Zx x0) 1152921504606846976 (0,x0.An.Al,x0.An.Ad,x0.An.Ac,x0.An.Af,x0.An.Phase,x0.An.Ar,x0.Aq.Ae,x0.Aq.Ac,x0.Aq.Am,x0.Aq.Ai,x0.goal,x0.acts)) (λ _=>none) λ z0=>some (⟨(⟨z0.2.1,z0.2.2.1,z0.2.2.2.1,z0.2.2.2.2.1,z0.2.2.2.2.2.1,z0.2.2.2.2.2.2.1⟩:Aa),(⟨z0.2.2.2.2.2.2.2.1,z0.2.2.2.2.2.2.2.2.1,z0.2.2.2.2.2.2.2.2.2.1,z0.2.2.2.2.2.2.2.2.2.2.1⟩:Ab),z0.2.2.2.2.2.2.2.2.2.2.2.1,z0.2.2.2.2.2.2.2.2.2.2.2.2⟩:Ay)
def Xf (a0:Ah) (y1:Bool) (y3:Bool) (y5:Bool) (y7:Bool) (y9:Bool):Bool:=(((((a0.Kind==1)&&(!y1))&&y3)&&y5)&&(!(y7==y9)))
def Zv (x0:Ay) (n0:Nat) (a0:Ah) (z0:Unit):Option (Ctl Unit (Int×Bool)):=
 (Az [((a0.Kind==1),true)] (getI x0.Aq.Ae (cnt 0 n0)) default).bind λ y1=>(Az [(((a0.Kind==1)&&(!y1)),true)] (F57 x0.An x0.Aq (cnt 0 n0)) default).bind λ y3=>(Az [((((a0.Kind==1)&&(!y1))&&y3),true)] (getI x0.goal a0.A) default).bind λ y5=>(Az [(((((a0.Kind==1)&&(!y1))&&y3)&&y5),true)] (Lq x0 a0.A) default).bind λ y7=>(Az [(((((a0.Kind==1)&&(!y1))&&y3)&&y5),true)] (Lq x0 a0.B) default).bind λ y9=>bif (Xf a0 y1 y3 y5 y7 y9) then some (.ret (cnt 0 n0,true)) else some (.next ())
def vR (x0:Ay):Option (Int×Bool):=
 andThen (foldI (Zv x0) x0.An.Ad 0 ()) some λ z0=>some (0,false)
def F86 (x0:Aa) (x1:Ab) (x2:Int):Option (Int×Bool):=
 (F44 x0 x1).bind λ y1=>bif (y1 != 0) then some (0,false) else (Z5 x0 x1 x2).bind λ y4=>some (y4.1,y4.2)
def Qv (a0:(Int×Int)) (a1:Ah) (y10:Bool) (y12:Bool):Bool:=((((a1.Kind != 3) || (a1.B != a0.2)) || (!y10)) || (!y12))
def Zu (a0:(Int×Int)) (n1:Nat) (a1:Ah) (z1:Sg6):Option (Ctl (Sg6) Unit):=
 (Az [(((a1.Kind != 3) || (a1.B != a0.2)),false)] (F57 (⟨z1.1,z1.2.1,z1.2.2.1,z1.2.2.2.1,z1.2.2.2.2.1,z1.2.2.2.2.2.1⟩:Aa) (⟨z1.2.2.2.2.2.2.1,z1.2.2.2.2.2.2.2.1,z1.2.2.2.2.2.2.2.2.1,z1.2.2.2.2.2.2.2.2.2.1⟩:Ab) (cnt 0 n1)) default).bind λ y10=>(Az [((((a1.Kind != 3) || (a1.B != a0.2)) || (!y10)),false)] (Lq (⟨(⟨z1.1,z1.2.1,z1.2.2.1,z1.2.2.2.1,z1.2.2.2.2.1,z1.2.2.2.2.2.1⟩:Aa),(⟨z1.2.2.2.2.2.2.1,z1.2.2.2.2.2.2.2.1,z1.2.2.2.2.2.2.2.2.1,z1.2.2.2.2.2.2.2.2.2.1⟩:Ab),z1.2.2.2.2.2.2.2.2.2.2.1,z1.2.2.2.2.2.2.2.2.2.2.2⟩:Ay) a1.A) default).bind λ y12=>bif (Qv a0 a1 y10 y12) then some (.next (z1.1,z1.2.1,z1.2.2.1,z1.2.2.2.1,z1.2.2.2.2.1,z1.2.2.2.2.2.1,z1.2.2.2.2.2.2.1,z1.2.2.2.2.2.2.2.1,z1.2.2.2.2.2.2.2.2.1,z1.2.2.2.2.2.2.2.2.2.1,z1.2.2.2.2.2.2.2.2.2.2.1,z1.2.2.2.2.2.2.2.2.2.2.2)) else (F87 (⟨z1.1,z1.2.1,z1.2.2.1,z1.2.2.2.1,z1.2.2.2.2.1,z1.2.2.2.2.2.1⟩:Aa) (⟨z1.2.2.2.2.2.2.1,z1.2.2.2.2.2.2.2.1,z1.2.2.2.2.2.2.2.2.1,z1.2.2.2.2.2.2.2.2.2.1⟩:Ab) a1.A).bind λ y15=>(getI z1.2.2.2.2.2.2.2.2.1 a0.2).bind λ y17=>(F88 (⟨z1.1,z1.2.1,z1.2.2.1,z1.2.2.2.1,z1.2.2.2.2.1,z1.2.2.2.2.2.1⟩:Aa) (⟨z1.2.2.2.2.2.2.1,z1.2.2.2.2.2.2.2.1,z1.2.2.2.2.2.2.2.2.1,z1.2.2.2.2.2.2.2.2.2.1⟩:Ab) a1.A).bind λ y19=>bif decide ((w64 (y15+y17))<=y19) then (Ph (⟨(⟨z1.1,z1.2.1,z1.2.2.1,z1.2.2.2.1,z1.2.2.2.2.1,z1.2.2.2.2.2.1⟩:Aa),(⟨z1.2.2.2.2.2.2.1,z1.2.2.2.2.2.2.2.1,z1.2.2.2.2.2.2.2.2.1,z1.2.2.2.2.2.2.2.2.2.1⟩:Ab),z1.2.2.2.2.2.2.2.2.2.2.1,z1.2.2.2.2.2.2.2.2.2.2.2⟩:Ay) 1 (cnt 0 n1)).bind λ y22=>some (.brk (y22.An.Al,y22.An.Ad,y22.An.Ac,y22.An.Af,y22.An.Phase,y22.An.Ar,y22.Aq.Ae,y22.Aq.Ac,y22.Aq.Am,y22.Aq.Ai,y22.goal,y22.acts)) else some (.brk (z1.1,z1.2.1,z1.2.2.1,z1.2.2.2.1,z1.2.2.2.2.1,z1.2.2.2.2.2.1,z1.2.2.2.2.2.2.1,z1.2.2.2.2.2.2.2.1,z1.2.2.2.2.2.2.2.2.1,z1.2.2.2.2.2.2.2.2.2.1,z1.2.2.2.2.2.2.2.2.2.2.1,z1.2.2.2.2.2.2.2.2.2.2.2))
def Ti (a0:Int×Int) (z0:Sg6):Option (Ctl (Sg6) Unit):=
 (F86 (⟨z0.1,z0.2.1,z0.2.2.1,z0.2.2.2.1,z0.2.2.2.2.1,z0.2.2.2.2.2.1⟩:Aa) (⟨z0.2.2.2.2.2.2.1,z0.2.2.2.2.2.2.2.1,z0.2.2.2.2.2.2.2.2.1,z0.2.2.2.2.2.2.2.2.2.1⟩:Ab) a0.2).bind λ y5=>(Az [(y5.2,false)] (F76 (⟨z0.2.2.2.2.2.2.1,z0.2.2.2.2.2.2.2.1,z0.2.2.2.2.2.2.2.2.1,z0.2.2.2.2.2.2.2.2.2.1⟩:Ab) 4 a0.2) default).bind λ y7=>bif (y5.2 || y7) then some (.next (z0.1,z0.2.1,z0.2.2.1,z0.2.2.2.1,z0.2.2.2.2.1,z0.2.2.2.2.2.1,z0.2.2.2.2.2.2.1,z0.2.2.2.2.2.2.2.1,z0.2.2.2.2.2.2.2.2.1,z0.2.2.2.2.2.2.2.2.2.1,z0.2.2.2.2.2.2.2.2.2.2.1,z0.2.2.2.2.2.2.2.2.2.2.2)) else andThen (foldI (Zu a0) z0.2.1 0 (z0.1,z0.2.1,z0.2.2.1,z0.2.2.2.1,z0.2.2.2.2.1,z0.2.2.2.2.2.1,z0.2.2.2.2.2.2.1,z0.2.2.2.2.2.2.2.1,z0.2.2.2.2.2.2.2.2.1,z0.2.2.2.2.2.2.2.2.2.1,z0.2.2.2.2.2.2.2.2.2.2.1,z0.2.2.2.2.2.2.2.2.2.2.2)) (λ _=>none) λ z1=>some (.next (z1.1,z1.2.1,z1.2.2.1,z1.2.2.2.1,z1.2.2.2.2.1,z1.2.2.2.2.2.1,z1.2.2.2.2.2.2.1,z1.2.2.2.2.2.2.2.1,z1.2.2.2.2.2.2.2.2.1,z1.2.2.2.2.2.2.2.2.2.1,z1.2.2.2.2.2.2.2.2.2.2.1,z1.2.2.2.2.2.2.2.2.2.2.2))
def vQ (x0:Ay):Option Ay:=
 (F85 x0.An).bind λ y3=>andThen (foldE Ti (bw y3) (x0.An.Al,x0.An.Ad,x0.An.Ac,x0.An.Af,x0.An.Phase,x0.An.Ar,x0.Aq.Ae,x0.Aq.Ac,x0.Aq.Am,x0.Aq.Ai,x0.goal,x0.acts)) (λ _=>none) λ z0=>some (⟨(⟨z0.1,z0.2.1,z0.2.2.1,z0.2.2.2.1,z0.2.2.2.2.1,z0.2.2.2.2.2.1⟩:Aa),(⟨z0.2.2.2.2.2.2.1,z0.2.2.2.2.2.2.2.1,z0.2.2.2.2.2.2.2.2.1,z0.2.2.2.2.2.2.2.2.2.1⟩:Ab),z0.2.2.2.2.2.2.2.2.2.2.1,z0.2.2.2.2.2.2.2.2.2.2.2⟩:Ay)
def Arg (z0:Sg6):Option (Ctl (Sg6) Unit):=
 (vR (⟨(⟨z0.1,z0.2.1,z0.2.2.1,z0.2.2.2.1,z0.2.2.2.2.1,z0.2.2.2.2.2.1⟩:Aa),(⟨z0.2.2.2.2.2.2.1,z0.2.2.2.2.2.2.2.1,z0.2.2.2.2.2.2.2.2.1,z0.2.2.2.2.2.2.2.2.2.1⟩:Ab),z0.2.2.2.2.2.2.2.2.2.2.1,z0.2.2.2.2.2.2.2.2.2.2.2⟩:Ay)).bind λ y26=>bif !y26.2 then some (.brk (z0.1,z0.2.1,z0.2.2.1,z0.2.2.2.1,z0.2.2.2.2.1,z0.2.2.2.2.2.1,z0.2.2.2.2.2.2.1,z0.2.2.2.2.2.2.2.1,z0.2.2.2.2.2.2.2.2.1,z0.2.2.2.2.2.2.2.2.2.1,z0.2.2.2.2.2.2.2.2.2.2.1,z0.2.2.2.2.2.2.2.2.2.2.2)) else (Ph (⟨(⟨z0.1,z0.2.1,z0.2.2.1,z0.2.2.2.1,z0.2.2.2.2.1,z0.2.2.2.2.2.1⟩:Aa),(⟨z0.2.2.2.2.2.2.1,z0.2.2.2.2.2.2.2.1,z0.2.2.2.2.2.2.2.2.1,z0.2.2.2.2.2.2.2.2.2.1⟩:Ab),z0.2.2.2.2.2.2.2.2.2.2.1,z0.2.2.2.2.2.2.2.2.2.2.2⟩:Ay) 1 y26.1).bind λ y29=>some (.next (y29.An.Al,y29.An.Ad,y29.An.Ac,y29.An.Af,y29.An.Phase,y29.An.Ar,y29.Aq.Ae,y29.Aq.Ac,y29.Aq.Am,y29.Aq.Ai,y29.goal,y29.acts))
def F8 (x0:Aa) (x1:Ab):Option ((List Ak)×Int):=
 (F31 x0 x1).bind λ y1=>bif (y1.2.2 != 0) then some (([]:List Ak),y1.2.2) else (F32 x1 y1.1).bind λ y4=>(Az [(!y4,false)] (F33 x0 x1) default).bind λ y6=>bif ((!y4) || y6) then some (([]:List Ak),11) else (F23 x0 x1).bind λ y9=>(F34 y9 true).bind λ y11=>(Az [(!y11,false)] (F24 x0 x1) default).bind λ y13=>bif ((!y11) || y13) then some (([]:List Ak),9) else (F35 x1).bind λ y16=>(F23 x0 x1).bind λ y18=>(Xs (⟨x0,y16,y18,([]:List Ak)⟩:Ay)).bind λ y20=>(vT y20).bind λ y22=>(vS y22).bind λ y24=>andThen (whileN Arg 1152921504606846976 (y24.An.Al,y24.An.Ad,y24.An.Ac,y24.An.Af,y24.An.Phase,y24.An.Ar,y24.Aq.Ae,y24.Aq.Ac,y24.Aq.Am,y24.Aq.Ai,y24.goal,y24.acts)) (λ _=>none) λ z0=>(vQ (⟨(⟨z0.1,z0.2.1,z0.2.2.1,z0.2.2.2.1,z0.2.2.2.2.1,z0.2.2.2.2.2.1⟩:Aa),(⟨z0.2.2.2.2.2.2.1,z0.2.2.2.2.2.2.2.1,z0.2.2.2.2.2.2.2.2.1,z0.2.2.2.2.2.2.2.2.2.1⟩:Ab),z0.2.2.2.2.2.2.2.2.2.2.1,z0.2.2.2.2.2.2.2.2.2.2.2⟩:Ay)).bind λ y31=>some (y31.acts,0)
def F42:Aa×Ab:=
 ((⟨2,[(⟨1,0,1⟩:Ah),(⟨2,1,0⟩:Ah)],[(⟨100,0,3⟩:Be)],([]:List A3),0,0⟩:Aa),(⟨[false,false],[(⟨0,0,5000,0⟩:Ag)],([]:List Int),([]:List As)⟩:Ab))
def Hi (x0:Aa) (x1:Int) (x2:Int):Bool:=
 bif (x1==1) then ((decide (x2>=0))&&(decide (x2<(x0.Ac.length:Int)))) else bif (x1==2) then ((decide (x2>=0))&&(decide (x2<(x0.Ad.length:Int)))) else bif (x1==3) then ((decide (x2>=0))&&(decide (x2<x0.Al))) else bif (x1==4) then ((decide (x2>=0))&&(decide (x2<(x0.Af.length:Int)))) else ((decide (x2>=0))&&(decide (x2<0)))
def Aky (x1:Ak):Option (Ctl Bool Unit):=
 bif (x1.Kind==1) then some (.next (x1.Kind==1)) else some (.next (x1.Kind==2))
def Akx (x1:Ak):Option (Ctl Bool Unit):=
 bif (x1.Kind==3) then some (.next (x1.Kind==3)) else some (.next (x1.Kind==4))
def F62 (x0:Aa) (x1:Ak):Option Bool:=
 andThen (Aky x1) (λ _=>none) λ z0=>bif z0 then some (Hi x0 2 x1.Unit) else andThen (Akx x1) (λ _=>none) λ z1=>bif z1 then some (Hi x0 1 x1.Unit) else bif (x1.Kind==5) then some (Hi x0 4 x1.Unit) else bif (x1.Kind==6) then some ((Hi x0 1 x1.Unit)&&(Hi x0 3 x1.Value)) else bif (x1.Kind==8) then some (Hi x0 x1.Value x1.Unit) else bif (x1.Kind==9) then some (Hi x0 x1.Value x1.Unit) else some true
def Z1 (x0:Aa) (x1:Ab) (x2:Int):Option Bool:=
 (getI x0.Ad x2).bind λ y1=>(getI x1.Ae x2).bind λ y3=>(Az [(y3,false)] (F76 x1 2 x2) default).bind λ y5=>(Az [((y3 || y5),false)] (F76 x1 3 y1.A) default).bind λ y7=>bif ((y3 || y5) || y7) then some false else bif (y1.Kind==1) then (F76 x1 3 y1.B).bind λ y11=>some (!y11) else bif (y1.Kind==2) then (F76 x1 1 y1.B).bind λ y14=>(Az [(!y14,true)] (getI x1.Ac y1.B) default).bind λ y16=>some ((!y14)&&(y16.State==2)) else (F86 x0 x1 y1.B).bind λ y18=>(F76 x1 4 y1.B).bind λ y20=>some ((!y20)&&(!y18.2))
def Mn (x0:Aa) (x1:Ab) (x2:Int):Option (Int×Bool):=
 (Io x0 x1 x2).bind λ y1=>bif ((y1.1.Ac.length:Int)==0) then some (0,false) else (getI y1.1.Ac 0).bind λ y4=>some (y4,true)
def Fe (x0:Int):Int:=
 bif decide ((Int.tmod x0 3600)<0) then w64 ((Int.tmod x0 3600)+3600) else Int.tmod x0 3600
def Avu (x0:Int) (x1:Int):Bool:=decide ((Fe (w64 ((Fe x1)-(Fe x0))))>1800)
def Aav (x0:Int) (x1:Int):Int:=
 bif (Avu x0 x1) then w64 ((Fe (w64 ((Fe x1)-(Fe x0))))-3600) else Fe (w64 ((Fe x1)-(Fe x0)))
def Avv (x1:Ag) (x2:Ag):Bool:=((decide ((min x1.Ar x2.Ar)<0)) || (decide ((max x1.Ar x2.Ar)>6000)))
def Tp (x0:Aa) (x1:Ag) (x2:Ag):Bool:=
 bif (Avv x1 x2) then false else ((decide ((max (w64 (x1.Ar-x2.Ar)) (w64 (x2.Ar-x1.Ar)))<=x0.Ar))&&(decide ((max (Aav x1.Phase x2.Phase) (w64 (0-Aav x1.Phase x2.Phase)))<=x0.Phase)))
def Jn (x0:Aa) (x1:Ab) (x2:Ah):Option Bool:=
 (Mn x0 x1 x2.A).bind λ y1=>bif !y1.2 then some true else bif (x2.Kind==1) then (Mn x0 x1 x2.B).bind λ y5=>(Az [(!y5.2,false)] (getI x1.Ac y1.1) default).bind λ y7=>(Az [(!y5.2,false)] (getI x1.Ac y5.1) default).bind λ y9=>some ((!y5.2) || (Tp x0 y7 y9)) else bif (x2.Kind==2) then (getI x1.Ac y1.1).bind λ y12=>(getI x1.Ac x2.B).bind λ y14=>some (Tp x0 y12 y14) else some true
def Vm (x0:Aa) (x2:Int):Bool:=((decide (x2<0)) || (decide (x2>=(x0.Ad.length:Int))))
def Tr (x0:Aa) (x1:Ab) (x2:Int):Option Int:=
 (F44 x0 x1).bind λ y1=>bif (y1 != 0) then some y1 else bif (Vm x0 x2) then some 10 else (Z1 x0 x1 x2).bind λ y5=>bif !y5 then some 11 else (getI x0.Ad x2).bind λ y8=>(Io x0 x1 y8.A).bind λ y10=>(Az [((y8.Kind==1),true)] (F59 y10.1.Al y8.B) default).bind λ y12=>(Az [(!((y8.Kind==1)&&y12),true)] (Jn x0 x1 y8) default).bind λ y14=>bif ((!((y8.Kind==1)&&y12))&&(!y14)) then some 12 else some 0
def P3 (x0:Aa) (x1:Ab) (x2:Int):Option (Ab×Int):=
 (Tr x0 x1 x2).bind λ y1=>bif (y1 != 0) then some ((⟨([]:List Bool),([]:List Ag),([]:List Int),([]:List As)⟩:Ab),y1) else (F35 x1).bind λ y4=>(getI y4.Ae x2).bind λ y6=>(setI y4.Ae x2 true).bind λ y8=>(Aa7 x0 (⟨y8,y4.Ac,y4.Am,y4.Ai⟩:Ab)).bind λ y10=>some (y10.1,y10.2)
def Ai6 (x0:Aa) (x2:Int):Bool:=((decide (x2<0)) || (decide (x2>=(x0.Ad.length:Int))))
def P2 (x0:Aa) (x1:Ab) (x2:Int):Option (Ab×Int):=
 (F44 x0 x1).bind λ y1=>bif (y1 != 0) then some ((⟨([]:List Bool),([]:List Ag),([]:List Int),([]:List As)⟩:Ab),y1) else bif (Ai6 x0 x2) then some ((⟨([]:List Bool),([]:List Ag),([]:List Int),([]:List As)⟩:Ab),10) else (getI x1.Ae x2).bind λ y5=>(Az [(!y5,false)] (F76 x1 2 x2) default).bind λ y7=>bif ((!y5) || y7) then some ((⟨([]:List Bool),([]:List Ag),([]:List Int),([]:List As)⟩:Ab),11) else (F35 x1).bind λ y10=>(getI y10.Ae x2).bind λ y12=>(setI y10.Ae x2 false).bind λ y14=>some ((⟨y14,y10.Ac,y10.Am,y10.Ai⟩:Ab),0)
def Alg (x0:Aa) (x1:Ab) (x2:Int):Option (Int×Bool):=
 (F44 x0 x1).bind λ y1=>bif (y1 != 0) then some (0,false) else (Z3 x0 x1 x2).bind λ y4=>some (y4.1,y4.2)
def Ai5 (x0:Aa) (x2:Int) (x3:Int):Bool:=((((decide (x2<0)) || (decide (x2>=(x0.Ac.length:Int)))) || (decide (x3<0))) || (decide (x3>=x0.Al)))
def Z8 (x0:Aa) (x1:Ab) (x2:Int) (x3:Int):Option (Ab×Int):=
 (F44 x0 x1).bind λ y1=>bif (y1 != 0) then some ((⟨([]:List Bool),([]:List Ag),([]:List Int),([]:List As)⟩:Ab),y1) else bif (Ai5 x0 x2 x3) then some ((⟨([]:List Bool),([]:List Ag),([]:List Int),([]:List As)⟩:Ab),10) else (Mn x0 x1 x3).bind λ y5=>(Az [(!y5.2,false)] (getI x1.Ac x2) default).bind λ y7=>bif ((!y5.2) || (y7.State != 2)) then some ((⟨([]:List Bool),([]:List Ag),([]:List Int),([]:List As)⟩:Ab),11) else (F35 x1).bind λ y10=>(Alg x0 x1 x2).bind λ y12=>bif y12.2 then (Io x0 x1 y12.1).bind λ y15=>(getI x1.Ac y5.1).bind λ y17=>(Of y10 y15.1.Ac y17).bind λ y19=>some ((⟨y10.Ae,y19,y10.Am,y10.Ai⟩:Ab),0) else (getI x1.Ac y5.1).bind λ y21=>(Of y10 [x2] y21).bind λ y23=>some ((⟨y10.Ae,y23,y10.Am,y10.Ai⟩:Ab),0)
def Jc (x0:A0) (x1:Int):Option Bool:=
 (F56 x0.An x1).bind λ y1=>(getI x0.Aq.Ae y1).bind λ y3=>some (!y3)
def Jd (x0:A0) (x1:Int):Option (Int×A0):=
 (getI x0.Aq.Ac x1).bind λ y1=>(Az [((y1.State != 0),false)] (F76 x0.Aq 1 x1) default).bind λ y3=>bif ((y1.State != 0) || y3) then some (11,x0) else (getI x0.An.Ac x1).bind λ y6=>(Az [((y6.Start==0),true)] (Jc x0 x1) default).bind λ y8=>bif ((y6.Start==0)&&y8) then (setI x0.Aq.Ac x1 (⟨2,x0.time,5000,0⟩:Ag)).bind λ y11=>some (0,(⟨x0.An,(⟨x0.Aq.Ae,y11,x0.Aq.Am,x0.Aq.Ai⟩:Ab),x0.time⟩:A0)) else (setI x0.Aq.Ac x1 (⟨1,x0.time,5000,0⟩:Ag)).bind λ y13=>some (0,(⟨x0.An,(⟨x0.Aq.Ae,y13,x0.Aq.Am,x0.Aq.Ai⟩:Ab),x0.time⟩:A0))
def A0b (y1:Ag) (y3:Bool):Bool:=(((y1.State != 1)&&(y1.State != 2)) || (!y3))
def Oi (x0:A0) (x1:Int):Option (Int×A0):=
 (getI x0.Aq.Ac x1).bind λ y1=>(Az [(((y1.State != 1)&&(y1.State != 2)),false)] (Jc x0 x1) default).bind λ y3=>bif (A0b y1 y3) then some (11,x0) else (setI x0.Aq.Ac x1 (⟨0,y1.Since,y1.Ar,y1.Phase⟩:Ag)).bind λ y6=>some (0,(⟨x0.An,(⟨x0.Aq.Ae,y6,x0.Aq.Am,x0.Aq.Ai⟩:Ab),x0.time⟩:A0))
def Ai4 (x2:Int) (y1:A3):Bool:=((decide (x2<0)) || (decide (x2>y1.Load)))
def Oh (x0:A0) (x1:Int) (x2:Int):Option (Int×A0):=
 (Az [(decide (x2<0),false)] (getI x0.An.Af x1) default).bind λ y1=>bif (Ai4 x2 y1) then some (1,x0) else (getI x0.Aq.Am x1).bind λ y4=>(setI x0.Aq.Am x1 x2).bind λ y6=>some (0,(⟨x0.An,(⟨x0.Aq.Ae,x0.Aq.Ac,y6,x0.Aq.Ai⟩:Ab),x0.time⟩:A0))
def Xv (n0:Nat) (a0:Ag) (z0:(List Ag)):Option (Ctl ((List Ag)) Unit):=
 bif (a0.State==2) then (getI z0 (cnt 0 n0)).bind λ y7=>(setI z0 (cnt 0 n0) (⟨y7.State,y7.Since,y7.Ar,Fe (w64 (a0.Phase+(w64 (36*(w64 (a0.Ar-5000))))))⟩:Ag)).bind λ y9=>some (.next y9) else some (.next z0)
def Z4 (x0:Aa) (x1:Ab):Option (Ab×Int):=
 (F44 x0 x1).bind λ y1=>bif (y1 != 0) then some ((⟨([]:List Bool),([]:List Ag),([]:List Int),([]:List As)⟩:Ab),y1) else (F35 x1).bind λ y4=>andThen (foldI Xv x1.Ac 0 y4.Ac) (λ _=>none) λ z0=>some ((⟨y4.Ae,z0,y4.Am,y4.Ai⟩:Ab),0)
def Zd (y1:Ab×Int) (z0:Int×(List Ag)):Bool:=decide (z0.1<(y1.1.Ac.length:Int))
def Oa (x0:A0) (y4:Ag) (y6:Bool) (y8:Be):Bool:=(((y4.State==1)&&y6)&&(decide ((w64 (y4.Since+y8.Start))<=(w64 (x0.time+1)))))
def Pm (x0:A0) (y1:Ab×Int) (z0:Int×(List Ag)):Option (Ctl (Int×(List Ag)) Unit):=
 bif (Zd y1 z0) then (getI z0.2 z0.1).bind λ y4=>(Az [((y4.State==1),true)] (Jc (⟨x0.An,(⟨y1.1.Ae,z0.2,y1.1.Am,y1.1.Ai⟩:Ab),x0.time⟩:A0) z0.1) default).bind λ y6=>(Az [(((y4.State==1)&&y6),true)] (getI x0.An.Ac z0.1) default).bind λ y8=>bif (Oa x0 y4 y6 y8) then (setI z0.2 z0.1 (⟨2,y4.Since,y4.Ar,y4.Phase⟩:Ag)).bind λ y11=>some (.next (w64 (z0.1+1),y11)) else some (.next (w64 (z0.1+1),z0.2)) else some (.brk (z0.1,z0.2))
def Ko (x0:A0):Option A0:=
 (Z4 x0.An x0.Aq).bind λ y1=>andThen (whileN (Pm x0 y1) 1152921504606846976 (0,y1.1.Ac)) (λ _=>none) λ z0=>some (⟨x0.An,(⟨y1.1.Ae,z0.2,y1.1.Am,y1.1.Ai⟩:Ab),x0.time⟩:A0)
def Tq (x0:As) (x1:As):Int:=
 bif (x0.Kind != x1.Kind) then w64 (x0.Kind-x1.Kind) else w64 (x0.Number-x1.Number)
def V5 (x0:List As) (x1:As) (z0:Int×Int):Option (Ctl (Int×Int) Unit):=
 bif decide (z0.1<z0.2) then (getI x0 (w64 (H7 .u64 (IntKind.wrap .u64 (w64 (z0.1+z0.2))) 1))).bind λ y2=>bif decide ((Tq y2 x1)<0) then some (.next (w64 ((w64 (H7 .u64 (IntKind.wrap .u64 (w64 (z0.1+z0.2))) 1))+1),z0.2)) else some (.next (z0.1,w64 (H7 .u64 (IntKind.wrap .u64 (w64 (z0.1+z0.2))) 1))) else some (.brk (z0.1,z0.2))
def V6 (x0:List As) (x1:As):Option (Int×Bool):=
 andThen (whileN (V5 x0 x1) 1152921504606846976 (0,(x0.length:Int))) (λ _=>none) λ z0=>(Az [(decide (z0.1<(x0.length:Int)),true)] (getI x0 z0.1) default).bind λ y5=>some (z0.1,((decide (z0.1<(x0.length:Int)))&&((Tq y5 x1)==0)))
def Q8 (x0:List As) (x1:Int) (x2:List As):Option ((List As)):=
 (bndI x0.length x1 (x0.length:Int)).bind λ u2=>bif ((x2.length:Int)==0) then some x0 else bif (x1==(x0.length:Int)) then (appI 17 x0 x2).bind λ y5=>some y5 else insI 17 x0 x1 x2
def V4 (x0:List As) (x1:Int) (x2:Int):Option ((List As)):=
 (bnd3I x0.length x1 x2 (x0.length:Int)).bind λ u2=>bif (x1==x2) then some x0 else (bndI x0.length 0 x1).bind λ u5=>(bndI x0.length x2 (x0.length:Int)).bind λ u7=>(appPI x0 ((Int.toNat x1)-0) ((x0.drop (Int.toNat x2)).take ((Int.toNat (x0.length:Int))-(Int.toNat x2)))).bind λ y8=>(bndI (y8.length-0) (((((Int.toNat x1)-0)+((x0.drop (Int.toNat x2)).take ((Int.toNat (x0.length:Int))-(Int.toNat x2))).length):Nat):Int) (x0.length:Int)).bind λ u11=>some ((Hf y8 (0+(Int.toNat (((((Int.toNat x1)-0)+((x0.drop (Int.toNat x2)).take ((Int.toNat (x0.length:Int))-(Int.toNat x2))).length):Nat):Int))) ((Int.toNat (x0.length:Int))-(Int.toNat (((((Int.toNat x1)-0)+((x0.drop (Int.toNat x2)).take ((Int.toNat (x0.length:Int))-(Int.toNat x2))).length):Nat):Int))) (⟨0,0⟩:As)).take (((Int.toNat x1)-0)+((x0.drop (Int.toNat x2)).take ((Int.toNat (x0.length:Int))-(Int.toNat x2))).length))
def Sw (x0:A0) (x2:Bool):Bool:=(x2&&(decide ((x0.Aq.Ai.length:Int)>=32)))
def Pl (x0:A0) (x1:As) (x2:Bool) (y1:Int×Bool):Option (Ctl ((List As)) Unit):=
 bif x2 then (Q8 x0.Aq.Ai y1.1 [x1]).bind λ y6=>some (.next y6) else (V4 x0.Aq.Ai y1.1 (w64 (y1.1+1))).bind λ y8=>some (.next y8)
def G7 (x0:A0) (x1:As) (x2:Bool):Option (Int×A0):=
 (V6 x0.Aq.Ai x1).bind λ y1=>bif (y1.2==x2) then some (11,x0) else bif (Sw x0 x2) then some (2,x0) else andThen (Pl x0 x1 x2 y1) (λ _=>none) λ z0=>bif (x1.Kind==1) then (getI x0.Aq.Ac x1.Number).bind λ y11=>(setI x0.Aq.Ac x1.Number (⟨0,y11.Since,y11.Ar,y11.Phase⟩:Ag)).bind λ y13=>bif x2 then (getI y13 x1.Number).bind λ y16=>(setI y13 x1.Number (⟨3,y16.Since,y16.Ar,y16.Phase⟩:Ag)).bind λ y18=>some (0,(⟨x0.An,(⟨x0.Aq.Ae,y18,x0.Aq.Am,z0⟩:Ab),x0.time⟩:A0)) else some (0,(⟨x0.An,(⟨x0.Aq.Ae,y13,x0.Aq.Am,z0⟩:Ab),x0.time⟩:A0)) else some (0,(⟨x0.An,(⟨x0.Aq.Ae,x0.Aq.Ac,x0.Aq.Am,z0⟩:Ab),x0.time⟩:A0))
def Kn (x0:A0) (x1:Ak):Option (Int×A0):=
 bif (x1.Kind==1) then (P3 x0.An x0.Aq x1.Unit).bind λ y2=>some (y2.2,(⟨x0.An,y2.1,x0.time⟩:A0)) else bif (x1.Kind==2) then (P2 x0.An x0.Aq x1.Unit).bind λ y5=>some (y5.2,(⟨x0.An,y5.1,x0.time⟩:A0)) else bif (x1.Kind==6) then (Z8 x0.An x0.Aq x1.Unit x1.Value).bind λ y8=>some (y8.2,(⟨x0.An,y8.1,x0.time⟩:A0)) else bif (x1.Kind==3) then (Jd x0 x1.Unit).bind λ y11=>some (y11.1,y11.2) else bif (x1.Kind==4) then (Oi x0 x1.Unit).bind λ y14=>some (y14.1,y14.2) else bif (x1.Kind==5) then (Oh x0 x1.Unit x1.Value).bind λ y17=>some (y17.1,y17.2) else bif (x1.Kind==7) then (Ko x0).bind λ y20=>some (0,y20) else (G7 x0 (⟨x1.Value,x1.Unit⟩:As) (x1.Kind==8)).bind λ y22=>some (y22.1,y22.2)
def Aej (x2:Int) (x3:Ak):Bool:=((((decide (x2<0)) || (decide (x2>2147483648))) || (decide (x3.Kind<1))) || (decide (x3.Kind>9)))
def F27 (x0:Aa) (x1:Ab) (x2:Int) (x3:Ak):Option (Ab×Int):=
 (F44 x0 x1).bind λ y1=>bif (y1 != 0) then some ((⟨([]:List Bool),([]:List Ag),([]:List Int),([]:List As)⟩:Ab),y1) else bif (Aej x2 x3) then some ((⟨([]:List Bool),([]:List Ag),([]:List Int),([]:List As)⟩:Ab),1) else (F62 x0 x3).bind λ y5=>bif !y5 then some ((⟨([]:List Bool),([]:List Ag),([]:List Int),([]:List As)⟩:Ab),10) else (F35 x1).bind λ y8=>(Kn (⟨x0,y8,x2⟩:A0) x3).bind λ y10=>bif (y10.1 != 0) then some ((⟨([]:List Bool),([]:List Ag),([]:List Int),([]:List As)⟩:Ab),y10.1) else some (y10.2.Aq,0)
def Alq (x0:Aa) (n0:Nat) (a0:Ak) (z0:Sg1):Option (Ctl (Sg1) (Ab×Int×Int×Int)):=
 (F27 x0 (⟨z0.2.1,z0.2.2.1,z0.2.2.2.1,z0.2.2.2.2⟩:Ab) z0.1 a0).bind λ y6=>bif (y6.2 != 0) then some (.ret ((⟨z0.2.1,z0.2.2.1,z0.2.2.2.1,z0.2.2.2.2⟩:Ab),z0.1,cnt 0 n0,y6.2)) else bif (a0.Kind==7) then some (.next (w64 (z0.1+1),y6.1.Ae,y6.1.Ac,y6.1.Am,y6.1.Ai)) else some (.next (z0.1,y6.1.Ae,y6.1.Ac,y6.1.Am,y6.1.Ai))
def F10 (x0:Aa) (x1:Ab) (x2:Int) (x3:List Ak):Option (Ab×Int×Int×Int):=
 (F44 x0 x1).bind λ y1=>bif (y1 != 0) then some ((⟨([]:List Bool),([]:List Ag),([]:List Int),([]:List As)⟩:Ab),0,0,y1) else (F35 x1).bind λ y4=>andThen (foldI (Alq x0) x3 0 (x2,y4.Ae,y4.Ac,y4.Am,y4.Ai)) some λ z0=>some ((⟨z0.2.1,z0.2.2.1,z0.2.2.2.1,z0.2.2.2.2⟩:Ab),z0.1,(x3.length:Int),0)
def A8b (a0:Ak) (y2:Ak):Bool:=!((a0.Kind==y2.Kind)&&((a0.Unit==y2.Unit)&&((a0.Value==y2.Value)&&true)))
def Ax3 (x1:List Ak) (n0:Nat) (a0:Ak) (z0:Unit):Option (Ctl Unit Unit):=
 (getI x1 (cnt 0 n0)).bind λ y2=>bif (A8b a0 y2) then none else some (.next ())
def F43 (x0:List Ak) (x1:List Ak):Option Bool:=
 bif ((x0.length:Int) != (x1.length:Int)) then none else andThen (foldI (Ax3 x1) x0 0 ()) (λ _=>none) λ z0=>some true
def F9:Option Bool:=
 (F8 F42.1 F42.2).bind λ y1=>(F10 F42.1 F42.2 7 y1.1).bind λ y3=>(Az [((y1.2==0),true)] (F43 y1.1 [(⟨3,0,0⟩:Ak),(⟨7,0,0⟩:Ak),(⟨7,0,0⟩:Ak),(⟨7,0,0⟩:Ak),(⟨1,1,0⟩:Ak),(⟨1,0,0⟩:Ak)]) default).bind λ y5=>(Az [((((((y1.2==0)&&y5)&&(y3.2.2.2==0))&&(y3.2.1==10))&&(y3.2.2.1==6)),true)] (F24 F42.1 y3.1) default).bind λ y7=>(Az [(((((((y1.2==0)&&y5)&&(y3.2.2.2==0))&&(y3.2.1==10))&&(y3.2.2.1==6))&&y7),true)] (F24 F42.1 F42.2) default).bind λ y9=>some (((((((y1.2==0)&&y5)&&(y3.2.2.2==0))&&(y3.2.1==10))&&(y3.2.2.1==6))&&y7)&&(!y9))
def Ale (n0:Nat) (a0:Be) (z0:Int):Option (Ctl Int Unit):=
 some (.next (max z0 a0.Start))
def F19 (x0:Aa):Option Int:=
 (F51 x0).bind λ y1=>bif (y1 != 0) then some 0 else andThen (foldI Ale x0.Ac 0 0) (λ _=>none) λ z0=>some (w64 ((w64 ((w64 ((w64 (2*(x0.Ad.length:Int)))+(x0.Ac.length:Int)))+z0))+1))
def Jo (x0:Int):Int:=
 Int.tmod (w64 ((Int.tmod x0 3600)+3600)) 3600
def Av0 (x0:Int) (x1:Int):Bool:=decide ((Jo (w64 ((Jo x1)-(Jo x0))))>1800)
def Z9 (x0:Int) (x1:Int):Int:=
 bif (Av0 x0 x1) then w64 ((Jo (w64 ((Jo x1)-(Jo x0))))-3600) else Jo (w64 ((Jo x1)-(Jo x0)))
def Aeh (x1:Ag):Bool:=((decide (x1.Ar<0)) || (decide (x1.Ar>6000)))
def Aeg (x2:Ag):Bool:=((decide (x2.Ar<0)) || (decide (x2.Ar>6000)))
def F54 (x0:Aa) (x1:Ag) (x2:Ag):Bool:=
 bif (Aeh x1) then false else bif (Aeg x2) then false else ((((decide ((w64 (x1.Ar-x2.Ar))>=(w64 (0-x0.Ar))))&&(decide ((w64 (x1.Ar-x2.Ar))<=x0.Ar)))&&(decide ((Z9 x1.Phase x2.Phase)>=(w64 (0-x0.Phase)))))&&(decide ((Z9 x1.Phase x2.Phase)<=x0.Phase)))
def A1w (x0:Aa) (z0:Int):Bool:=decide (z0<(x0.Ac.length:Int))
def Alc (x0:Aa) (x1:Ab) (x2:Ab) (z0:Int) (z1:Int):Option (Ctl Int Bool):=
 bif decide (z1<z0) then (F52 x0 x1 z0).bind λ y8=>(F52 x0 x1 z1).bind λ y10=>(F52 x0 x2 z0).bind λ y12=>(F52 x0 x2 z1).bind λ y14=>bif ((!y12.2) || (!y14.2)) then some (.next (w64 (z1+1))) else (F50 x0 x2 y12.1).bind λ y17=>(F53 y17.1.Al y14.1).bind λ y19=>bif !y19 then some (.next (w64 (z1+1))) else bif (y8.2&&y10.2) then (F50 x0 x1 y8.1).bind λ y23=>(F53 y23.1.Al y10.1).bind λ y25=>bif y25 then some (.next (w64 (z1+1))) else (getI x1.Ac z0).bind λ y28=>(getI x1.Ac z1).bind λ y30=>bif !(F54 x0 y28 y30) then some (.ret true) else some (.next (w64 (z1+1))) else (getI x1.Ac z0).bind λ y33=>(getI x1.Ac z1).bind λ y35=>bif !(F54 x0 y33 y35) then some (.ret true) else some (.next (w64 (z1+1))) else some (.brk z1)
def Ald (x0:Aa) (x1:Ab) (x2:Ab) (z0:Int):Option (Ctl Int Bool):=
 bif (A1w x0 z0) then andThen (whileN (Alc x0 x1 x2 z0) 1152921504606846976 0) (λ v=>some (.ret v)) λ z1=>some (.next (w64 (z0+1))) else some (.brk z0)
def F20 (x0:Aa) (x1:Ab) (x2:Ab):Option Bool:=
 (F11 x0 x1).bind λ y1=>(Az [((y1 != 0),false)] (F11 x0 x2) default).bind λ y3=>bif ((y1 != 0) || (y3 != 0)) then some false else andThen (whileN (Ald x0 x1 x2) 1152921504606846976 0) some λ z0=>some false
def Ala (x0:Aa) (x1:Ab) (z0:Int×(List Aj)):Option (Ctl (Int×(List Aj)) Unit):=
 bif decide (z0.1<x0.Al) then (F50 x0 x1 z0.1).bind λ y5=>(getI y5.1.Al 0).bind λ y7=>bif (y7==z0.1) then (appI 73 z0.2 [y5.1]).bind λ y10=>some (.next (w64 (z0.1+1),y10)) else some (.next (w64 (z0.1+1),z0.2)) else some (.brk (z0.1,z0.2))
def Ark (x0:Aa) (x1:Ab):Option ((List Aj)):=
 (F11 x0 x1).bind λ y1=>bif (y1 != 0) then some ([]:List Aj) else andThen (whileN (Ala x0 x1) 1152921504606846976 (0,([]:List Aj))) (λ _=>none) λ z0=>some z0.2
def F22 (x0:Aa) (x1:Ab) (x2:Int):Option Bool:=
 (F17 x0 x1 x2).bind λ y1=>(F18 x0 x1 x2).bind λ y3=>some (decide (y1>y3))
def A6s (y13:Ab×Int×Int×Int) (y15:Bool):Bool:=(((y13.2.2.2 != 0) || (y13.2.2.1 != 1)) || y15)
def Ari (y3:Aa×Ab×Au) (y13:Ab×Int×Int×Int) (n1:Nat) (a1:Aj) (z1:Unit):Option (Ctl Unit Bool):=
 (getI a1.Al 0).bind λ y20=>(F22 y3.1 y13.1 y20).bind λ y22=>bif y22 then some (.ret false) else some (.next ())
def Arj (y3:Aa×Ab×Au) (n0:Nat) (a0:Ak) (z0:Sg1):Option (Ctl (Sg1) Bool):=
 (F10 y3.1 (⟨z0.2.1,z0.2.2.1,z0.2.2.2.1,z0.2.2.2.2⟩:Ab) z0.1 [a0]).bind λ y13=>(Az [(((y13.2.2.2 != 0) || (y13.2.2.1 != 1)),false)] (F20 y3.1 (⟨z0.2.1,z0.2.2.1,z0.2.2.2.1,z0.2.2.2.2⟩:Ab) y13.1) default).bind λ y15=>bif (A6s y13 y15) then some (.ret false) else (Ark y3.1 y13.1).bind λ y18=>andThen (foldI (Ari y3 y13) y18 0 ()) (λ v=>some (.ret v)) λ z1=>some (.next (y13.2.1,y13.1.Ae,y13.1.Ac,y13.1.Am,y13.1.Ai))
def A6r (y25:(List Bool)) (z2:Int) (y28:Bool) (y30:Bool):Bool:=(((decide (z2<(y25.length:Int)))&&y28)&&(!y30))
def Arh (y3:Aa×Ab×Au) (z0:Sg1) (y25:(List Bool)) (z2:Int):Option (Ctl Int Bool):=
 bif decide (z2<y3.1.Al) then (Az [(decide (z2<(y25.length:Int)),true)] (getI y25 z2) default).bind λ y28=>(Az [(((decide (z2<(y25.length:Int)))&&y28),true)] (F14 y3.1 (⟨z0.2.1,z0.2.2.1,z0.2.2.2.1,z0.2.2.2.2⟩:Ab) z2) default).bind λ y30=>bif (A6r y25 z2 y28 y30) then some (.ret false) else some (.next (w64 (z2+1))) else some (.brk z2)
def F4 (x0:List Int):Option Bool:=
 (F6 x0).bind λ y1=>(F7 y1).bind λ y3=>(F8 y3.1 y3.2.1).bind λ y5=>bif (y5.2 != 0) then (Az [(((y5.2==9) || (y5.2==11)),true)] (F9) default).bind λ y8=>some (((y5.2==9) || (y5.2==11))&&y8) else (F19 y3.1).bind λ y10=>bif decide ((y5.1.length:Int)>y10) then some false else andThen (foldI (Arj y3) y5.1 0 (20,y3.2.1.Ae,y3.2.1.Ac,y3.2.1.Am,y3.2.1.Ai)) some λ z0=>(F23 y3.1 y3.2.1).bind λ y25=>andThen (whileN (Arh y3 z0 y25) 1152921504606846976 0) some λ z2=>(F8 y3.1 (⟨z0.2.1,z0.2.2.1,z0.2.2.2.1,z0.2.2.2.2⟩:Ab)).bind λ y33=>(F24 y3.1 (⟨z0.2.1,z0.2.2.1,z0.2.2.2.1,z0.2.2.2.2⟩:Ab)).bind λ y35=>(Az [((((y35&&((y25.length:Int)==y3.1.Al))&&(y33.2==9))&&((y33.1.length:Int)==0)),true)] (F9) default).bind λ y37=>some ((((y35&&((y25.length:Int)==y3.1.Al))&&(y33.2==9))&&((y33.1.length:Int)==0))&&y37)
end Go.Proofs.YtcigbocngfaopaaGreat
