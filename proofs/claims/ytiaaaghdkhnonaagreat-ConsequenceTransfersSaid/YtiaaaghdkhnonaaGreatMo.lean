import Derived.Test.YtiaaaghdkhnonaaGreatTy
import Derived.Test.YtiaaaghdkhnonaaGreatFo
set_option linter.unusedVariables false
namespace Go.Proofs.YtiaaaghdkhnonaaGreat
open Go.SL
abbrev Sg0:=(List Int)×Int×(List Bool)×(List Aj)×(List Int)×(List Ab)×(List A8)×(List Bq)
abbrev Sg1:=Int×(List Bool)×(List Aj)×(List Int)×(List Ab)×(List A8)×(List Bq)
abbrev Sg2:=Int×(List Bool)×(List Aj)×(List Int)×(List Ab)×(List A8)×(List Ad)×(List Bq)
abbrev Sg3:=Int×(List Int)×Int×(List Ak)
abbrev Sg4:=Int×(List Int)×Int×(List Ak)×(List A7)
abbrev Sg5:=Int×(List Int)×Int×(List A7)
abbrev Sg6:=Int×(List Int)×Int×(List Bu)
abbrev Sg7:=Int×(List Int)×Int×(List Aj)
abbrev Sg8:=Int×(List Int)×Int×(List Ig)
abbrev Sg9:=Int×(List Ak)×(List B5)×(List A7)×Int×Int×(List Bool)×(List Aj)×(List Int)×(List Ab)×(List As)
abbrev Alp:=Int×(List Ak)×(List B5)×(List A7)×Int×Int×(List Int)×(List Bool)×(List Aj)×(List Int)×(List Ab)×(List As)
def Cf(x0:Int)(x1:Int)(x2:Int):Bool:=
 ((decide (x0>=x1))&&(decide (x0<=x2)))
def Ko(x1:Int)(x2:Int)(a0:Ak):Bool:=((a0.Kind==x1)&&((a0.B==x2) || ((x1==1)&&(a0.A==x2))))
def Ajm(x1:Int)(x2:Int)(n0:Nat)(a0:Ak)(z0:(List Int)):Option (Ctl ((List Int)) Unit):=
 bif (Ko x1 x2 a0)then (appI 9 z0 [cnt 0 n0]).bind λy2=>some (.next y2) else some (.next z0)
def Se(x0:Aa)(x1:Int)(x2:Int):Option ((List Int)):=
 andThen (foldI (Ajm x1 x2) x0.Ah 0 []) (λ_=>none) λz0=>some z0
def Ap4(x0:Aa)(a0:Ak):Bool:=!(Cf a0.B (w64 (a0.A+1)) (w64 (x0.An-1)))
def Ap3(x0:Aa)(a0:Ak):Bool:=!(Cf a0.B 0 (w64 ((x0.Ae.length:Int)-1)))
def Ap2(x0:Aa)(a0:Ak):Bool:=!(Cf a0.B 0 (w64 ((x0.Ag.length:Int)-1)))
def Adx(a0:Ak)(a1:Ak):Bool:=((a1.Kind==a0.Kind)&&((a1.A==a0.A)&&((a1.B==a0.B)&&true)))
def vB(a0:Ak)(n1:Nat)(a1:Ak)(z1:Unit):Option (Ctl Unit Bool):=
 bif (Adx a0 a1)then some (.ret false) else some (.next ())
def Ai9(x0:Aa)(n0:Nat)(a0:Ak)(z0:Unit):Option (Ctl Unit Bool):=
 bif !(Cf a0.A 0 (w64 (x0.An-1)))then some (.ret false) else bif (a0.Kind==1)then bif (Ap4 x0 a0)then some (.ret false) else some (.next ()) else bif (a0.Kind==2)then bif (Ap3 x0 a0)then some (.ret false) else some (.next ()) else bif (a0.Kind==3)then bif (Ap2 x0 a0)then some (.ret false) else (cutI x0.Ah 0 (cnt 0 n0)).bind λy9=>andThen (foldI (vB a0) y9 0 ()) (λv=>some (.ret v)) λz1=>some (.next ()) else some (.ret false)
def Aib(x0:Aa)(z2:Int):Bool:=decide (z2<(x0.Ae.length:Int))
def Ai8(x0:Aa)(z2:Int):Option (Ctl Int Bool):=
 bif (Aib x0 z2)then (Se x0 2 z2).bind λy12=>bif ((y12.length:Int) != 1)then some (.ret false) else some (.next (w64 (z2+1))) else some (.brk z2)
def Aia(x0:Aa)(z3:Int):Bool:=decide (z3<(x0.Ag.length:Int))
def Ai7(x0:Aa)(z3:Int):Option (Ctl Int Bool):=
 bif (Aia x0 z3)then (Se x0 3 z3).bind λy16=>bif decide ((y16.length:Int)<1)then some (.ret false) else some (.next (w64 (z3+1))) else some (.brk z3)
def Amo(x0:Aa):Option Bool:=
 andThen (foldI (Ai9 x0) x0.Ah 0 ()) some λz0=>andThen (whileN (Ai8 x0) 1152921504606846976 0) some λz2=>andThen (whileN (Ai7 x0) 1152921504606846976 0) some λz3=>some true
def Ap1(a0:B5):Bool:=(((!(Cf a0.Rating 1 50000)) || (!(Cf a0.Least 0 a0.Rating))) || (!(Cf a0.Start 0 600)))
def Ai6(n0:Nat)(a0:B5)(z0:Unit):Option (Ctl Unit Bool):=
 bif (Ap1 a0)then some (.ret false) else some (.next ())
def Amn(x0:Aa):Option Bool:=
 andThen (foldI Ai6 x0.Ae 0 ()) some λz0=>some true
def Ap0(a0:A7):Bool:=(((((!(Cf a0.Load 0 50000)) || (!(Cf a0.Least 0 a0.Load))) || (!(Cf a0.B2 0 15))) || (!(Cf a0.Thruster (-1) 7))) || (decide ((a0.Needs.length:Int)>4)))
def Apz(n0:Nat)(n1:Nat)(a1:Int)(y2:Int):Bool:=((!(Cf a1 0 (w64 ((cnt 0 n0)-1)))) || ((decide ((cnt 0 n1)>0))&&(decide (y2>=a1))))
def Ai4(n0:Nat)(a0:A7)(n1:Nat)(a1:Int)(z1:Unit):Option (Ctl Unit Bool):=
 (Au [(!(Cf a1 0 (w64 ((cnt 0 n0)-1))),false),(decide ((cnt 0 n1)>0),true)] (getI a0.Needs (w64 ((cnt 0 n1)-1))) default).bind λy2=>bif (Apz n0 n1 a1 y2)then some (.ret false) else some (.next ())
def Ai5(n0:Nat)(a0:A7)(z0:Unit):Option (Ctl Unit Bool):=
 bif (Ap0 a0)then some (.ret false) else andThen (foldI (Ai4 n0 a0) a0.Needs 0 ()) (λv=>some (.ret v)) λz1=>some (.next ())
def Amm(x0:Aa):Option Bool:=
 andThen (foldI Ai5 x0.Ag 0 ()) some λz0=>some true
def Ad2(x0:Aa):Bool:=(((((decide (x0.An<1)) || (decide (x0.An>6))) || (decide ((x0.Ah.length:Int)>24))) || (decide ((x0.Ae.length:Int)>8))) || (decide ((x0.Ag.length:Int)>16)))
def Ad1(x0:Aa)(y2:Bool)(y4:Bool)(y6:Bool):Bool:=(((((((!y2) || (!y4)) || (!y6)) || (decide (x0.Phase<0))) || (decide (x0.Phase>1800))) || (decide (x0.Ar<0))) || (decide (x0.Ar>6000)))
def X0(x0:Aa):Option Int:=
 bif (Ad2 x0)then some 2 else (Amo x0).bind λy2=>(Au [(!y2,false)] (Amn x0) default).bind λy4=>(Au [(((!y2) || (!y4)),false)] (Amm x0) default).bind λy6=>bif (Ad1 x0 y2 y4 y6)then some 14 else some 0
def Jt(x0:Bt):Bool:=
 ((((((decide (x0.Stop>=1))&&(decide (x0.Stop<=99)))&&(decide (x0.Start>x0.Stop)))&&(decide (x0.Start<=100)))&&(decide (x0.Delay>=0)))&&(decide (x0.Delay<=600)))
def A3j(x0:Aa)(z0:Int×(List Aj)):Bool:=decide (z0.1<(x0.Ae.length:Int))
def A2d(x0:Aa)(z0:Int×(List Aj)):Option (Ctl (Int×(List Aj)) Unit):=
 bif (A3j x0 z0)then (appI 33 z0.2 [⟨0,0,5000,0⟩]).bind λy8=>some (.next (w64 (z0.1+1),y8)) else some (.brk (z0.1,z0.2))
def A2c(n1:Nat)(a1:A7)(z1:(List Int)):Option (Ctl ((List Int)) Unit):=
 (appI 9 z1 [a1.Load]).bind λy10=>some (.next y10)
def A2b(x0:Aa)(z2:Int×(List A8)):Option (Ctl (Int×(List A8)) Unit):=
 bif decide (z2.1<x0.An)then (appI 17 z2.2 [⟨(-1),(-1)⟩]).bind λy13=>some (.next (w64 (z2.1+1),y13)) else some (.brk (z2.1,z2.2))
def F80(x0:Aa)(x1:Bt):Option (Am×Int):=
 (X0 x0).bind λy1=>bif (y1 != 0)then none else bif !(Jt x1)then none else (mkI 2 (x0.Ah.length:Int) false).bind λy5=>andThen (whileN (A2d x0) 1152921504606846976 (0,[])) (λ_=>none) λz0=>andThen (foldI A2c x0.Ag 0 []) (λ_=>none) λz1=>andThen (whileN (A2b x0) 1152921504606846976 (0,[])) (λ_=>none) λz2=>some (⟨0,⟨y5,z0.2,z1,[]⟩,z2.2,[]⟩,0)
def Vq(x0:Aa)(x1:Ab):Bool:=
 bif (x1.Kind==1)then Cf x1.Number 0 (w64 ((x0.Ae.length:Int)-1)) else bif (x1.Kind==2)then Cf x1.Number 0 (w64 ((x0.Ah.length:Int)-1)) else bif (x1.Kind==3)then Cf x1.Number 0 (w64 (x0.An-1)) else bif (x1.Kind==4)then Cf x1.Number 0 (w64 ((x0.Ag.length:Int)-1)) else false
def Aga(x0:Ab)(x1:Ab):Bool:=
 ((decide (x0.Kind<x1.Kind)) || ((x0.Kind==x1.Kind)&&(decide (x0.Number<x1.Number))))
def Avz(x0:Aa)(x1:Ad):Bool:=((((x1.Ai.length:Int) != (x0.Ah.length:Int)) || ((x1.Ae.length:Int) != (x0.Ae.length:Int))) || ((x1.Ao.length:Int) != (x0.Ag.length:Int)))
def Avy(a0:Aj):Bool:=((((!(Cf a0.State 0 3)) || (!(Cf a0.Since 0 2147483648))) || (!(Cf a0.Ar 0 6000))) || (!(Cf a0.Phase 0 3599)))
def Aq5(n0:Nat)(a0:Aj)(z0:Unit):Option (Ctl Unit Int):=
 bif (Avy a0)then some (.ret 11) else some (.next ())
def Aq4(x0:Aa)(n1:Nat)(a1:Int)(z1:Unit):Option (Ctl Unit Int):=
 (getI x0.Ag (cnt 0 n1)).bind λy6=>bif !(Cf a1 0 y6.Load)then some (.ret 11) else some (.next ())
def Avx(x0:Aa)(n2:Nat)(a2:Ab)(y10:Ab):Bool:=((!(Vq x0 a2)) || ((decide ((cnt 0 n2)>0))&&(!(Aga y10 a2))))
def Aq3(x0:Aa)(x1:Ad)(n2:Nat)(a2:Ab)(z2:Unit):Option (Ctl Unit Int):=
 (Au [(!(Vq x0 a2),false),(decide ((cnt 0 n2)>0),true)] (getI x1.Al (w64 ((cnt 0 n2)-1))) default).bind λy10=>bif (Avx x0 n2 a2 y10)then some (.ret 11) else some (.next ())
def Avw(x0:Aa)(z3:Int):Bool:=decide (z3<(x0.Ag.length:Int))
def Aq1(x1:Ad)(n4:Nat)(a4:Int)(z4:Int):Option (Ctl Int Unit):=
 (getI x1.Ai a4).bind λy16=>bif y16 then some (.next (w64 (z4+1))) else some (.next z4)
def Aq2(x0:Aa)(x1:Ad)(z3:Int):Option (Ctl Int Int):=
 bif (Avw x0 z3)then (Se x0 3 z3).bind λy14=>andThen (foldI (Aq1 x1) y14 0 0) (λ_=>none) λz4=>bif decide (z4>1)then some (.ret 11) else some (.next (w64 (z3+1))) else some (.brk z3)
def F75(x0:Aa)(x1:Ad):Option Int:=
 (X0 x0).bind λy1=>bif (y1 != 0)then some y1 else bif (Avz x0 x1)then some 8 else andThen (foldI Aq5 x1.Ae 0 ()) some λz0=>andThen (foldI (Aq4 x0) x1.Ao 0 ()) some λz1=>bif decide ((x1.Al.length:Int)>32)then some 11 else andThen (foldI (Aq3 x0 x1) x1.Al 0 ()) some λz2=>andThen (whileN (Aq2 x0 x1) 1152921504606846976 0) some λz3=>some 0
def F76(x0:Ad):Option Ad:=
 (appI 2 [] x0.Ai).bind λy1=>(appI 33 [] x0.Ae).bind λy3=>(appI 9 [] x0.Ao).bind λy5=>(appI 17 [] x0.Al).bind λy7=>some ⟨y1,y3,y5,y7⟩
def Uj(a1:Ak)(y7:Bool)(y9:Bool)(y11:Bool):Bool:=(((a1.Kind==1)&&y7)&&(y9 || y11))
def Ajb(x1:Ad)(n1:Nat)(a1:Ak)(z1:(List Bool)):Option (Ctl ((List Bool)) Unit):=
 (Au [((a1.Kind==1),true)] (getI x1.Ai (cnt 0 n1)) default).bind λy7=>(Au [(((a1.Kind==1)&&y7),true)] (getI z1 a1.A) default).bind λy9=>(Au [(((a1.Kind==1)&&y7),true),(y9,false)] (getI z1 a1.B) default).bind λy11=>bif (Uj a1 y7 y9 y11)then (getI z1 a1.A).bind λy14=>(setI z1 a1.A true).bind λy16=>(getI y16 a1.B).bind λy18=>(setI y16 a1.B true).bind λy20=>some (.next y20) else some (.next z1)
def Ajc(x0:Aa)(x1:Ad)(n0:Nat)(a0:Bool)(z0:(List Bool)):Option (Ctl ((List Bool)) Unit):=
 andThen (foldI (Ajb x1) x0.Ah 0 z0) (λ_=>none) λz1=>some (.next z1)
def Aja(n2:Nat)(a2:Bool)(z2:(List Int)):Option (Ctl ((List Int)) Unit):=
 bif a2 then (appI 9 z2 [cnt 0 n2]).bind λy23=>some (.next y23) else some (.next z2)
def Amp(x0:Aa)(x1:Ad)(x2:Int):Option ((List Int)):=
 (mkI 2 x0.An false).bind λy1=>(getI y1 x2).bind λy3=>(setI y1 x2 true).bind λy5=>andThen (foldI (Ajc x0 x1) y5 0 y5) (λ_=>none) λz0=>andThen (foldI Aja z0 0 []) (λ_=>none) λz2=>some z2
def Y7(x0:Aa)(x2:Int)(y1:Int)(y3:Aj):Bool:=((((y1 != 0) || (decide (x2<0))) || (decide (x2>=(x0.Ae.length:Int)))) || (y3.State != 2))
def Xy(x0:Aa)(x1:Ad)(x2:Int):Option (Int×Bool):=
 (F75 x0 x1).bind λy1=>(Au [((((y1 != 0) || (decide (x2<0))) || (decide (x2>=(x0.Ae.length:Int)))),false)] (getI x1.Ae x2) default).bind λy3=>bif (Y7 x0 x2 y1 y3)then some (0,false) else (Se x0 2 x2).bind λy6=>(getI y6 0).bind λy8=>(getI x1.Ai y8).bind λy10=>bif !y10 then some (0,false) else (getI x0.Ah y8).bind λy13=>some (y13.A,true)
def vC(x1:Int)(n0:Nat)(a0:Int)(z0:Unit):Option (Ctl Unit Bool):=
 bif (a0==x1)then some (.ret true) else some (.next ())
def O_(x0:List Int)(x1:Int):Option Bool:=
 andThen (foldI (vC x1) x0 0 ()) some λz0=>some false
def Ap5(x0:Aa)(x2:Int)(y1:Int):Bool:=(((y1 != 0) || (decide (x2<0))) || (decide (x2>=(x0.Ag.length:Int))))
def vD(x0:Aa)(x1:Ad)(n0:Nat)(a0:Int)(z0:Unit):Option (Ctl Unit (Int×Bool)):=
 (getI x1.Ai a0).bind λy6=>bif y6 then (getI x0.Ah a0).bind λy9=>some (.ret (y9.A,true)) else some (.next ())
def Af0(x0:Aa)(x1:Ad)(x2:Int):Option (Int×Bool):=
 (F75 x0 x1).bind λy1=>bif (Ap5 x0 x2 y1)then some (0,false) else (Se x0 3 x2).bind λy4=>andThen (foldI (vD x0 x1) y4 0 ()) some λz0=>some (0,false)
def Aqi(x0:Aa)(x2:Int)(y1:Int):Bool:=(((y1 != 0) || (decide (x2<0))) || (decide (x2>=x0.An)))
def Aqh(x0:Aa)(z0:Int×(List Int)):Bool:=decide (z0.1<(x0.Ae.length:Int))
def Ajo(x0:Aa)(x1:Ad)(y4:(List Int))(z0:Int×(List Int)):Option (Ctl (Int×(List Int)) Unit):=
 bif (Aqh x0 z0)then (Xy x0 x1 z0.1).bind λy7=>(Au [(y7.2,true)] (O_ y4 y7.1) default).bind λy9=>bif (y7.2&&y9)then (appI 9 z0.2 [z0.1]).bind λy12=>some (.next (w64 (z0.1+1),y12)) else some (.next (w64 (z0.1+1),z0.2)) else some (.brk (z0.1,z0.2))
def Aqg(x0:Aa)(z1:Int×(List Int)):Bool:=decide (z1.1<(x0.Ag.length:Int))
def Ajn(x0:Aa)(x1:Ad)(y4:(List Int))(z1:Int×(List Int)):Option (Ctl (Int×(List Int)) Unit):=
 bif (Aqg x0 z1)then (Af0 x0 x1 z1.1).bind λy15=>(Au [(y15.2,true)] (O_ y4 y15.1) default).bind λy17=>bif (y15.2&&y17)then (appI 9 z1.2 [z1.1]).bind λy20=>some (.next (w64 (z1.1+1),y20)) else some (.next (w64 (z1.1+1),z1.2)) else some (.brk (z1.1,z1.2))
def Pb(x0:Aa)(x1:Ad)(x2:Int):Option (Aq×Bool):=
 (F75 x0 x1).bind λy1=>bif (Aqi x0 x2 y1)then some (⟨[],[],[]⟩,false) else (Amp x0 x1 x2).bind λy4=>andThen (whileN (Ajo x0 x1 y4) 1152921504606846976 (0,[])) (λ_=>none) λz0=>andThen (whileN (Ajn x0 x1 y4) 1152921504606846976 (0,[])) (λ_=>none) λz1=>some (⟨y4,z0.2,z1.2⟩,true)
def Ai3(x0:Aa)(x1:Ad)(z0:Int×(List Aq)):Option (Ctl (Int×(List Aq)) Unit):=
 bif decide (z0.1<x0.An)then (Pb x0 x1 z0.1).bind λy5=>(getI y5.1.An 0).bind λy7=>bif (y7==z0.1)then (appI 73 z0.2 [y5.1]).bind λy10=>some (.next (w64 (z0.1+1),y10)) else some (.next (w64 (z0.1+1),z0.2)) else some (.brk (z0.1,z0.2))
def vA(x0:Aa)(x1:Ad):Option ((List Aq)):=
 (F75 x0 x1).bind λy1=>bif (y1 != 0)then some [] else andThen (whileN (Ai3 x0 x1) 1152921504606846976 (0,[])) (λ_=>none) λz0=>some z0.2
def Ajd(x1:Ad)(a0:Aq)(n1:Nat)(a1:Int)(z1:(List Aj)):Option (Ctl ((List Aj)) Unit):=
 (getI a0.Ae 0).bind λy5=>(getI x1.Ae y5).bind λy7=>(getI a0.Ae 0).bind λy9=>(getI x1.Ae y9).bind λy11=>(getI z1 a1).bind λy13=>(setI z1 a1 ⟨y13.State,y13.Since,y7.Ar,y13.Phase⟩).bind λy15=>(getI y15 a1).bind λy17=>(setI y15 a1 ⟨y17.State,y17.Since,y17.Ar,y11.Phase⟩).bind λy19=>some (.next y19)
def Aje(x1:Ad)(n0:Nat)(a0:Aq)(z0:(List Aj)):Option (Ctl ((List Aj)) Unit):=
 andThen (foldI (Ajd x1 a0) a0.Ae 0 z0) (λ_=>none) λz1=>some (.next z1)
def Amq(x0:Aa)(x1:Ad):Option Ad:=
 (F76 x1).bind λy1=>(vA x0 x1).bind λy3=>andThen (foldI (Aje x1) y3 0 y1.Ae) (λ_=>none) λz0=>some ⟨y1.Ai,z0,y1.Ao,y1.Al⟩
def vQ(x0:Aa)(x1:Ad):Option (Ad×Int):=
 (F75 x0 x1).bind λy1=>bif (y1 != 0)then some (⟨[],[],[],[]⟩,y1) else (Amq x0 x1).bind λy4=>some (y4,0)
def Ayn(x1:List Bool)(n0:Nat)(a0:Bool)(z0:Unit):Option (Ctl Unit Unit):=
 (getI x1 (cnt 0 n0)).bind λy2=>bif !(a0==y2)then none else some (.next ())
def A2x(x0:List Bool)(x1:List Bool):Option Bool:=
 bif ((x0.length:Int) != (x1.length:Int))then none else andThen (foldI (Ayn x1) x0 0 ()) (λ_=>none) λz0=>some true
def A2w(x1:List Int)(n0:Nat)(a0:Int)(z0:Unit):Option (Ctl Unit Unit):=
 (getI x1 (cnt 0 n0)).bind λy2=>bif (a0 != y2)then none else some (.next ())
def F16(x0:List Int)(x1:List Int):Option Bool:=
 bif ((x0.length:Int) != (x1.length:Int))then none else andThen (foldI (A2w x1) x0 0 ()) (λ_=>none) λz0=>some true
def A3q(x0:Ad)(x1:Ad)(y1:Bool)(y3:Bool):Bool:=((((!y1) || (!y3)) || ((x0.Ae.length:Int) != (x1.Ae.length:Int))) || ((x0.Al.length:Int) != (x1.Al.length:Int)))
def A3p(x0:Ad)(z0:Int):Bool:=decide (z0<(x0.Ae.length:Int))
def A3o(y7:Aj)(y9:Aj):Bool:=!((y7.State==y9.State)&&((y7.Since==y9.Since)&&((y7.Ar==y9.Ar)&&((y7.Phase==y9.Phase)&&true))))
def A2f(x0:Ad)(x1:Ad)(z0:Int):Option (Ctl Int Unit):=
 bif (A3p x0 z0)then (getI x0.Ae z0).bind λy7=>(getI x1.Ae z0).bind λy9=>bif (A3o y7 y9)then none else some (.next (w64 (z0+1))) else some (.brk z0)
def A2e(x0:Ad)(z1:Unit):Option (Ctl Unit Unit):=
 bif decide (0<(x0.Al.length:Int))then none else some (.brk ())
def F63(x0:Ad)(x1:Ad):Option Bool:=
 (A2x x0.Ai x1.Ai).bind λy1=>(Au [(!y1,false)] (F16 x0.Ao x1.Ao) default).bind λy3=>bif (A3q x0 x1 y1 y3)then none else andThen (whileN (A2f x0 x1) 1152921504606846976 0) (λ_=>none) λz0=>andThen (whileN (A2e x0) 1152921504606846976 ()) (λ_=>none) λz1=>some true
def A3s(x1:Bt)(x2:Am):Bool:=(((!(Jt x1)) || (decide (x2.Time<0))) || (decide (x2.Time>2147483648)))
def A3r(x2:Am)(a0:A8):Bool:=((((decide (a0.High<(-1))) || (decide (a0.High>x2.Time))) || (decide (a0.Low<(-1)))) || (decide (a0.Low>x2.Time)))
def A2g(x2:Am)(n0:Nat)(a0:A8)(z0:Unit):Option (Ctl Unit Unit):=
 bif (A3r x2 a0)then none else some (.next ())
def F58(x0:Aa)(x1:Bt)(x2:Am):Option Int:=
 (F75 x0 x2.Power).bind λy1=>bif (y1 != 0)then none else bif (A3s x1 x2)then none else bif ((x2.A_.length:Int) != x0.An)then none else andThen (foldI (A2g x2) x2.A_ 0 ()) (λ_=>none) λz0=>(vQ x0 x2.Power).bind λy7=>(F63 y7.1 x2.Power).bind λy9=>bif !y9 then none else some 0
def A1m(x1:Int)(x2:Int)(a0:Ab):Bool:=((a0.Kind==x1)&&(a0.Number==x2))
def Ayj(x1:Int)(x2:Int)(n0:Nat)(a0:Ab)(z0:Unit):Option (Ctl Unit Bool):=
 bif (A1m x1 x2 a0)then some (.ret true) else some (.next ())
def Hi(x0:Ad)(x1:Int)(x2:Int):Option Bool:=
 andThen (foldI (Ayj x1 x2) x0.Al 0 ()) some λz0=>some false
def A1d(y1:Aq×Bool):Bool:=((!y1.2) || ((y1.1.Ae.length:Int)==0))
def A2p(x0:Aa)(x1:Ad)(x2:Int):Option (Int×Bool):=
 (Pb x0 x1 x2).bind λy1=>bif (A1d y1)then some (0,false) else (getI y1.1.Ae 0).bind λy4=>some (y4,true)
def Ku(x0:Int):Int:=
 Int.tmod (w64 ((Int.tmod x0 3600)+3600)) 3600
def A03(x0:Int)(x1:Int):Bool:=decide ((Ku (w64 ((Ku x1)-(Ku x0))))>1800)
def A2i(x0:Int)(x1:Int):Option Int:=
 bif (A03 x0 x1)then none else some (Ku (w64 ((Ku x1)-(Ku x0))))
def A05(x1:Aj):Bool:=((decide (x1.Ar<0)) || (decide (x1.Ar>6000)))
def A04(x2:Aj):Bool:=((decide (x2.Ar<0)) || (decide (x2.Ar>6000)))
def A2j(x0:Aa)(x1:Aj)(x2:Aj):Option Bool:=
 bif (A05 x1)then none else bif (A04 x2)then none else (A2i x1.Phase x2.Phase).bind λy3=>some ((((decide ((w64 (x1.Ar-x2.Ar))>=(w64 (0-x0.Ar))))&&(decide ((w64 (x1.Ar-x2.Ar))<=x0.Ar)))&&(decide (y3>=(w64 (0-x0.Phase)))))&&(decide (y3<=x0.Phase)))
def A1e(x0:Aa)(x2:Int):Bool:=((decide (x2<0)) || (decide (x2>=(x0.Ah.length:Int))))
def A2q(x0:Aa)(x1:Ad)(x2:Int):Option Int:=
 (F75 x0 x1).bind λy1=>bif (y1 != 0)then none else bif (A1e x0 x2)then none else (getI x0.Ah x2).bind λy5=>(getI x1.Ai x2).bind λy7=>(Au [(y7,false)] (Hi x1 2 x2) default).bind λy9=>(Au [((y7 || y9),false)] (Hi x1 3 y5.A) default).bind λy11=>bif ((y7 || y9) || y11)then none else (A2p x0 x1 y5.A).bind λy14=>bif (y5.Kind==1)then none else bif (y5.Kind==2)then (Hi x1 1 y5.B).bind λy18=>(Au [(y18,false)] (getI x1.Ae y5.B) default).bind λy20=>bif (y18 || (y20.State != 2))then none else (Au [(y14.2,true)] (getI x1.Ae y14.1) default).bind λy23=>(Au [(y14.2,true)] (getI x1.Ae y5.B) default).bind λy25=>(Au [(y14.2,true)] (A2j x0 y23 y25) default).bind λy27=>bif (y14.2&&(!y27))then none else some 0 else (Af0 x0 x1 y5.B).bind λy30=>(Au [(y30.2,false)] (Hi x1 4 y5.B) default).bind λy32=>bif (y30.2 || y32)then none else some 0
def A2v(x0:Aa)(x1:Ad)(x2:Int):Option (Ad×Int):=
 (A2q x0 x1 x2).bind λy1=>bif (y1 != 0)then none else (F76 x1).bind λy4=>(getI y4.Ai x2).bind λy6=>(setI y4.Ai x2 true).bind λy8=>(Amq x0 ⟨y8,y4.Ae,y4.Ao,y4.Al⟩).bind λy10=>some (y10,0)
def Xz(x0:Aa)(x1:Int)(x2:Int):Option ((List Int)):=
 (X0 x0).bind λy1=>bif (y1 != 0)then none else (Se x0 x1 x2).bind λy4=>some y4
def Ayi(n0:Nat)(a0:Aj)(z0:(List Aj)):Option (Ctl ((List Aj)) Unit):=
 (getI z0 (cnt 0 n0)).bind λy6=>bif (y6.State==2)then (setI z0 (cnt 0 n0) ⟨y6.State,y6.Since,y6.Ar,Ku (w64 (y6.Phase+(w64 (36*(w64 (y6.Ar-5000))))))⟩).bind λy9=>some (.next y9) else none
def A2u(x0:Aa)(x1:Ad):Option (Ad×Int):=
 (F75 x0 x1).bind λy1=>bif (y1 != 0)then none else (F76 x1).bind λy4=>andThen (foldI Ayi y4.Ae 0 y4.Ae) (λ_=>none) λz0=>some (⟨y4.Ai,z0,y4.Ao,y4.Al⟩,0)
def A1s(x2:Int)(x3:As):Bool:=((((decide (x2<0)) || (decide (x2>2147483648))) || (decide (x3.Kind<1))) || (decide (x3.Kind>9)))
def Ayp(x3:As):Option (Ctl Bool Unit):=
 bif (x3.Kind==3)then some (.next (x3.Kind==3)) else some (.next (x3.Kind==4))
def A1r(x0:Aa)(x3:As):Bool:=((decide (x3.Unit<0)) || (decide (x3.Unit>=(x0.Ae.length:Int))))
def Ayo(x3:As)(y27:List Aj)(y29:B5)(y31:Bool):Option (Ctl ((List Aj)) Unit):=
 bif ((y29.Start==0)&&(!y31))then (getI y27 x3.Unit).bind λy34=>(setI y27 x3.Unit ⟨2,y34.Since,y34.Ar,y34.Phase⟩).bind λy36=>some (.next y36) else none
def A1q(x2:Int)(a2:Aj)(y46:Bool)(y48:B5):Bool:=(((a2.State==1)&&(!y46))&&(decide ((w64 (a2.Since+y48.Start))<=(w64 (x2+1)))))
def Ayq(x0:Aa)(x2:Int)(y40:Ad×Int)(n2:Nat)(a2:Aj)(z2:Unit):Option (Ctl Unit Unit):=
 (Au [((a2.State==1),true)] (Xz x0 2 (cnt 0 n2)) default).bind λy42=>(Au [((a2.State==1),true)] (getI y42 0) default).bind λy44=>(Au [((a2.State==1),true)] (getI y40.1.Ai y44) default).bind λy46=>(Au [(((a2.State==1)&&(!y46)),true)] (getI x0.Ae (cnt 0 n2)) default).bind λy48=>bif (A1q x2 a2 y46 y48)then none else some (.next ())
def Au8(x0:Aa)(x1:Ad)(x2:Int)(x3:As):Option (Ad×Int):=
 (F75 x0 x1).bind λy1=>bif (y1 != 0)then none else bif (A1s x2 x3)then none else (F76 x1).bind λy5=>bif (x3.Kind==1)then (A2v x0 x1 x3.Unit).bind λy8=>some (y8.1,y8.2) else bif (x3.Kind==2)then none else bif (x3.Kind==6)then none else andThen (Ayp x3) (λ_=>none) λz0=>bif z0 then bif (A1r x0 x3)then none else (getI x1.Ae x3.Unit).bind λy15=>(Xz x0 2 x3.Unit).bind λy17=>(getI y17 0).bind λy19=>bif (x3.Kind==3)then (Au [((y15.State != 0),false)] (Hi x1 1 x3.Unit) default).bind λy22=>bif ((y15.State != 0) || y22)then none else (getI y5.Ae x3.Unit).bind λy25=>(setI y5.Ae x3.Unit ⟨1,x2,5000,0⟩).bind λy27=>(getI x0.Ae x3.Unit).bind λy29=>(Au [((y29.Start==0),true)] (getI x1.Ai y19) default).bind λy31=>andThen (Ayo x3 y27 y29 y31) (λ_=>none) λz1=>some (⟨y5.Ai,z1,y5.Ao,y5.Al⟩,0) else none else bif (x3.Kind==5)then none else bif (x3.Kind==7)then (A2u x0 x1).bind λy40=>andThen (foldI (Ayq x0 x2 y40) y40.1.Ae 0 ()) (λ_=>none) λz2=>some (y40.1,0) else none
def A2o(x0:Aa)(x1:Ad)(x2:Int):Option Bool:=
 (getI x0.Ah x2).bind λy1=>(Hi x1 3 y1.A).bind λy3=>bif y3 then none else bif (y1.Kind==1)then none else bif (y1.Kind==2)then (Hi x1 1 y1.B).bind λy8=>(Au [(y8,false)] (getI x1.Ae y1.B) default).bind λy10=>some (y8 || (y10.State != 2)) else (Hi x1 4 y1.B).bind λy12=>some y12
def F74(x0:Aa)(x1:Ad)(x2:Int):Option Bool:=
 (Pb x0 x1 x2).bind λy1=>some (y1.2&&(decide ((y1.1.Ae.length:Int)>0)))
def A1l(x0:Aa)(z0:Int):Bool:=decide (z0<(x0.Ah.length:Int))
def Ayh(x0:Aa)(x1:Ad)(y4:Ad)(z0:Int):Option (Ctl Int Unit):=
 bif (A1l x0 z0)then (getI y4.Ai z0).bind λy7=>(Au [(y7,true)] (A2o x0 x1 z0) default).bind λy9=>bif (y7&&y9)then none else some (.next (w64 (z0+1))) else some (.brk z0)
def Ayg(x0:Aa)(y4:Ad)(n1:Nat)(a1:Ak)(z1:Unit):Option (Ctl Unit Unit):=
 (Au [((a1.Kind==3),true)] (getI y4.Ai (cnt 0 n1)) default).bind λy12=>(Au [(((a1.Kind==3)&&y12),true)] (F74 x0 y4 a1.A) default).bind λy14=>bif (((a1.Kind==3)&&y12)&&(!y14))then none else some (.next ())
def A2t(x0:Aa)(x1:Ad):Option (Ad×(List As)×Int):=
 (F75 x0 x1).bind λy1=>bif (y1 != 0)then none else (F76 x1).bind λy4=>andThen (whileN (Ayh x0 x1 y4) 1152921504606846976 0) (λ_=>none) λz0=>andThen (foldI (Ayg x0 y4) x0.Ah 0 ()) (λ_=>none) λz1=>(vQ x0 y4).bind λy17=>some (y17.1,[],0)
def Ayb(z0:Int×(List Int))(n1:Nat)(a1:A7)(z1:(List Int)):Option (Ctl ((List Int)) Unit):=
 bif (a1.B2==z0.1)then (appI 9 z1 [cnt 0 n1]).bind λy6=>some (.next y6) else some (.next z1)
def Ayc(x0:Aa)(z0:Int×(List Int)):Option (Ctl (Int×(List Int)) Unit):=
 bif decide (z0.1<=15)then andThen (foldI (Ayb z0) x0.Ag 0 z0.2) (λ_=>none) λz1=>some (.next (w64 (z0.1+1),z1)) else some (.brk (z0.1,z0.2))
def A2n(x0:Aa):Option ((List Int)):=
 (X0 x0).bind λy1=>bif (y1 != 0)then none else andThen (whileN (Ayc x0) 18 (0,[])) (λ_=>none) λz0=>some z0.2
def A1c(y1:Aq×Bool):Bool:=((!y1.2) || ((y1.1.Ae.length:Int)==0))
def Aya(x1:Ad)(n0:Nat)(a0:Int)(z0:Int):Option (Ctl Int Unit):=
 (getI x1.Ao a0).bind λy4=>some (.next (w64 (z0+y4)))
def Amf(x0:Aa)(x1:Ad)(x2:Int):Option Int:=
 (Pb x0 x1 x2).bind λy1=>bif (A1c y1)then some 0 else andThen (foldI (Aya x1) y1.1.Ag 0 0) (λ_=>none) λz0=>some z0
def Ax9(x0:Aa)(n0:Nat)(a0:Int)(z0:Int):Option (Ctl Int Unit):=
 (getI x0.Ae a0).bind λy3=>some (.next (w64 (z0+y3.Rating)))
def Ame(x0:Aa)(x1:Ad)(x2:Int):Option Int:=
 (Pb x0 x1 x2).bind λy1=>andThen (foldI (Ax9 x0) y1.1.Ae 0 0) (λ_=>none) λz0=>some z0
def A1k(y12:Int)(y16:Int)(y18:A7)(y20:Bool)(y22:Int):Bool:=(((decide ((w64 (y12-y16))<=0)) || (!y20)) || (decide (y22<=y18.Least)))
def Aye(x0:Aa)(y4:Ad)(a0:Aq)(y12:Int)(y16:Int)(n1:Nat)(a1:Int)(z1:Unit):Option (Ctl Unit Unit):=
 (getI x0.Ag a1).bind λy18=>(Au [(decide ((w64 (y12-y16))<=0),false)] (O_ a0.Ag a1) default).bind λy20=>(Au [(((decide ((w64 (y12-y16))<=0)) || (!y20)),false)] (getI y4.Ao a1) default).bind λy22=>bif (A1k y12 y16 y18 y20 y22)then some (.next ()) else none
def A1j(y12:Int)(y16:Int)(y25:Bool)(y27:Int):Bool:=(((decide ((w64 (y12-y16))<=0)) || (!y25)) || (y27==0))
def Ayd(y4:Ad)(a0:Aq)(y12:Int)(y16:Int)(n2:Nat)(a2:Int)(z2:Unit):Option (Ctl Unit Unit):=
 (Au [(decide ((w64 (y12-y16))<=0),false)] (O_ a0.Ag a2) default).bind λy25=>(Au [(((decide ((w64 (y12-y16))<=0)) || (!y25)),false)] (getI y4.Ao a2) default).bind λy27=>bif (A1j y12 y16 y25 y27)then some (.next ()) else none
def Ayf(x0:Aa)(x1:Ad)(y4:Ad)(y6:(List Int))(n0:Nat)(a0:Aq)(z0:Unit):Option (Ctl Unit Unit):=
 (getI a0.An 0).bind λy10=>(Amf x0 x1 y10).bind λy12=>(getI a0.An 0).bind λy14=>(Ame x0 x1 y14).bind λy16=>andThen (foldI (Aye x0 y4 a0 y12 y16) y6 0 ()) (λ_=>none) λz1=>andThen (foldI (Ayd y4 a0 y12 y16) y6 0 ()) (λ_=>none) λz2=>some (.next ())
def A2s(x0:Aa)(x1:Ad):Option (Ad×(List As)×Int):=
 (F75 x0 x1).bind λy1=>bif (y1 != 0)then none else (F76 x1).bind λy4=>(A2n x0).bind λy6=>(vA x0 x1).bind λy8=>andThen (foldI (Ayf x0 x1 y4 y6) y8 0 ()) (λ_=>none) λz0=>some (y4,[],0)
def A2y(x0:Aa)(x1:Ad):Option (Ad×(List As)×Int):=
 (A2t x0 x1).bind λy1=>bif (y1.2.2 != 0)then none else (A2s x0 y1.1).bind λy4=>(appI 25 y1.2.1 y4.2.1).bind λy6=>some (y4.1,y6,0)
def Agb(x0:Am)(x1:As)(x2:Int):Option Am:=
 (appI 41 [] x0.Be).bind λy1=>(appI 41 y1 [⟨x0.Time,x1,x2⟩]).bind λy3=>some ⟨x0.Time,x0.Power,x0.A_,y3⟩
def Aup(x0:Aa)(x1:Am)(x2:As):Option (Ctl (Int×(List Bool)×(List Aj)×(List Int)×(List Ab)) Unit):=
 bif (x2.Kind != 7)then (Au8 x0 x1.Power x1.Time x2).bind λy5=>some (.next (y5.2,y5.1.Ai,y5.1.Ae,y5.1.Ao,y5.1.Al)) else none
def Auo(a1:As)(y12:Ad):Option (Ctl ((List Bool)×(List Int)) Unit):=
 bif (a1.Kind==2)then (getI y12.Ai a1.Unit).bind λy15=>(setI y12.Ai a1.Unit false).bind λy17=>some (.next (y17,y12.Ao)) else (getI y12.Ao a1.Unit).bind λy19=>(setI y12.Ao a1.Unit a1.Value).bind λy21=>some (.next (y12.Ai,y21))
def Auq(n1:Nat)(a1:As)(z1:Int×(List Bool)×(List Aj)×(List Int)×(List Ab)×(List A8)×(List Bq)×(List Ad)×(List Bool)×(List Aj)×(List Int)×(List Ab)):Option (Ctl (Int×(List Bool)×(List Aj)×(List Int)×(List Ab)×(List A8)×(List Bq)×(List Ad)×(List Bool)×(List Aj)×(List Int)×(List Ab)) Unit):=
 (F76 ⟨z1.2.2.2.2.2.2.2.2.1,z1.2.2.2.2.2.2.2.2.2.1,z1.2.2.2.2.2.2.2.2.2.2.1,z1.2.2.2.2.2.2.2.2.2.2.2⟩).bind λy12=>andThen (Auo a1 y12) (λ_=>none) λz2=>(appI 97 z1.2.2.2.2.2.2.2.1 [⟨z2.1,y12.Ae,z2.2,y12.Al⟩]).bind λy23=>(Agb ⟨z1.1,⟨z1.2.1,z1.2.2.1,z1.2.2.2.1,z1.2.2.2.2.1⟩,z1.2.2.2.2.2.1,z1.2.2.2.2.2.2.1⟩ a1 0).bind λy25=>some (.next (y25.Time,y25.Power.Ai,y25.Power.Ae,y25.Power.Ao,y25.Power.Al,y25.A_,y25.Be,y23,z2.1,y12.Ae,z2.2,y12.Al))
def Als(x0:Aa)(x1:Am)(x2:As):Option (Am×(List Ad)×Int):=
 (F75 x0 x1.Power).bind λy1=>bif (y1 != 0)then none else andThen (Aup x0 x1 x2) (λ_=>none) λz0=>(Agb x1 x2 z0.1).bind λy7=>bif (z0.1 != 0)then none else (A2y x0 ⟨z0.2.1,z0.2.2.1,z0.2.2.2.1,z0.2.2.2.2⟩).bind λy10=>andThen (foldI Auq y10.2.1 0 (y7.Time,y7.Power.Ai,y7.Power.Ae,y7.Power.Ao,y7.Power.Al,y7.A_,y7.Be,[⟨z0.2.1,z0.2.2.1,z0.2.2.2.1,z0.2.2.2.2⟩],z0.2.1,z0.2.2.1,z0.2.2.2.1,z0.2.2.2.2)) (λ_=>none) λz1=>(F63 y10.1 ⟨z1.2.2.2.2.2.2.2.2.1,z1.2.2.2.2.2.2.2.2.2.1,z1.2.2.2.2.2.2.2.2.2.2.1,z1.2.2.2.2.2.2.2.2.2.2.2⟩).bind λy27=>bif !y27 then none else some (⟨z1.1,y10.1,z1.2.2.2.2.2.1,z1.2.2.2.2.2.2.1⟩,z1.2.2.2.2.2.2.2.1,0)
def A1b(x1:Bt)(y1:Aq×Bool):Bool:=(((!y1.2) || (!(Jt x1))) || (decide ((y1.1.Ae.length:Int)<2)))
def A1a(x1:Bt)(y14:Int)(y16:Int)(y18:B5):Bool:=decide ((w64 (100*y14))<=(w64 (x1.Stop*(w64 (y16-y18.Rating)))))
def Ax8(x0:Aa)(x1:Bt)(x2:Ad)(x3:Int)(y1:Aq×Bool)(z0:Int):Option (Ctl Int Unit):=
 bif decide (z0>=0)then (getI y1.1.Ae z0).bind λy5=>(Xz x0 2 y5).bind λy7=>(getI y7 0).bind λy9=>(Hi x2 2 y9).bind λy11=>bif y11 then none else (Amf x0 x2 x3).bind λy14=>(Ame x0 x2 x3).bind λy16=>(getI x0.Ae y5).bind λy18=>bif (A1a x1 y14 y16 y18)then none else some (.next (w64 (z0-1))) else some (.brk z0)
def A2m(x0:Aa)(x1:Bt)(x2:Ad)(x3:Int):Option (Int×Bool):=
 (Pb x0 x2 x3).bind λy1=>bif (A1b x1 y1)then none else andThen (whileN (Ax8 x0 x1 x2 x3 y1) 1152921504606846976 (w64 ((y1.1.Ae.length:Int)-1))) (λ_=>none) λz0=>some (0,false)
def A2l(x0:Aa)(x1:Bt)(x2:Ad)(x3:Int):Option Bool:=
 (Au [(Jt x1,true)] (F74 x0 x2 x3) default).bind λy1=>(Au [(((Jt x1)&&y1),true)] (Amf x0 x2 x3) default).bind λy3=>(Au [(((Jt x1)&&y1),true)] (Ame x0 x2 x3) default).bind λy5=>some (((Jt x1)&&y1)&&(decide ((w64 (100*y3))>(w64 (x1.Start*y5)))))
def Au1(x0:Bool)(x1:Int)(x2:Int):Option Int:=
 bif !x0 then some (-1) else none
def A09(x1:Ad)(z0:Int):Bool:=decide (z0<(x1.Ae.length:Int))
def A08(y5:Aj)(y13:Int×Bool)(y15:Bool)(y17:Bool)(y19:Bool)(y21:Bool):Bool:=((((((y5.State==2)&&(!y13.2))&&(!y15))&&(!y17))&&(!y19))&&y21)
def Ax7(x0:Aa)(x1:Ad)(y1:Aq×Bool)(z0:Int):Option (Ctl Int Unit):=
 bif (A09 x1 z0)then (getI x1.Ae z0).bind λy5=>(Xz x0 2 z0).bind λy7=>(getI y7 0).bind λy9=>(getI x0.Ah y9).bind λy11=>(Xy x0 x1 z0).bind λy13=>(Au [(((y5.State==2)&&(!y13.2)),true)] (Hi x1 1 z0) default).bind λy15=>(Au [((((y5.State==2)&&(!y13.2))&&(!y15)),true)] (Hi x1 2 y9) default).bind λy17=>(Au [(((((y5.State==2)&&(!y13.2))&&(!y15))&&(!y17)),true)] (Hi x1 3 y11.A) default).bind λy19=>(Au [((((((y5.State==2)&&(!y13.2))&&(!y15))&&(!y17))&&(!y19)),true)] (O_ y1.1.An y11.A) default).bind λy21=>bif (A08 y5 y13 y15 y17 y19 y21)then none else some (.next (w64 (z0+1))) else some (.brk z0)
def A07(x1:Ad)(z1:Int):Bool:=decide (z1<(x1.Ae.length:Int))
def A06(y25:Aj)(y33:Int×Bool)(y35:Bool)(y37:Bool)(y39:Bool)(y41:Bool):Bool:=((((((y25.State==1)&&(!y33.2))&&(!y35))&&(!y37))&&(!y39))&&y41)
def Ax6(x0:Aa)(x1:Ad)(y1:Aq×Bool)(z1:Int):Option (Ctl Int Unit):=
 bif (A07 x1 z1)then (getI x1.Ae z1).bind λy25=>(Xz x0 2 z1).bind λy27=>(getI y27 0).bind λy29=>(getI x0.Ah y29).bind λy31=>(Xy x0 x1 z1).bind λy33=>(Au [(((y25.State==1)&&(!y33.2)),true)] (Hi x1 1 z1) default).bind λy35=>(Au [((((y25.State==1)&&(!y33.2))&&(!y35)),true)] (Hi x1 2 y29) default).bind λy37=>(Au [(((((y25.State==1)&&(!y33.2))&&(!y35))&&(!y37)),true)] (Hi x1 3 y31.A) default).bind λy39=>(Au [((((((y25.State==1)&&(!y33.2))&&(!y35))&&(!y37))&&(!y39)),true)] (O_ y1.1.An y31.A) default).bind λy41=>bif (A06 y25 y33 y35 y37 y39 y41)then none else some (.next (w64 (z1+1))) else some (.brk z1)
def Axo(x1:Ad)(z2:Int):Bool:=decide (z2<(x1.Ae.length:Int))
def Axn(y45:Aj)(y53:Int×Bool)(y55:Bool)(y57:Bool)(y59:Bool)(y61:Bool):Bool:=((((((y45.State==0)&&(!y53.2))&&(!y55))&&(!y57))&&(!y59))&&y61)
def Ax5(x0:Aa)(x1:Ad)(y1:Aq×Bool)(z2:Int):Option (Ctl Int Unit):=
 bif (Axo x1 z2)then (getI x1.Ae z2).bind λy45=>(Xz x0 2 z2).bind λy47=>(getI y47 0).bind λy49=>(getI x0.Ah y49).bind λy51=>(Xy x0 x1 z2).bind λy53=>(Au [(((y45.State==0)&&(!y53.2)),true)] (Hi x1 1 z2) default).bind λy55=>(Au [((((y45.State==0)&&(!y53.2))&&(!y55)),true)] (Hi x1 2 y49) default).bind λy57=>(Au [(((((y45.State==0)&&(!y53.2))&&(!y55))&&(!y57)),true)] (Hi x1 3 y51.A) default).bind λy59=>(Au [((((((y45.State==0)&&(!y53.2))&&(!y55))&&(!y57))&&(!y59)),true)] (O_ y1.1.An y51.A) default).bind λy61=>bif (Axn y45 y53 y55 y57 y59 y61)then none else some (.next (w64 (z2+1))) else some (.brk z2)
def A2k(x0:Aa)(x1:Ad)(x2:Int):Option (Int×Bool):=
 (Pb x0 x1 x2).bind λy1=>bif !y1.2 then none else andThen (whileN (Ax7 x0 x1 y1) 1152921504606846976 0) (λ_=>none) λz0=>andThen (whileN (Ax6 x0 x1 y1) 1152921504606846976 0) (λ_=>none) λz1=>andThen (whileN (Ax5 x0 x1 y1) 1152921504606846976 0) (λ_=>none) λz2=>some (0,false)
def A1i(x1:Bt)(x4:Int)(x5:A8):Bool:=(((((((!(Jt x1)) || (decide (x4<0))) || (decide (x4>2147483648))) || (decide (x5.High<(-1)))) || (decide (x5.High>x4))) || (decide (x5.Low<(-1)))) || (decide (x5.Low>x4)))
def A1h(x0:Aa)(x3:Int):Bool:=((decide (x3<0)) || (decide (x3>=x0.An)))
def A1g(x1:Bt)(x4:Int)(y10:Int)(y14:Int×Bool):Bool:=(((decide (y10>=0))&&(decide ((w64 (x4-y10))>=x1.Delay)))&&y14.2)
def A1f(x1:Bt)(x4:Int)(y12:Int):Bool:=((decide (y12>=0))&&(decide ((w64 (x4-y12))>=x1.Delay)))
def A2r(x0:Aa)(x1:Bt)(x2:Ad)(x3:Int)(x4:Int)(x5:A8):Option (A8×(List As)×Int):=
 (F75 x0 x2).bind λy1=>bif (y1 != 0)then none else bif (A1i x1 x4 x5)then none else bif (A1h x0 x3)then none else (A2m x0 x1 x2 x3).bind λy6=>(A2l x0 x1 x2 x3).bind λy8=>(Au1 y8 x5.High x4).bind λy10=>(Au1 y6.2 x5.Low x4).bind λy12=>(A2k x0 x2 x3).bind λy14=>bif (A1g x1 x4 y10 y14)then none else bif (A1f x1 x4 y12)then none else some (⟨y10,y12⟩,[],0)
def Arr(x0:Aa)(n0:Nat)(a0:As)(z0:Sg2):Option (Ctl (Sg2) Unit):=
 (Als x0 ⟨z0.1,⟨z0.2.1,z0.2.2.1,z0.2.2.2.1,z0.2.2.2.2.1⟩,z0.2.2.2.2.2.1,z0.2.2.2.2.2.2.2⟩ a0).bind λy6=>(appI 97 z0.2.2.2.2.2.2.1 y6.2.1).bind λy8=>some (.next (y6.1.Time,y6.1.Power.Ai,y6.1.Power.Ae,y6.1.Power.Ao,y6.1.Power.Al,y6.1.A_,y8,y6.1.Be))
def Arq(n1:Nat)(a1:A8)(z1:(List A8)):Option (Ctl ((List A8)) Unit):=
 (getI z1 (cnt 0 n1)).bind λy12=>(setI z1 (cnt 0 n1) ⟨(-1),(-1)⟩).bind λy14=>some (.next y14)
def Aty(a2:Aq)(y20:Bool):Bool:=(((a2.Ae.length:Int)==0) || (!y20))
def Aro(x0:Aa)(n3:Nat)(a3:As)(z3:Sg2):Option (Ctl (Sg2) Unit):=
 (Als x0 ⟨z3.1,⟨z3.2.1,z3.2.2.1,z3.2.2.2.1,z3.2.2.2.2.1⟩,z3.2.2.2.2.2.1,z3.2.2.2.2.2.2.2⟩ a3).bind λy31=>(appI 97 z3.2.2.2.2.2.2.1 y31.2.1).bind λy33=>some (.next (y31.1.Time,y31.1.Power.Ai,y31.1.Power.Ae,y31.1.Power.Ao,y31.1.Power.Al,y31.1.A_,y33,y31.1.Be))
def Arp(x0:Aa)(x1:Bt)(n2:Nat)(a2:Aq)(z2:Int×(List Bool)×(List Aj)×(List Int)×(List Ab)×(List A8)×(List Ad)×(List Bq)×(List A8)):Option (Ctl (Int×(List Bool)×(List Aj)×(List Int)×(List Ab)×(List A8)×(List Ad)×(List Bq)×(List A8)) Unit):=
 (getI a2.An 0).bind λy18=>(Au [(((a2.Ae.length:Int)==0),false)] (F74 x0 ⟨z2.2.1,z2.2.2.1,z2.2.2.2.1,z2.2.2.2.2.1⟩ y18) default).bind λy20=>bif (Aty a2 y20)then none else (getI z2.2.2.2.2.2.1 y18).bind λy23=>(A2r x0 x1 ⟨z2.2.1,z2.2.2.1,z2.2.2.2.1,z2.2.2.2.2.1⟩ y18 z2.1 y23).bind λy25=>(getI z2.2.2.2.2.2.2.2.2 y18).bind λy27=>(setI z2.2.2.2.2.2.2.2.2 y18 y25.1).bind λy29=>andThen (foldI (Aro x0) y25.2.1 0 (z2.1,z2.2.1,z2.2.2.1,z2.2.2.2.1,z2.2.2.2.2.1,z2.2.2.2.2.2.1,z2.2.2.2.2.2.2.1,z2.2.2.2.2.2.2.2.1)) (λ_=>none) λz3=>some (.next (z3.1,z3.2.1,z3.2.2.1,z3.2.2.2.1,z3.2.2.2.2.1,z3.2.2.2.2.2.1,z3.2.2.2.2.2.2.1,z3.2.2.2.2.2.2.2,y29))
def Ars(x0:Aa)(x1:Bt)(x2:Am)(x3:List As):Option (Am×(List Bq)×(List Ad)×Int):=
 (F58 x0 x1 x2).bind λy1=>bif (y1 != 0)then none else bif decide ((x3.length:Int)>200)then none else bif decide (x2.Time>=2147483648)then none else andThen (foldI (Arr x0) x3 0 (x2.Time,x2.Power.Ai,x2.Power.Ae,x2.Power.Ao,x2.Power.Al,x2.A_,[x2.Power],[])) (λ_=>none) λz0=>(mkI 17 x0.An ⟨0,0⟩).bind λy10=>andThen (foldI Arq y10 0 y10) (λ_=>none) λz1=>(vA x0 ⟨z0.2.1,z0.2.2.1,z0.2.2.2.1,z0.2.2.2.2.1⟩).bind λy16=>andThen (foldI (Arp x0 x1) y16 0 (z0.1,z0.2.1,z0.2.2.1,z0.2.2.2.1,z0.2.2.2.2.1,z0.2.2.2.2.2.1,z0.2.2.2.2.2.2.1,z0.2.2.2.2.2.2.2,z1)) (λ_=>none) λz2=>(Au8 x0 ⟨z2.2.1,z2.2.2.1,z2.2.2.2.1,z2.2.2.2.2.1⟩ z2.1 ⟨7,0,0⟩).bind λy35=>(appI 97 z2.2.2.2.2.2.2.1 [y35.1]).bind λy37=>(appI 41 [] x2.Be).bind λy39=>(appI 41 y39 z2.2.2.2.2.2.2.2.1).bind λy41=>bif decide ((y41.length:Int)>200)then none else some (⟨w64 (z2.1+1),y35.1,z2.2.2.2.2.2.2.2.2,y41⟩,z2.2.2.2.2.2.2.2.1,y37,0)
def Av8(x0:Aa)(x1:Bt)(x2:Am)(x3:List As):Option (Am×(List Bq)×Int):=
 (Ars x0 x1 x2 x3).bind λy1=>some (y1.1,y1.2.1,y1.2.2.2)
def F42:Option (A5×Am):=
 (F80 ⟨1,[⟨2,0,0⟩,⟨2,0,1⟩,⟨3,0,0⟩,⟨3,0,1⟩],[⟨100,0,0⟩,⟨100,0,0⟩],[⟨40,0,0,0,[]⟩,⟨40,0,0,1,[]⟩],1800,0⟩ ⟨100,1,9⟩).bind λy1=>(Av8 ⟨1,[⟨2,0,0⟩,⟨2,0,1⟩,⟨3,0,0⟩,⟨3,0,1⟩],[⟨100,0,0⟩,⟨100,0,0⟩],[⟨40,0,0,0,[]⟩,⟨40,0,0,1,[]⟩],1800,0⟩ ⟨100,1,9⟩ y1.1 [⟨3,0,0⟩,⟨3,1,0⟩,⟨1,0,0⟩,⟨1,1,0⟩,⟨1,2,0⟩,⟨1,3,0⟩]).bind λy3=>some (⟨⟨⟨[],[],[]⟩,⟨[],[],[]⟩,⟨[],[],[]⟩,0,0,0,0⟩,⟨0,1,[⟨2,0,100,0,1,[]⟩,⟨2,0,100,0,1,[]⟩]⟩,⟨1,[⟨2,0,0⟩,⟨2,0,1⟩,⟨3,0,0⟩,⟨3,0,1⟩],[⟨100,0,0⟩,⟨100,0,0⟩],[⟨40,0,0,0,[]⟩,⟨40,0,0,1,[]⟩],1800,0⟩,⟨100,1,9⟩,⟨[⟨1,0⟩,⟨1,1⟩,⟨3,0⟩],[],[]⟩,[],⟨0,0,0,0,0,0,0,0,0⟩,⟨⟨0,0⟩,0⟩,0,⟨ByteArray.empty,0,⟨⟨0,0⟩,0,0⟩,0⟩,⟨[]⟩⟩,y3.1)
def Bl(x0:Int)(x1:Int)(x2:Int):Bool:=
 ((decide (x0>=x1))&&(decide (x0<=x2)))
def Ax4(x1:Int)(n0:Nat)(a0:Int)(z0:Unit):Option (Ctl Unit Int):=
 bif (x1==a0)then some (.ret (cnt 0 n0)) else some (.next ())
def Auv(x0:List Int)(x1:Int):Option Int:=
 andThen (foldI (Ax4 x1) x0 0 ()) some λz0=>some (-1)
def U8(x0:List Int)(x1:Int):Option Bool:=
 (Auv x0 x1).bind λy1=>some (decide (y1>=0))
def Au0(x0:List Int):Bool:=
 ((x0.length:Int)==0)
def Arb(n0:Nat)(a0:List Int)(z0:Unit):Option (Ctl Unit Int):=
 bif Au0 a0 then some (.ret (cnt 0 n0)) else some (.next ())
def Afd(x0:List (List Int)):Option Int:=
 andThen (foldI Arb x0 0 ()) some λz0=>some (-1)
def Zv(x0:List (List Int)):Option Bool:=
 (Afd x0).bind λy1=>some (decide (y1>=0))
def Adv(x0:Aa)(a0:Ak):Bool:=((a0.Kind==1)&&(Bl a0.B (w64 (a0.A+1)) (w64 (x0.An-1))))
def Adu(z0:(List Int)×(List (List Int)))(a0:Ak)(y7:Int):Bool:=(((a0.Kind==2)&&(Bl a0.B 0 (w64 ((z0.1.length:Int)-1))))&&(y7==0))
def Apy(z0:(List Int)×(List (List Int)))(a0:Ak)(y16:Bool):Bool:=(((a0.Kind==3)&&(Bl a0.B 0 (w64 ((z0.2.length:Int)-1))))&&(!y16))
def Aiz(x0:Aa)(n0:Nat)(a0:Ak)(z0:(List Int)×(List (List Int))):Option (Ctl ((List Int)×(List (List Int))) Bool):=
 bif !(Bl a0.A 0 (w64 (x0.An-1)))then some (.ret false) else bif (Adv x0 a0)then some (.next (z0.1,z0.2)) else (Au [(((a0.Kind==2)&&(Bl a0.B 0 (w64 ((z0.1.length:Int)-1)))),true)] (getI z0.1 a0.B) default).bind λy7=>bif (Adu z0 a0 y7)then (getI z0.1 a0.B).bind λy10=>(setI z0.1 a0.B (w64 (y10+1))).bind λy12=>some (.next (y12,z0.2)) else (Au [(((a0.Kind==3)&&(Bl a0.B 0 (w64 ((z0.2.length:Int)-1)))),true)] (getI z0.2 a0.B) default).bind λy14=>(Au [(((a0.Kind==3)&&(Bl a0.B 0 (w64 ((z0.2.length:Int)-1)))),true)] (U8 y14 a0.A) default).bind λy16=>bif (Apy z0 a0 y16)then (getI z0.2 a0.B).bind λy19=>(appI 9 y19 [a0.A]).bind λy21=>(setI z0.2 a0.B y21).bind λy23=>some (.next (z0.1,y23)) else some (.ret false)
def Amj(x0:Aa):Option Bool:=
 (mkI 9 (x0.Ae.length:Int) 0).bind λy1=>(mkI 25 (x0.Ag.length:Int) ([]:List Int)).bind λy3=>andThen (foldI (Aiz x0) x0.Ah 0 (y1,y3)) some λz0=>(U8 z0.1 0).bind λy27=>(Au [(!y27,true)] (Zv z0.2) default).bind λy29=>some ((!y27)&&(!y29))
def Afv(x0:B5):Bool:=
 (((Bl x0.Rating 1 50000)&&(Bl x0.Least 0 x0.Rating))&&(Bl x0.Start 0 600))
def Apx(x1:Int)(n0:Nat)(a0:Int)(y1:Int):Bool:=((!(Bl a0 0 (w64 (x1-1)))) || ((decide ((cnt 0 n0)>0))&&(decide (y1>=a0))))
def uV(x0:A7)(x1:Int)(n0:Nat)(a0:Int)(z0:Unit):Option (Ctl Unit Bool):=
 (Au [(!(Bl a0 0 (w64 (x1-1))),false),(decide ((cnt 0 n0)>0),true)] (getI x0.Needs (w64 ((cnt 0 n0)-1))) default).bind λy1=>bif (Apx x1 n0 a0 y1)then some (.ret false) else some (.next ())
def Afu(x0:A7)(x1:Int):Option Bool:=
 andThen (foldI (uV x0 x1) x0.Needs 0 ()) some λz0=>some (((((Bl x0.Load 0 50000)&&(Bl x0.Least 0 x0.Load))&&(Bl x0.B2 0 15))&&(Bl x0.Thruster (-1) 7))&&(decide ((x0.Needs.length:Int)<=4)))
def Aqb(x0:Aa):Bool:=((((!(Bl x0.An 1 6)) || (decide ((x0.Ah.length:Int)>24))) || (decide ((x0.Ae.length:Int)>8))) || (decide ((x0.Ag.length:Int)>16)))
def Ayk(n0:Nat)(a0:B5)(z0:Bool):Option (Ctl Bool Unit):=
 some (.next (z0&&(Afv a0)))
def Ajh(n1:Nat)(a1:A7)(z1:Bool):Option (Ctl Bool Unit):=
 (Au [(z1,true)] (Afu a1 (cnt 0 n1)) default).bind λy4=>some (.next (z1&&y4))
def Af5(x0:Aa):Option Int:=
 bif (Aqb x0)then some 2 else (Amj x0).bind λy2=>andThen (foldI Ayk x0.Ae 0 ((y2&&(Bl x0.Phase 0 1800))&&(Bl x0.Ar 0 6000))) (λ_=>none) λz0=>andThen (foldI Ajh x0.Ag 0 z0) (λ_=>none) λz1=>bif !z1 then some 14 else some 0
def Mh(x0:Aa)(x1:Int):Int:=
 bif (x1==1)then (x0.Ae.length:Int) else bif (x1==2)then (x0.Ah.length:Int) else bif (x1==3)then x0.An else bif (x1==4)then (x0.Ag.length:Int) else 0
def Sc(x0:Int):Bool:=
 (x0 != x0)
def Ih(x0:Int)(x1:Int):Int:=
 bif Sc x0 then bif Sc x1 then 0 else (-1) else bif Sc x1 then 1 else bif decide (x0<x1)then (-1) else bif decide (x0>x1)then 1 else 0
def V_(n0:Nat)(a0:Int)(z0:Unit):Option (Ctl Unit Int):=
 bif (a0 != 0)then some (.ret a0) else some (.next ())
def Vg(x0:List Int):Option Int:=
 andThen (foldI V_ x0 0 ()) some λz0=>some 0
def Aqa(x0:Aa)(n0:Nat)(a0:Ab)(y5:Int):Bool:=((!(Bl a0.Number 0 (w64 ((Mh x0 a0.Kind)-1)))) || ((decide ((cnt 0 n0)>0))&&(decide (y5>=0))))
def vF(x0:Aa)(x1:List Ab)(n0:Nat)(a0:Ab)(z0:Unit):Option (Ctl Unit Bool):=
 (Au [(!(Bl a0.Number 0 (w64 ((Mh x0 a0.Kind)-1))),false),(decide ((cnt 0 n0)>0),true)] (getI x1 (w64 ((cnt 0 n0)-1))) default).bind λy1=>(Au [(!(Bl a0.Number 0 (w64 ((Mh x0 a0.Kind)-1))),false),(decide ((cnt 0 n0)>0),true)] (getI x1 (w64 ((cnt 0 n0)-1))) default).bind λy3=>(Au [(!(Bl a0.Number 0 (w64 ((Mh x0 a0.Kind)-1))),false),(decide ((cnt 0 n0)>0),true)] (Vg [Ih y1.Kind a0.Kind,Ih y3.Number a0.Number]) default).bind λy5=>bif (Aqa x0 n0 a0 y5)then some (.ret false) else some (.next ())
def Amv(x0:Aa)(x1:List Ab):Option Bool:=
 andThen (foldI (vF x0 x1) x1 0 ()) some λz0=>some (decide ((x1.length:Int)<=32))
def Ve(x0:Aj):Bool:=
 ((((Bl x0.State 0 3)&&(Bl x0.Since 0 2147483648))&&(Bl x0.Ar 0 6000))&&(Bl x0.Phase 0 3599))
def Au5(x0:Aj):Bool:=
 !(Ve x0)
def Arf(n0:Nat)(a0:Aj)(z0:Unit):Option (Ctl Unit Int):=
 bif Au5 a0 then some (.ret (cnt 0 n0)) else some (.next ())
def Afs(x0:List Aj):Option Int:=
 andThen (foldI Arf x0 0 ()) some λz0=>some (-1)
def Vf(x0:List Aj):Option Bool:=
 (Afs x0).bind λy1=>some (decide (y1>=0))
def Ap9(x2:Int)(a0:Ak)(y1:Bool):Bool:=(((a0.Kind==3)&&(a0.B==x2))&&y1)
def Ajg(x1:Ad)(x2:Int)(n0:Nat)(a0:Ak)(z0:Int):Option (Ctl Int Unit):=
 (Au [(((a0.Kind==3)&&(a0.B==x2)),true)] (getI x1.Ai (cnt 0 n0)) default).bind λy1=>bif (Ap9 x2 a0 y1)then some (.next (w64 (z0+1))) else some (.next z0)
def Amu(x0:Aa)(x1:Ad)(x2:Int):Option Int:=
 andThen (foldI (Ajg x1 x2) x0.Ah 0 0) (λ_=>none) λz0=>some z0
def Ad5(x0:Aa)(x1:Ad):Bool:=((((x1.Ai.length:Int) != (x0.Ah.length:Int)) || ((x1.Ae.length:Int) != (x0.Ae.length:Int))) || ((x1.Ao.length:Int) != (x0.Ag.length:Int)))
def Ajp(x0:Aa)(x1:Ad)(n0:Nat)(a0:Int)(z0:Bool):Option (Ctl Bool Unit):=
 (Au [(z0,true)] (getI x0.Ag (cnt 0 n0)) default).bind λy9=>(Au [((z0&&(Bl a0 0 y9.Load)),true)] (Amu x0 x1 (cnt 0 n0)) default).bind λy11=>some (.next ((z0&&(Bl a0 0 y9.Load))&&(decide (y11<=1))))
def Iy(x0:Aa)(x1:Ad):Option Int:=
 (Af5 x0).bind λy1=>bif (y1 != 0)then some y1 else bif (Ad5 x0 x1)then some 8 else (Amv x0 x1.Al).bind λy5=>(Au [(y5,true)] (Vf x1.Ae) default).bind λy7=>andThen (foldI (Ajp x0 x1) x1.Ao 0 (y5&&(!y7))) (λ_=>none) λz0=>bif !z0 then some 11 else some 0
def vS(x0:List Bool):Option (List Bool):=appI 2 [] x0
def vR(x0:List Aj):Option (List Aj):=appI 33 [] x0
def Pe(x0:List Int):Option (List Int):=appI 9 [] x0
def Sf(x0:List Ab):Option (List Ab):=appI 17 [] x0
def Mj(x0:Ad):Option Ad:=
 (vS x0.Ai).bind λy1=>(vR x0.Ae).bind λy3=>(Pe x0.Ao).bind λy5=>(Sf x0.Al).bind λy7=>some ⟨y1,y3,y5,y7⟩
def Ai1(n0:Nat)(a0:Int)(z0:(List Int)):Option (Ctl ((List Int)) Unit):=
 (getI z0 (cnt 0 n0)).bind λy3=>(setI z0 (cnt 0 n0) (cnt 0 n0)).bind λy5=>some (.next y5)
def uY(x1:Ad)(n2:Nat)(a2:Ak)(z2:(List Int)):Option (Ctl ((List Int)) Unit):=
 (Au [((a2.Kind==1),true)] (getI x1.Ai (cnt 0 n2)) default).bind λy7=>bif ((a2.Kind==1)&&y7)then (getI z2 a2.A).bind λy10=>(getI z2 a2.B).bind λy12=>(setI z2 a2.A (min y10 y12)).bind λy14=>(getI y14 a2.B).bind λy16=>(setI y14 a2.B (min y10 y12)).bind λy18=>some (.next y18) else some (.next z2)
def Ai0(x0:Aa)(x1:Ad)(n1:Nat)(a1:Int)(z1:(List Int)):Option (Ctl ((List Int)) Unit):=
 andThen (foldI (uY x1) x0.Ah 0 z1) (λ_=>none) λz2=>some (.next z2)
def Afz(x0:Aa)(x1:Ad):Option ((List Int)):=
 (mkI 9 x0.An 0).bind λy1=>andThen (foldI Ai1 y1 0 y1) (λ_=>none) λz0=>andThen (foldI (Ai0 x0 x1) z0 0 z0) (λ_=>none) λz1=>some z1
def Apw(x2:Int)(x3:Int)(a0:Ak)(y1:Bool):Bool:=(((a0.Kind==x2)&&(a0.B==x3))&&y1)
def uU(x1:Ad)(x2:Int)(x3:Int)(n0:Nat)(a0:Ak)(z0:Unit):Option (Ctl Unit (Int×Bool)):=
 (Au [(((a0.Kind==x2)&&(a0.B==x3)),true)] (getI x1.Ai (cnt 0 n0)) default).bind λy1=>bif (Apw x2 x3 a0 y1)then some (.ret (a0.A,true)) else some (.next ())
def Afl(x0:Aa)(x1:Ad)(x2:Int)(x3:Int):Option (Int×Bool):=
 andThen (foldI (uU x1 x2 x3) x0.Ah 0 ()) some λz0=>some (0,false)
def Y6(x1:Ad)(x2:Int)(y1:Aj):Bool:=((!(Bl x2 0 (w64 ((x1.Ae.length:Int)-1)))) || (y1.State != 2))
def uX(x0:Aa)(x1:Ad)(x2:Int):Option (Int×Bool):=
 (Au [(!(Bl x2 0 (w64 ((x1.Ae.length:Int)-1))),false)] (getI x1.Ae x2) default).bind λy1=>bif (Y6 x1 x2 y1)then some (0,false) else (Afl x0 x1 2 x2).bind λy4=>some (y4.1,y4.2)
def uW(x0:Aa)(x1:Ad)(x2:Int):Option (Int×Bool):=
 (Afl x0 x1 3 x2).bind λy1=>some (y1.1,y1.2)
def Amk(x0:Aq):Bool:=
 ((x0.An.length:Int)==0)
def Are(n0:Nat)(a0:Aq)(z0:Unit):Option (Ctl Unit Int):=
 bif Amk a0 then some (.ret (cnt 0 n0)) else some (.next ())
def Zw(x0:List Aq):Option Int:=
 andThen (foldI Are x0 0 ()) some λz0=>some (-1)
def Adw(z0:Int×Int×(List Aq)):Bool:=decide (z0.2.1<(z0.2.2.length:Int))
def Vb(z0:Int×Int×(List Aq)):Option (Ctl (Int×Int×(List Aq)) Unit):=
 bif (Adw z0)then (getI z0.2.2 z0.2.1).bind λy5=>bif !(Amk y5)then (getI z0.2.2 z0.1).bind λy8=>(setI z0.2.2 z0.1 y5).bind λy10=>some (.next (w64 (z0.1+1),w64 (z0.2.1+1),y10)) else some (.next (z0.1,w64 (z0.2.1+1),z0.2.2)) else some (.brk (z0.1,z0.2.1,z0.2.2))
def Qk(x0:List Aq):Option ((List Aq)):=
 (Zw x0).bind λy1=>bif (y1==(-1))then some x0 else andThen (whileN Vb 1152921504606846976 (y1,w64 (y1+1),x0)) (λ_=>none) λz0=>(bndI z0.2.2.length z0.1 (z0.2.2.length:Int)).bind λu13=>(bndI (Hf z0.2.2 (Int.toNat z0.1) ((Int.toNat (z0.2.2.length:Int))-(Int.toNat z0.1)) ⟨[],[],[]⟩).length 0 z0.1).bind λu15=>some ((Hf z0.2.2 (Int.toNat z0.1) ((Int.toNat (z0.2.2.length:Int))-(Int.toNat z0.1)) ⟨[],[],[]⟩).take ((Int.toNat z0.1)-0))
def Ajk(n0:Nat)(a0:Int)(z0:(List Aq)):Option (Ctl ((List Aq)) Unit):=
 (getI z0 a0).bind λy8=>(appI 9 y8.An [cnt 0 n0]).bind λy10=>(setI z0 a0 ⟨y10,y8.Ae,y8.Ag⟩).bind λy12=>some (.next y12)
def Aqf(x0:Aa)(z1:Int×(List Aq)):Bool:=decide (z1.1<(x0.Ae.length:Int))
def Ajj(x0:Aa)(x1:Ad)(y4:(List Int))(z1:Int×(List Aq)):Option (Ctl (Int×(List Aq)) Unit):=
 bif (Aqf x0 z1)then (uX x0 x1 z1.1).bind λy15=>bif y15.2 then (getI y4 y15.1).bind λy18=>(getI z1.2 y18).bind λy20=>(appI 9 y20.Ae [z1.1]).bind λy22=>(setI z1.2 y18 ⟨y20.An,y22,y20.Ag⟩).bind λy24=>some (.next (w64 (z1.1+1),y24)) else some (.next (w64 (z1.1+1),z1.2)) else some (.brk (z1.1,z1.2))
def Aqe(x0:Aa)(z2:Int×(List Aq)):Bool:=decide (z2.1<(x0.Ag.length:Int))
def Aji(x0:Aa)(x1:Ad)(y4:(List Int))(z2:Int×(List Aq)):Option (Ctl (Int×(List Aq)) Unit):=
 bif (Aqe x0 z2)then (uW x0 x1 z2.1).bind λy27=>bif y27.2 then (getI y4 y27.1).bind λy30=>(getI z2.2 y30).bind λy32=>(appI 9 y32.Ag [z2.1]).bind λy34=>(setI z2.2 y30 ⟨y32.An,y32.Ae,y34⟩).bind λy36=>some (.next (w64 (z2.1+1),y36)) else some (.next (w64 (z2.1+1),z2.2)) else some (.brk (z2.1,z2.2))
def vO(x0:Aa)(x1:Ad):Option ((List Aq)):=
 (Iy x0 x1).bind λy1=>bif (y1 != 0)then some [] else (Afz x0 x1).bind λy4=>(mkI 73 x0.An ⟨[],[],[]⟩).bind λy6=>andThen (foldI Ajk y4 0 y6) (λ_=>none) λz0=>andThen (whileN (Ajj x0 x1 y4) 1152921504606846976 (0,z0)) (λ_=>none) λz1=>andThen (whileN (Aji x0 x1 y4) 1152921504606846976 (0,z1.2)) (λ_=>none) λz2=>(Qk z2.2).bind λy38=>some y38
def Aal(x2:Aj)(n0:Nat)(a0:Int)(z0:(List Aj)):Option (Ctl ((List Aj)) Unit):=
 (getI z0 a0).bind λy1=>(setI z0 a0 ⟨y1.State,y1.Since,x2.Ar,y1.Phase⟩).bind λy3=>(getI y3 a0).bind λy5=>(setI y3 a0 ⟨y5.State,y5.Since,y5.Ar,x2.Phase⟩).bind λy7=>some (.next y7)
def Ql(x0:Ad)(x1:List Int)(x2:Aj):Option ((List Aj)):=
 andThen (foldI (Aal x2) x1 0 x0.Ae) (λ_=>none) λz0=>some z0
def Avt(a0:Aq):Bool:=decide ((a0.Ae.length:Int)>0)
def Aqu(x1:Ad)(y4:Ad)(n0:Nat)(a0:Aq)(z0:(List Aj)):Option (Ctl ((List Aj)) Unit):=
 bif (Avt a0)then (getI a0.Ae 0).bind λy9=>(getI x1.Ae y9).bind λy11=>(Ql ⟨y4.Ai,z0,y4.Ao,y4.Al⟩ a0.Ae y11).bind λy13=>some (.next y13) else some (.next z0)
def F96(x0:Aa)(x1:Ad):Option (Ad×Int):=
 (Iy x0 x1).bind λy1=>bif (y1 != 0)then some (⟨[],[],[],[]⟩,y1) else (Mj x1).bind λy4=>(vO x0 x1).bind λy6=>andThen (foldI (Aqu x1 y4) y6 0 y4.Ae) (λ_=>none) λz0=>some (⟨y4.Ai,z0,y4.Ao,y4.Al⟩,0)
def F98(x0:Bt):Bool:=
 ((((((decide (x0.Stop>=1))&&(decide (x0.Stop<=99)))&&(decide (x0.Start>x0.Stop)))&&(decide (x0.Start<=100)))&&(decide (x0.Delay>=0)))&&(decide (x0.Delay<=600)))
def vM(x1:List Bool)(n0:Nat)(a0:Bool)(z0:Unit):Option (Ctl Unit Bool):=
 (getI x1 (cnt 0 n0)).bind λy2=>bif !(a0==y2)then some (.ret false) else some (.next ())
def vN(x0:List Bool)(x1:List Bool):Option Bool:=
 bif ((x0.length:Int) != (x1.length:Int))then some false else andThen (foldI (vM x1) x0 0 ()) some λz0=>some true
def Aqd(a0:Aj)(y2:Aj):Bool:=!((a0.State==y2.State)&&((a0.Since==y2.Since)&&((a0.Ar==y2.Ar)&&((a0.Phase==y2.Phase)&&true))))
def vK(x1:List Aj)(n0:Nat)(a0:Aj)(z0:Unit):Option (Ctl Unit Bool):=
 (getI x1 (cnt 0 n0)).bind λy2=>bif (Aqd a0 y2)then some (.ret false) else some (.next ())
def vL(x0:List Aj)(x1:List Aj):Option Bool:=
 bif ((x0.length:Int) != (x1.length:Int))then some false else andThen (foldI (vK x1) x0 0 ()) some λz0=>some true
def vI(x1:List Int)(n0:Nat)(a0:Int)(z0:Unit):Option (Ctl Unit Bool):=
 (getI x1 (cnt 0 n0)).bind λy2=>bif (a0 != y2)then some (.ret false) else some (.next ())
def vJ(x0:List Int)(x1:List Int):Option Bool:=
 bif ((x0.length:Int) != (x1.length:Int))then some false else andThen (foldI (vI x1) x0 0 ()) some λz0=>some true
def Aqc(a0:Ab)(y2:Ab):Bool:=!((a0.Kind==y2.Kind)&&((a0.Number==y2.Number)&&true))
def vG(x1:List Ab)(n0:Nat)(a0:Ab)(z0:Unit):Option (Ctl Unit Bool):=
 (getI x1 (cnt 0 n0)).bind λy2=>bif (Aqc a0 y2)then some (.ret false) else some (.next ())
def vH(x0:List Ab)(x1:List Ab):Option Bool:=
 bif ((x0.length:Int) != (x1.length:Int))then some false else andThen (foldI (vG x1) x0 0 ()) some λz0=>some true
def F99(x0:Ad)(x1:Ad):Option Bool:=
 (vN x0.Ai x1.Ai).bind λy1=>(Au [(y1,true)] (vL x0.Ae x1.Ae) default).bind λy3=>(Au [((y1&&y3),true)] (vJ x0.Ao x1.Ao) default).bind λy5=>(Au [(((y1&&y3)&&y5),true)] (vH x0.Al x1.Al) default).bind λy7=>some (((y1&&y3)&&y5)&&y7)
def Zc(x0:Int)(x1:Am):Bool:=
 ((decide (x0>=(-1)))&&(decide (x0<=x1.Time)))
def Ge(x0:A8)(x1c0:Am):Bool×Am:=
 (((!(Zc x0.High x1c0)) || (!(Zc x0.Low x1c0))),x1c0)
def Ady(z0:Sg1)(a0:A8):Bool:=(Ge a0 (⟨z0.1,(⟨z0.2.1,z0.2.2.1,z0.2.2.2.1,z0.2.2.2.2.1⟩:Ad),z0.2.2.2.2.2.1,z0.2.2.2.2.2.2⟩:Am)).1
def Vi(n0:Nat)(a0:A8)(z0:Sg1):Option (Ctl (Sg1) (Int×Am)):=
 bif (Ady z0 a0)then some (.ret (cnt 0 n0,⟨((Ge a0 ⟨z0.1,⟨z0.2.1,z0.2.2.1,z0.2.2.2.1,z0.2.2.2.2.1⟩,z0.2.2.2.2.2.1,z0.2.2.2.2.2.2⟩).2).Time,(((Ge a0 ⟨z0.1,⟨z0.2.1,z0.2.2.1,z0.2.2.2.1,z0.2.2.2.2.1⟩,z0.2.2.2.2.2.1,z0.2.2.2.2.2.2⟩).2).Power),((Ge a0 ⟨z0.1,⟨z0.2.1,z0.2.2.1,z0.2.2.2.1,z0.2.2.2.2.1⟩,z0.2.2.2.2.2.1,z0.2.2.2.2.2.2⟩).2).A_,((Ge a0 ⟨z0.1,⟨z0.2.1,z0.2.2.1,z0.2.2.2.1,z0.2.2.2.2.1⟩,z0.2.2.2.2.2.1,z0.2.2.2.2.2.2⟩).2).Be⟩)) else some (.next (((Ge a0 ⟨z0.1,⟨z0.2.1,z0.2.2.1,z0.2.2.2.1,z0.2.2.2.2.1⟩,z0.2.2.2.2.2.1,z0.2.2.2.2.2.2⟩).2).Time,(((Ge a0 ⟨z0.1,⟨z0.2.1,z0.2.2.1,z0.2.2.2.1,z0.2.2.2.2.1⟩,z0.2.2.2.2.2.1,z0.2.2.2.2.2.2⟩).2).Power).Ai,(((Ge a0 ⟨z0.1,⟨z0.2.1,z0.2.2.1,z0.2.2.2.1,z0.2.2.2.2.1⟩,z0.2.2.2.2.2.1,z0.2.2.2.2.2.2⟩).2).Power).Ae,(((Ge a0 ⟨z0.1,⟨z0.2.1,z0.2.2.1,z0.2.2.2.1,z0.2.2.2.2.1⟩,z0.2.2.2.2.2.1,z0.2.2.2.2.2.2⟩).2).Power).Ao,(((Ge a0 ⟨z0.1,⟨z0.2.1,z0.2.2.1,z0.2.2.2.1,z0.2.2.2.2.1⟩,z0.2.2.2.2.2.1,z0.2.2.2.2.2.2⟩).2).Power).Al,((Ge a0 ⟨z0.1,⟨z0.2.1,z0.2.2.1,z0.2.2.2.1,z0.2.2.2.2.1⟩,z0.2.2.2.2.2.1,z0.2.2.2.2.2.2⟩).2).A_,((Ge a0 ⟨z0.1,⟨z0.2.1,z0.2.2.1,z0.2.2.2.1,z0.2.2.2.2.1⟩,z0.2.2.2.2.2.1,z0.2.2.2.2.2.2⟩).2).Be))
def Z7(x0:List A8)(x1c0c0:Am):Option (Int×Am):=
 andThen (foldI Vi x0 0 (x1c0c0.Time,x1c0c0.Power.Ai,x1c0c0.Power.Ae,x1c0c0.Power.Ao,x1c0c0.Power.Al,x1c0c0.A_,x1c0c0.Be)) some λz0=>some ((-1),⟨z0.1,⟨z0.2.1,z0.2.2.1,z0.2.2.2.1,z0.2.2.2.2.1⟩,z0.2.2.2.2.2.1,z0.2.2.2.2.2.2⟩)
def Qn(x0:List A8)(x1c0c0:Am):Option (Bool×Am):=
 (Z7 x0 x1c0c0).bind λy1=>some (decide (y1.1>=0),y1.2)
def Av0(x1:Bt)(x2:Am):Bool:=(((!(F98 x1)) || (decide (x2.Time<0))) || (decide (x2.Time>2147483648)))
def F49(x0:Aa)(x1:Bt)(x2:Am):Option Int:=
 (F96 x0 x2.Power).bind λy1=>bif (y1.2 != 0)then some y1.2 else bif (Av0 x1 x2)then some 1 else bif ((x2.A_.length:Int) != x0.An)then some 8 else (F99 x2.Power y1.1).bind λy6=>(Au [(!y6,false)] (Qn x2.A_ x2) (default,x2)).bind λy8=>bif ((!y6) || y8.1)then some 11 else some 0
def Af8(x0:Ab):Bool:=
 ((((decide (x0.Kind>=1))&&(decide (x0.Kind<=9)))&&(decide (x0.Number>=0)))&&(decide (x0.Number<=63)))
def Af9(x0:Ab):Bool:=
 !(Af8 x0)
def Arh(n0:Nat)(a0:Ab)(z0:Unit):Option (Ctl Unit Int):=
 bif Af9 a0 then some (.ret (cnt 0 n0)) else some (.next ())
def Afy(x0:List Ab):Option Int:=
 andThen (foldI Arh x0 0 ()) some λz0=>some (-1)
def Z6(x0:List Ab):Option Bool:=
 (Afy x0).bind λy1=>some (decide (y1>=0))
def Mk(x0:Ab)(x1:Ab):Option Int:=
 (Vg [Ih x0.Kind x1.Kind,Ih x0.Number x1.Number]).bind λy1=>some y1
def Aak(x0:List Ab)(z0:Int):Option (Ctl Int Bool):=
 bif decide (z0<(x0.length:Int))then (getI x0 (w64 (z0-1))).bind λy2=>(getI x0 z0).bind λy4=>(Mk y2 y4).bind λy6=>bif decide (y6>=0)then some (.ret false) else some (.next (w64 (z0+1))) else some (.brk z0)
def Vh(x0:List Ab):Option Bool:=
 andThen (whileN (Aak x0) 1152921504606846976 1) some λz0=>some true
def Am5(x0:List Ab):Option Bool:=
 (Z6 x0).bind λy1=>(Au [(!y1,true)] (Vh x0) default).bind λy3=>some ((!y1)&&y3)
def A1n(x1:Ab)(a0:Ab):Bool:=((x1.Kind==a0.Kind)&&((x1.Number==a0.Number)&&true))
def Ayl(x1:Ab)(n0:Nat)(a0:Ab)(z0:Unit):Option (Ctl Unit Int):=
 bif (A1n x1 a0)then some (.ret (cnt 0 n0)) else some (.next ())
def Amw(x0:List Ab)(x1:Ab):Option Int:=
 andThen (foldI (Ayl x1) x0 0 ()) some λz0=>some (-1)
def Agd(x0:List Ab)(x1:Ab):Option Bool:=
 (Amw x0 x1).bind λy1=>some (decide (y1>=0))
def F53(x0:List Ab)(x1:Ab):Option Bool:=
 (Agd x0 x1).bind λy1=>some y1
def Amx(x0:Bc)(x1:Bc):Option Int:=
 (Mk x0.From x1.From).bind λy1=>(Mk x0.To x1.To).bind λy3=>(Vg [y1,y3]).bind λy5=>some y5
def Aaj(x0:List Bc)(z0:Int):Option (Ctl Int Bool):=
 bif decide (z0<(x0.length:Int))then (getI x0 (w64 (z0-1))).bind λy2=>(getI x0 z0).bind λy4=>(Amx y2 y4).bind λy6=>bif decide (y6>=0)then some (.ret false) else some (.next (w64 (z0+1))) else some (.brk z0)
def Z4(x0:List Bc):Option Bool:=
 andThen (whileN (Aaj x0) 1152921504606846976 1) some λz0=>some true
def Aqk(a0:Bc)(y1:Bool)(y3:Bool):Bool:=(((!y1) || (!y3)) || ((a0.From.Kind==a0.To.Kind)&&((a0.From.Number==a0.To.Number)&&true)))
def Ajr(x0:Ba)(n0:Nat)(a0:Bc)(z0:Unit):Option (Ctl Unit Bool):=
 (F53 x0.Parts a0.From).bind λy1=>(Au [(!y1,false)] (F53 x0.Parts a0.To) default).bind λy3=>bif (Aqk a0 y1 y3)then some (.ret false) else some (.next ())
def Am4(x0:Ba):Option Bool:=
 andThen (foldI (Ajr x0) x0.Links 0 ()) some λz0=>(Z4 x0.Links).bind λy6=>some y6
def A1p(x0:ByteArray):Bool:=((decide ((x0.size:Int)<1)) || (decide ((x0.size:Int)>12)))
def A1o(n0:Nat)(a0:Int):Bool:=((!((decide (a0>=97))&&(decide (a0<=122))))&&(((cnt 0 n0)==0) || ((a0 != 45)&&((decide (a0<48)) || (decide (a0>57))))))
def Aym(n0:Nat)(a0:Int)(z0:Unit):Option (Ctl Unit Bool):=
 bif (A1o n0 a0)then some (.ret false) else some (.next ())
def Au6(x0:ByteArray):Option Bool:=
 bif (A1p x0)then some false else (Ad6 x0).bind λy2=>andThen (foldI Aym y2 0 ()) some λz0=>some true
def Af7(x0:Bu)(x1:Bu):Bool:=
 (x0.Name.toList==x1.Name.toList)
def Aah(x1c0:Bu)(n0:Nat)(a0:Bu)(z0:Unit):Option (Ctl Unit (Int×Bu)):=
 bif Af7 a0 x1c0 then some (.ret (cnt 0 n0,x1c0)) else some (.next ())
def Afw(x0:List Bu)(x1c0:Bu):Option (Int×Bu):=
 andThen (foldI (Aah x1c0) x0 0 ()) some λz0=>some ((-1),x1c0)
def Z3(x0:List Bu)(x1c0:Bu):Option (Bool×Bu):=
 (Afw x0 x1c0).bind λy1=>some (decide (y1.1>=0),y1.2)
def Af6(x0:Ab)(x1:Ba):Option Bool:=
 (F53 x1.Parts x0).bind λy1=>some (!y1)
def Aai(x1c0:Ba)(n0:Nat)(a0:Ab)(z0:Unit):Option (Ctl Unit (Int×Ba)):=
 (Af6 a0 x1c0).bind λy1=>bif y1 then some (.ret (cnt 0 n0,x1c0)) else some (.next ())
def Afx(x0:List Ab)(x1c0:Ba):Option (Int×Ba):=
 andThen (foldI (Aai x1c0) x0 0 ()) some λz0=>some ((-1),x1c0)
def Z5(x0:List Ab)(x1c0:Ba):Option (Bool×Ba):=
 (Afx x0 x1c0).bind λy1=>some (decide (y1.1>=0),y1.2)
def Aqj(y1:Bool)(y5:Bool×Bu)(y7:Bool×Ba)(y9:Bool):Bool:=(((((!y1) || y5.1) || ((y5.2.Parts.length:Int)==0)) || y7.1) || (!y9))
def Ajq(n0:Nat)(a0:Bu)(z0:(List Ab)×(List Bc)×(List Bu)):Option (Ctl ((List Ab)×(List Bc)×(List Bu)) Bool):=
 (Au6 a0.Name).bind λy1=>(Au [(!y1,false)] (cutI z0.2.2 0 (cnt 0 n0)) default).bind λy4=>(Au [(!y1,false)] (Z3 y4 a0) (default,a0)).bind λy5=>(Au [((((!y1) || y5.1) || ((y5.2.Parts.length:Int)==0)),false)] (Z5 y5.2.Parts ⟨z0.1,z0.2.1,z0.2.2⟩) (default,⟨z0.1,z0.2.1,z0.2.2⟩)).bind λy7=>(Au [(((((!y1) || y5.1) || ((y5.2.Parts.length:Int)==0)) || y7.1),false)] (Vh y5.2.Parts) default).bind λy9=>bif (Aqj y1 y5 y7 y9)then some (.ret false) else some (.next (y7.2.Parts,y7.2.Links,y7.2.Groups))
def Am3(x0:Ba):Option Bool:=
 andThen (foldI Ajq x0.Groups 0 (x0.Parts,x0.Links,x0.Groups)) some λz0=>some true
def Alj(x0:Ba):Bool:=(((decide ((x0.Parts.length:Int)>40)) || (decide ((x0.Links.length:Int)>60))) || (decide ((x0.Groups.length:Int)>6)))
def F50(x0:Ba):Option Int:=
 bif (Alj x0)then some 2 else (Am5 x0.Parts).bind λy2=>(Au [(!y2,false)] (Am4 x0) default).bind λy4=>(Au [(((!y2) || (!y4)),false)] (Am3 x0) default).bind λy6=>bif (((!y2) || (!y4)) || (!y6))then some 63 else some 0
def F52(x0:List (List Ab)):Option (List Ab):=Iq 16 x0
def F51(x0:Ba)(x1:List Ab):Option (List Ab):=Yp F50 Sf x0 x1
def vU(x0:List A8):Option (List A8):=appI 17 [] x0
def vT(x0:List Bq):Option (List Bq):=appI 41 [] x0
def Am2(x0:Aa)(x1:Am):Option Cm:=
 (Mj x1.Power).bind λy1=>(vU x1.A_).bind λy3=>(vT x1.Be).bind λy5=>some ⟨⟨x1.Time,y1,y3,y5⟩,x0,[],[]⟩
def Ht(x0:Aa)(x1:Int)(x2:Int):Bool:=
 bif (x1==1)then ((decide (x2>=0))&&(decide (x2<(x0.Ae.length:Int)))) else bif (x1==2)then ((decide (x2>=0))&&(decide (x2<(x0.Ah.length:Int)))) else bif (x1==3)then ((decide (x2>=0))&&(decide (x2<x0.An))) else bif (x1==4)then ((decide (x2>=0))&&(decide (x2<(x0.Ag.length:Int)))) else ((decide (x2>=0))&&(decide (x2<0)))
def Aiy(x1:As):Option (Ctl Bool Unit):=
 bif (x1.Kind==1)then some (.next (x1.Kind==1)) else some (.next (x1.Kind==2))
def Aix(x1:As):Option (Ctl Bool Unit):=
 bif (x1.Kind==3)then some (.next (x1.Kind==3)) else some (.next (x1.Kind==4))
def Ami(x0:Aa)(x1:As):Option Bool:=
 andThen (Aiy x1) (λ_=>none) λz0=>bif z0 then some (Ht x0 2 x1.Unit) else andThen (Aix x1) (λ_=>none) λz1=>bif z1 then some (Ht x0 1 x1.Unit) else bif (x1.Kind==5)then some (Ht x0 4 x1.Unit) else bif (x1.Kind==6)then some ((Ht x0 1 x1.Unit)&&(Ht x0 3 x1.Value)) else bif (x1.Kind==8)then some (Ht x0 x1.Value x1.Unit) else bif (x1.Kind==9)then some (Ht x0 x1.Value x1.Unit) else some true
def Mi(x0:Ad)(x1:Int)(x2:Int):Option Bool:=
 (Agd x0.Al ⟨x1,x2⟩).bind λy1=>some y1
def Af4(x0:Aa)(x1:Ad)(x2:Int):Option (Int×Bool):=
 (Iy x0 x1).bind λy1=>bif (y1 != 0)then some (0,false) else (uW x0 x1 x2).bind λy4=>some (y4.1,y4.2)
def Al0(x0:Aa)(x1:Ad)(x2:Int):Option Bool:=
 (getI x0.Ah x2).bind λy1=>(getI x1.Ai x2).bind λy3=>(Au [(y3,false)] (Mi x1 2 x2) default).bind λy5=>(Au [((y3 || y5),false)] (Mi x1 3 y1.A) default).bind λy7=>bif ((y3 || y5) || y7)then some false else bif (y1.Kind==1)then (Mi x1 3 y1.B).bind λy11=>some (!y11) else bif (y1.Kind==2)then (Mi x1 1 y1.B).bind λy14=>(Au [(!y14,true)] (getI x1.Ae y1.B) default).bind λy16=>some ((!y14)&&(y16.State==2)) else (Af4 x0 x1 y1.B).bind λy18=>(Mi x1 4 y1.B).bind λy20=>some ((!y20)&&(!y18.2))
def Qj(x2:Int)(n0:Nat)(a0:Aq)(z0:Unit):Option (Ctl Unit (Aq×Bool)):=
 (U8 a0.An x2).bind λy3=>bif y3 then some (.ret (a0,true)) else some (.next ())
def Js(x0:Aa)(x1:Ad)(x2:Int):Option (Aq×Bool):=
 (vO x0 x1).bind λy1=>andThen (foldI (Qj x2) y1 0 ()) some λz0=>some (⟨[],[],[]⟩,false)
def uR(x0:Aa)(x1:Ad)(x2:Int):Option (Int×Bool):=
 (Js x0 x1 x2).bind λy1=>bif ((y1.1.Ae.length:Int)==0)then some (0,false) else (getI y1.1.Ae 0).bind λy4=>some (y4,true)
def E2(x0:Int):Int:=
 bif decide ((Int.tmod x0 3600)<0)then w64 ((Int.tmod x0 3600)+3600) else Int.tmod x0 3600
def A0z(x0:Int)(x1:Int):Bool:=decide ((E2 (w64 ((E2 x1)-(E2 x0))))>1800)
def Alt(x0:Int)(x1:Int):Int:=
 bif (A0z x0 x1)then w64 ((E2 (w64 ((E2 x1)-(E2 x0))))-3600) else E2 (w64 ((E2 x1)-(E2 x0)))
def A01(x1:Aj)(x2:Aj):Bool:=((decide ((min x1.Ar x2.Ar)<0)) || (decide ((max x1.Ar x2.Ar)>6000)))
def Ae2(x0:Aa)(x1:Aj)(x2:Aj):Bool:=
 bif (A01 x1 x2)then false else ((decide ((max (w64 (x1.Ar-x2.Ar)) (w64 (x2.Ar-x1.Ar)))<=x0.Ar))&&(decide ((max (Alt x1.Phase x2.Phase) (w64 (0-Alt x1.Phase x2.Phase)))<=x0.Phase)))
def Alz(x0:Aa)(x1:Ad)(x2:Ak):Option Bool:=
 (uR x0 x1 x2.A).bind λy1=>bif !y1.2 then some true else bif (x2.Kind==1)then (uR x0 x1 x2.B).bind λy5=>(Au [(!y5.2,false)] (getI x1.Ae y1.1) default).bind λy7=>(Au [(!y5.2,false)] (getI x1.Ae y5.1) default).bind λy9=>some ((!y5.2) || (Ae2 x0 y7 y9)) else bif (x2.Kind==2)then (getI x1.Ae y1.1).bind λy12=>(getI x1.Ae x2.B).bind λy14=>some (Ae2 x0 y12 y14) else some true
def App(x0:Aa)(x2:Int):Bool:=((decide (x2<0)) || (decide (x2>=(x0.Ah.length:Int))))
def Al5(x0:Aa)(x1:Ad)(x2:Int):Option Int:=
 (Iy x0 x1).bind λy1=>bif (y1 != 0)then some y1 else bif (App x0 x2)then some 10 else (Al0 x0 x1 x2).bind λy5=>bif !y5 then some 11 else (getI x0.Ah x2).bind λy8=>(Js x0 x1 y8.A).bind λy10=>(Au [((y8.Kind==1),true)] (U8 y10.1.An y8.B) default).bind λy12=>(Au [(!((y8.Kind==1)&&y12),true)] (Alz x0 x1 y8) default).bind λy14=>bif ((!((y8.Kind==1)&&y12))&&(!y14))then some 12 else some 0
def Amc(x0:Aa)(x1:Ad)(x2:Int):Option (Ad×Int):=
 (Al5 x0 x1 x2).bind λy1=>bif (y1 != 0)then some (⟨[],[],[],[]⟩,y1) else (Mj x1).bind λy4=>(getI y4.Ai x2).bind λy6=>(setI y4.Ai x2 true).bind λy8=>(F96 x0 ⟨y8,y4.Ae,y4.Ao,y4.Al⟩).bind λy10=>some (y10.1,y10.2)
def Apv(x0:Aa)(x2:Int):Bool:=((decide (x2<0)) || (decide (x2>=(x0.Ah.length:Int))))
def Amb(x0:Aa)(x1:Ad)(x2:Int):Option (Ad×Int):=
 (Iy x0 x1).bind λy1=>bif (y1 != 0)then some (⟨[],[],[],[]⟩,y1) else bif (Apv x0 x2)then some (⟨[],[],[],[]⟩,10) else (getI x1.Ai x2).bind λy5=>(Au [(!y5,false)] (Mi x1 2 x2) default).bind λy7=>bif ((!y5) || y7)then some (⟨[],[],[],[]⟩,11) else (Mj x1).bind λy10=>(getI y10.Ai x2).bind λy12=>(setI y10.Ai x2 false).bind λy14=>some (⟨y14,y10.Ae,y10.Ao,y10.Al⟩,0)
def Auu(x0:Aa)(x1:Ad)(x2:Int):Option (Int×Bool):=
 (Iy x0 x1).bind λy1=>bif (y1 != 0)then some (0,false) else (uX x0 x1 x2).bind λy4=>some (y4.1,y4.2)
def Apu(x0:Aa)(x2:Int)(x3:Int):Bool:=((((decide (x2<0)) || (decide (x2>=(x0.Ae.length:Int)))) || (decide (x3<0))) || (decide (x3>=x0.An)))
def Ama(x0:Aa)(x1:Ad)(x2:Int)(x3:Int):Option (Ad×Int):=
 (Iy x0 x1).bind λy1=>bif (y1 != 0)then some (⟨[],[],[],[]⟩,y1) else bif (Apu x0 x2 x3)then some (⟨[],[],[],[]⟩,10) else (uR x0 x1 x3).bind λy5=>(Au [(!y5.2,false)] (getI x1.Ae x2) default).bind λy7=>bif ((!y5.2) || (y7.State != 2))then some (⟨[],[],[],[]⟩,11) else (Mj x1).bind λy10=>(Auu x0 x1 x2).bind λy12=>bif y12.2 then (Js x0 x1 y12.1).bind λy15=>(getI x1.Ae y5.1).bind λy17=>(Ql y10 y15.1.Ae y17).bind λy19=>some (⟨y10.Ai,y19,y10.Ao,y10.Al⟩,0) else (getI x1.Ae y5.1).bind λy21=>(Ql y10 [x2] y21).bind λy23=>some (⟨y10.Ai,y23,y10.Ao,y10.Al⟩,0)
def Ae0(x0:Ak)(x1:Int):Bool:=
 ((x0.Kind==2)&&(x0.B==x1))
def Uw(x1c0:Int)(n0:Nat)(a0:Ak)(z0:Unit):Option (Ctl Unit (Int×Int)):=
 bif Ae0 a0 x1c0 then some (.ret (cnt 0 n0,x1c0)) else some (.next ())
def Ae1(x0:List Ak)(x1c0:Int):Option (Int×Int):=
 andThen (foldI (Uw x1c0) x0 0 ()) some λz0=>some ((-1),x1c0)
def Aly(x0:Aa)(x1:Int):Option Int:=
 (Ae1 x0.Ah x1).bind λy1=>some y1.1
def Qi(x0:Bb)(x1:Int):Option Bool:=
 (Aly x0.Ap x1).bind λy1=>(getI x0.Av.Ai y1).bind λy3=>some (!y3)
def Zu(x0:Bb)(x1:Int):Option (Int×Bb):=
 (getI x0.Av.Ae x1).bind λy1=>(Au [((y1.State != 0),false)] (Mi x0.Av 1 x1) default).bind λy3=>bif ((y1.State != 0) || y3)then some (11,x0) else (getI x0.Ap.Ae x1).bind λy6=>(Au [((y6.Start==0),true)] (Qi x0 x1) default).bind λy8=>bif ((y6.Start==0)&&y8)then (setI x0.Av.Ae x1 ⟨2,x0.time,5000,0⟩).bind λy11=>some (0,⟨x0.Ap,⟨x0.Av.Ai,y11,x0.Av.Ao,x0.Av.Al⟩,x0.time⟩) else (setI x0.Av.Ae x1 ⟨1,x0.time,5000,0⟩).bind λy13=>some (0,⟨x0.Ap,⟨x0.Av.Ai,y13,x0.Av.Ao,x0.Av.Al⟩,x0.time⟩)
def Atv(y1:Aj)(y3:Bool):Bool:=(((y1.State != 1)&&(y1.State != 2)) || (!y3))
def Zt(x0:Bb)(x1:Int):Option (Int×Bb):=
 (getI x0.Av.Ae x1).bind λy1=>(Au [(((y1.State != 1)&&(y1.State != 2)),false)] (Qi x0 x1) default).bind λy3=>bif (Atv y1 y3)then some (11,x0) else (setI x0.Av.Ae x1 ⟨0,y1.Since,y1.Ar,y1.Phase⟩).bind λy6=>some (0,⟨x0.Ap,⟨x0.Av.Ai,y6,x0.Av.Ao,x0.Av.Al⟩,x0.time⟩)
def Adt(x2:Int)(y1:A7):Bool:=((decide (x2<0)) || (decide (x2>y1.Load)))
def Zs(x0:Bb)(x1:Int)(x2:Int):Option (Int×Bb):=
 (Au [(decide (x2<0),false)] (getI x0.Ap.Ag x1) default).bind λy1=>bif (Adt x2 y1)then some (1,x0) else (getI x0.Av.Ao x1).bind λy4=>(setI x0.Av.Ao x1 x2).bind λy6=>some (0,⟨x0.Ap,⟨x0.Av.Ai,x0.Av.Ae,y6,x0.Av.Al⟩,x0.time⟩)
def Aio(n0:Nat)(a0:Aj)(z0:(List Aj)):Option (Ctl ((List Aj)) Unit):=
 bif (a0.State==2)then (getI z0 (cnt 0 n0)).bind λy7=>(setI z0 (cnt 0 n0) ⟨y7.State,y7.Since,y7.Ar,E2 (w64 (a0.Phase+(w64 (36*(w64 (a0.Ar-5000))))))⟩).bind λy9=>some (.next y9) else some (.next z0)
def Al4(x0:Aa)(x1:Ad):Option (Ad×Int):=
 (Iy x0 x1).bind λy1=>bif (y1 != 0)then some (⟨[],[],[],[]⟩,y1) else (Mj x1).bind λy4=>andThen (foldI Aio x1.Ae 0 y4.Ae) (λ_=>none) λz0=>some (⟨y4.Ai,z0,y4.Ao,y4.Al⟩,0)
def Ads(y1:Ad×Int)(z0:Int×(List Aj)):Bool:=decide (z0.1<(y1.1.Ae.length:Int))
def Atu(x0:Bb)(y4:Aj)(y6:Bool)(y8:B5):Bool:=(((y4.State==1)&&y6)&&(decide ((w64 (y4.Since+y8.Start))<=(w64 (x0.time+1)))))
def Aad(x0:Bb)(y1:Ad×Int)(z0:Int×(List Aj)):Option (Ctl (Int×(List Aj)) Unit):=
 bif (Ads y1 z0)then (getI z0.2 z0.1).bind λy4=>(Au [((y4.State==1),true)] (Qi ⟨x0.Ap,⟨y1.1.Ai,z0.2,y1.1.Ao,y1.1.Al⟩,x0.time⟩ z0.1) default).bind λy6=>(Au [(((y4.State==1)&&y6),true)] (getI x0.Ap.Ae z0.1) default).bind λy8=>bif (Atu x0 y4 y6 y8)then (setI z0.2 z0.1 ⟨2,y4.Since,y4.Ar,y4.Phase⟩).bind λy11=>some (.next (w64 (z0.1+1),y11)) else some (.next (w64 (z0.1+1),z0.2)) else some (.brk (z0.1,z0.2))
def Zr(x0:Bb):Option Bb:=
 (Al4 x0.Ap x0.Av).bind λy1=>andThen (whileN (Aad x0 y1) 1152921504606846976 (0,y1.1.Ae)) (λ_=>none) λz0=>some ⟨x0.Ap,⟨y1.1.Ai,z0.2,y1.1.Ao,y1.1.Al⟩,x0.time⟩
def Sb(x0:Ab)(x1:Ab):Int:=
 bif (x0.Kind != x1.Kind)then w64 (x0.Kind-x1.Kind) else w64 (x0.Number-x1.Number)
def zV(x0:List Ab)(x1:Ab)(z0:Int×Int):Option (Ctl (Int×Int) Unit):=
 bif decide (z0.1<z0.2)then (getI x0 (w64 (S7 .u64 (IntKind.wrap .u64 (w64 (z0.1+z0.2))) 1))).bind λy2=>bif decide ((Sb y2 x1)<0)then some (.next (w64 ((w64 (S7 .u64 (IntKind.wrap .u64 (w64 (z0.1+z0.2))) 1))+1),z0.2)) else some (.next (z0.1,w64 (S7 .u64 (IntKind.wrap .u64 (w64 (z0.1+z0.2))) 1))) else some (.brk (z0.1,z0.2))
def Zk(x0:List Ab)(x1:Ab):Option (Int×Bool):=
 andThen (whileN (zV x0 x1) 1152921504606846976 (0,(x0.length:Int))) (λ_=>none) λz0=>(Au [(decide (z0.1<(x0.length:Int)),true)] (getI x0 z0.1) default).bind λy5=>some (z0.1,((decide (z0.1<(x0.length:Int)))&&((Sb y5 x1)==0)))
def Qh(x0:List Ab)(x1:Int)(x2:List Ab):Option ((List Ab)):=
 (bndI x0.length x1 (x0.length:Int)).bind λu2=>bif ((x2.length:Int)==0)then some x0 else bif (x1==(x0.length:Int))then (appI 17 x0 x2).bind λy5=>some y5 else insI 17 x0 x1 x2
def Uy(x0:List Ab)(x1:Int)(x2:Int):Option ((List Ab)):=
 (bnd3I x0.length x1 x2 (x0.length:Int)).bind λu2=>bif (x1==x2)then some x0 else (bndI x0.length 0 x1).bind λu5=>(bndI x0.length x2 (x0.length:Int)).bind λu7=>(appPI x0 ((Int.toNat x1)-0) ((x0.drop (Int.toNat x2)).take ((Int.toNat (x0.length:Int))-(Int.toNat x2)))).bind λy8=>(bndI (y8.length-0) (((((Int.toNat x1)-0)+((x0.drop (Int.toNat x2)).take ((Int.toNat (x0.length:Int))-(Int.toNat x2))).length):Nat):Int) (x0.length:Int)).bind λu11=>some ((Hf y8 (0+(Int.toNat (((((Int.toNat x1)-0)+((x0.drop (Int.toNat x2)).take ((Int.toNat (x0.length:Int))-(Int.toNat x2))).length):Nat):Int))) ((Int.toNat (x0.length:Int))-(Int.toNat (((((Int.toNat x1)-0)+((x0.drop (Int.toNat x2)).take ((Int.toNat (x0.length:Int))-(Int.toNat x2))).length):Nat):Int))) ⟨0,0⟩).take (((Int.toNat x1)-0)+((x0.drop (Int.toNat x2)).take ((Int.toNat (x0.length:Int))-(Int.toNat x2))).length))
def Rz(x0:Bb)(x2:Bool):Bool:=(x2&&(decide ((x0.Av.Al.length:Int)>=32)))
def U7(x0:Bb)(x1:Ab)(x2:Bool)(y1:Int×Bool):Option (Ctl ((List Ab)) Unit):=
 bif x2 then (Qh x0.Av.Al y1.1 [x1]).bind λy6=>some (.next y6) else (Uy x0.Av.Al y1.1 (w64 (y1.1+1))).bind λy8=>some (.next y8)
def I7(x0:Bb)(x1:Ab)(x2:Bool):Option (Int×Bb):=
 (Zk x0.Av.Al x1).bind λy1=>bif (y1.2==x2)then some (11,x0) else bif (Rz x0 x2)then some (2,x0) else andThen (U7 x0 x1 x2 y1) (λ_=>none) λz0=>bif (x1.Kind==1)then (getI x0.Av.Ae x1.Number).bind λy11=>(setI x0.Av.Ae x1.Number ⟨0,y11.Since,y11.Ar,y11.Phase⟩).bind λy13=>bif x2 then (getI y13 x1.Number).bind λy16=>(setI y13 x1.Number ⟨3,y16.Since,y16.Ar,y16.Phase⟩).bind λy18=>some (0,⟨x0.Ap,⟨x0.Av.Ai,y18,x0.Av.Ao,z0⟩,x0.time⟩) else some (0,⟨x0.Ap,⟨x0.Av.Ai,y13,x0.Av.Ao,z0⟩,x0.time⟩) else some (0,⟨x0.Ap,⟨x0.Av.Ai,x0.Av.Ae,x0.Av.Ao,z0⟩,x0.time⟩)
def Z0(x0:Bb)(x1:As):Option (Int×Bb):=
 bif (x1.Kind==1)then (Amc x0.Ap x0.Av x1.Unit).bind λy2=>some (y2.2,⟨x0.Ap,y2.1,x0.time⟩) else bif (x1.Kind==2)then (Amb x0.Ap x0.Av x1.Unit).bind λy5=>some (y5.2,⟨x0.Ap,y5.1,x0.time⟩) else bif (x1.Kind==6)then (Ama x0.Ap x0.Av x1.Unit x1.Value).bind λy8=>some (y8.2,⟨x0.Ap,y8.1,x0.time⟩) else bif (x1.Kind==3)then (Zu x0 x1.Unit).bind λy11=>some (y11.1,y11.2) else bif (x1.Kind==4)then (Zt x0 x1.Unit).bind λy14=>some (y14.1,y14.2) else bif (x1.Kind==5)then (Zs x0 x1.Unit x1.Value).bind λy17=>some (y17.1,y17.2) else bif (x1.Kind==7)then (Zr x0).bind λy20=>some (0,y20) else (I7 x0 ⟨x1.Value,x1.Unit⟩ (x1.Kind==8)).bind λy22=>some (y22.1,y22.2)
def Ap8(x2:Int)(x3:As):Bool:=((((decide (x2<0)) || (decide (x2>2147483648))) || (decide (x3.Kind<1))) || (decide (x3.Kind>9)))
def vE(x0:Aa)(x1:Ad)(x2:Int)(x3:As):Option (Ad×Int):=
 (Iy x0 x1).bind λy1=>bif (y1 != 0)then some (⟨[],[],[],[]⟩,y1) else bif (Ap8 x2 x3)then some (⟨[],[],[],[]⟩,1) else (Ami x0 x3).bind λy5=>bif !y5 then some (⟨[],[],[],[]⟩,10) else (Mj x1).bind λy8=>(Z0 ⟨x0,y8,x2⟩ x3).bind λy10=>bif (y10.1 != 0)then some (⟨[],[],[],[]⟩,y10.1) else some (y10.2.Av,0)
def Vd(x0:Cm)(x1:As)(x2:Int):Option Cm:=
 (appI 41 x0.events [⟨x0.Bi.Time,x1,x2⟩]).bind λy1=>some ⟨x0.Bi,x0.Ap,y1,x0.states⟩
def N5(x0:Cm)(x1:Ad):Option Cm:=
 (Mj x1).bind λy3=>(appI 97 x0.states [y3]).bind λy5=>some ⟨x0.Bi,x0.Ap,x0.events,y5⟩
def N4(x0:Int)(x1:Int)(x2:A2):Option (Bool×A2):=
 (Mi x2.Av x0 x1).bind λy1=>some (y1,x2)
def Zn(x0:A2)(x1:Ak):Option (Bool×A2):=
 (N4 3 x1.A x0).bind λy1=>bif y1.1 then some (true,y1.2) else bif (x1.Kind==1)then (N4 3 x1.B y1.2).bind λy5=>some (y5.1,y5.2) else bif (x1.Kind==2)then (N4 1 x1.B y1.2).bind λy8=>(Au [(y8.1,false)] (getI y8.2.Av.Ae x1.B) default).bind λy10=>some ((y8.1 || (y10.State != 2)),y8.2) else (N4 4 x1.B y1.2).bind λy12=>some (y12.1,y12.2)
def Qg(x0:A2)(x1:Int):Option A2:=
 (getI x0.Av.Ai x1).bind λy1=>(setI x0.Av.Ai x1 false).bind λy3=>(appI 25 x0.acts [⟨2,x1,0⟩]).bind λy5=>some ⟨x0.Ap,⟨y3,x0.Av.Ae,x0.Av.Ao,x0.Av.Al⟩,y5⟩
def Aac(n0:Nat)(a0:Ak)(z0:Alp):Option (Ctl (Alp) Unit):=
 (getI z0.2.2.2.2.2.2.2.1 (cnt 0 n0)).bind λy1=>(Au [(y1,true)] (Zn ⟨⟨z0.1,z0.2.1,z0.2.2.1,z0.2.2.2.1,z0.2.2.2.2.1,z0.2.2.2.2.2.1⟩,⟨z0.2.2.2.2.2.2.2.1,z0.2.2.2.2.2.2.2.2.1,z0.2.2.2.2.2.2.2.2.2.1,z0.2.2.2.2.2.2.2.2.2.2.1⟩,z0.2.2.2.2.2.2.2.2.2.2.2⟩ a0) (default,⟨⟨z0.1,z0.2.1,z0.2.2.1,z0.2.2.2.1,z0.2.2.2.2.1,z0.2.2.2.2.2.1⟩,⟨z0.2.2.2.2.2.2.2.1,z0.2.2.2.2.2.2.2.2.1,z0.2.2.2.2.2.2.2.2.2.1,z0.2.2.2.2.2.2.2.2.2.2.1⟩,z0.2.2.2.2.2.2.2.2.2.2.2⟩)).bind λy3=>bif (y1&&y3.1)then (appI 9 z0.2.2.2.2.2.2.1 [cnt 0 n0]).bind λy6=>some (.next (y3.2.Ap.An,y3.2.Ap.Ah,y3.2.Ap.Ae,y3.2.Ap.Ag,y3.2.Ap.Phase,y3.2.Ap.Ar,y6,y3.2.Av.Ai,y3.2.Av.Ae,y3.2.Av.Ao,y3.2.Av.Al,y3.2.acts)) else some (.next (y3.2.Ap.An,y3.2.Ap.Ah,y3.2.Ap.Ae,y3.2.Ap.Ag,y3.2.Ap.Phase,y3.2.Ap.Ar,z0.2.2.2.2.2.2.1,y3.2.Av.Ai,y3.2.Av.Ae,y3.2.Av.Ao,y3.2.Av.Al,y3.2.acts))
def U6(n1:Nat)(a1:Int)(z1:Sg9):Option (Ctl (Sg9) Unit):=
 (Qg ⟨⟨z1.1,z1.2.1,z1.2.2.1,z1.2.2.2.1,z1.2.2.2.2.1,z1.2.2.2.2.2.1⟩,⟨z1.2.2.2.2.2.2.1,z1.2.2.2.2.2.2.2.1,z1.2.2.2.2.2.2.2.2.1,z1.2.2.2.2.2.2.2.2.2.1⟩,z1.2.2.2.2.2.2.2.2.2.2⟩ a1).bind λy8=>some (.next (y8.Ap.An,y8.Ap.Ah,y8.Ap.Ae,y8.Ap.Ag,y8.Ap.Phase,y8.Ap.Ar,y8.Av.Ai,y8.Av.Ae,y8.Av.Ao,y8.Av.Al,y8.acts))
def Zq(x0:A2):Option A2:=
 andThen (foldI Aac x0.Ap.Ah 0 (x0.Ap.An,x0.Ap.Ah,x0.Ap.Ae,x0.Ap.Ag,x0.Ap.Phase,x0.Ap.Ar,[],x0.Av.Ai,x0.Av.Ae,x0.Av.Ao,x0.Av.Al,x0.acts)) (λ_=>none) λz0=>andThen (foldI U6 z0.2.2.2.2.2.2.1 0 (z0.1,z0.2.1,z0.2.2.1,z0.2.2.2.1,z0.2.2.2.2.1,z0.2.2.2.2.2.1,z0.2.2.2.2.2.2.2.1,z0.2.2.2.2.2.2.2.2.1,z0.2.2.2.2.2.2.2.2.2.1,z0.2.2.2.2.2.2.2.2.2.2.1,z0.2.2.2.2.2.2.2.2.2.2.2)) (λ_=>none) λz1=>some ⟨⟨z1.1,z1.2.1,z1.2.2.1,z1.2.2.2.1,z1.2.2.2.2.1,z1.2.2.2.2.2.1⟩,⟨z1.2.2.2.2.2.2.1,z1.2.2.2.2.2.2.2.1,z1.2.2.2.2.2.2.2.2.1,z1.2.2.2.2.2.2.2.2.2.1⟩,z1.2.2.2.2.2.2.2.2.2.2⟩
def Af3(x0:Aa)(x1:Ad)(x2:Int):Option Bool:=
 (Js x0 x1 x2).bind λy1=>some (decide ((y1.1.Ae.length:Int)>0))
def Zm(x0:Ak)(x1:A2):Option (Bool×A2):=
 (Au [((x0.Kind==3),true)] (Af3 x1.Ap x1.Av x0.A) default).bind λy1=>some (((x0.Kind==3)&&(!y1)),x1)
def Aab(n0:Nat)(a0:Ak)(z0:Alp):Option (Ctl (Alp) Unit):=
 (getI z0.2.2.2.2.2.2.2.1 (cnt 0 n0)).bind λy1=>(Au [(y1,true)] (Zm a0 ⟨⟨z0.1,z0.2.1,z0.2.2.1,z0.2.2.2.1,z0.2.2.2.2.1,z0.2.2.2.2.2.1⟩,⟨z0.2.2.2.2.2.2.2.1,z0.2.2.2.2.2.2.2.2.1,z0.2.2.2.2.2.2.2.2.2.1,z0.2.2.2.2.2.2.2.2.2.2.1⟩,z0.2.2.2.2.2.2.2.2.2.2.2⟩) (default,⟨⟨z0.1,z0.2.1,z0.2.2.1,z0.2.2.2.1,z0.2.2.2.2.1,z0.2.2.2.2.2.1⟩,⟨z0.2.2.2.2.2.2.2.1,z0.2.2.2.2.2.2.2.2.1,z0.2.2.2.2.2.2.2.2.2.1,z0.2.2.2.2.2.2.2.2.2.2.1⟩,z0.2.2.2.2.2.2.2.2.2.2.2⟩)).bind λy3=>bif (y1&&y3.1)then (appI 9 z0.2.2.2.2.2.2.1 [cnt 0 n0]).bind λy6=>some (.next (y3.2.Ap.An,y3.2.Ap.Ah,y3.2.Ap.Ae,y3.2.Ap.Ag,y3.2.Ap.Phase,y3.2.Ap.Ar,y6,y3.2.Av.Ai,y3.2.Av.Ae,y3.2.Av.Ao,y3.2.Av.Al,y3.2.acts)) else some (.next (y3.2.Ap.An,y3.2.Ap.Ah,y3.2.Ap.Ae,y3.2.Ap.Ag,y3.2.Ap.Phase,y3.2.Ap.Ar,z0.2.2.2.2.2.2.1,y3.2.Av.Ai,y3.2.Av.Ae,y3.2.Av.Ao,y3.2.Av.Al,y3.2.acts))
def Ard(n1:Nat)(a1:Int)(z1:Sg9):Option (Ctl (Sg9) Unit):=
 (Qg ⟨⟨z1.1,z1.2.1,z1.2.2.1,z1.2.2.2.1,z1.2.2.2.2.1,z1.2.2.2.2.2.1⟩,⟨z1.2.2.2.2.2.2.1,z1.2.2.2.2.2.2.2.1,z1.2.2.2.2.2.2.2.2.1,z1.2.2.2.2.2.2.2.2.2.1⟩,z1.2.2.2.2.2.2.2.2.2.2⟩ a1).bind λy8=>some (.next (y8.Ap.An,y8.Ap.Ah,y8.Ap.Ae,y8.Ap.Ag,y8.Ap.Phase,y8.Ap.Ar,y8.Av.Ai,y8.Av.Ae,y8.Av.Ao,y8.Av.Al,y8.acts))
def Zp(x0:A2):Option A2:=
 andThen (foldI Aab x0.Ap.Ah 0 (x0.Ap.An,x0.Ap.Ah,x0.Ap.Ae,x0.Ap.Ag,x0.Ap.Phase,x0.Ap.Ar,[],x0.Av.Ai,x0.Av.Ae,x0.Av.Ao,x0.Av.Al,x0.acts)) (λ_=>none) λz0=>andThen (foldI Ard z0.2.2.2.2.2.2.1 0 (z0.1,z0.2.1,z0.2.2.1,z0.2.2.2.1,z0.2.2.2.2.1,z0.2.2.2.2.2.1,z0.2.2.2.2.2.2.2.1,z0.2.2.2.2.2.2.2.2.1,z0.2.2.2.2.2.2.2.2.2.1,z0.2.2.2.2.2.2.2.2.2.2.1,z0.2.2.2.2.2.2.2.2.2.2.2)) (λ_=>none) λz1=>some ⟨⟨z1.1,z1.2.1,z1.2.2.1,z1.2.2.2.1,z1.2.2.2.2.1,z1.2.2.2.2.2.1⟩,⟨z1.2.2.2.2.2.2.1,z1.2.2.2.2.2.2.2.1,z1.2.2.2.2.2.2.2.2.1,z1.2.2.2.2.2.2.2.2.2.1⟩,z1.2.2.2.2.2.2.2.2.2.2⟩
def Zz(x0:A2):Option A2:=
 (Zq x0).bind λy1=>(Zp y1).bind λy3=>(F96 y3.Ap y3.Av).bind λy5=>some ⟨y3.Ap,y5.1,y3.acts⟩
def Qf(x0:Int)(x1:Int)(x2:Aa):Option Int:=
 (getI x2.Ag x0).bind λy1=>(getI x2.Ag x1).bind λy3=>some (Ih y1.B2 y3.B2)
def Xk(x1:Int)(z1:Int×(List Int))(y12:Int):Bool:=((decide (z1.1>x1))&&(decide (y12<0)))
def Uv(x1:Int)(x3c0:Aa)(z1:Int×(List Int)):Option (Ctl (Int×(List Int)) Unit):=
 (Au [(decide (z1.1>x1),true)] (getI z1.2 z1.1) default).bind λy8=>(Au [(decide (z1.1>x1),true)] (getI z1.2 (w64 (z1.1-1))) default).bind λy10=>(Au [(decide (z1.1>x1),true)] (Qf y8 y10 x3c0) default).bind λy12=>bif (Xk x1 z1 y12)then (getI z1.2 (w64 (z1.1-1))).bind λy15=>(getI z1.2 z1.1).bind λy17=>(setI z1.2 z1.1 y15).bind λy19=>(getI y19 (w64 (z1.1-1))).bind λy21=>(setI y19 (w64 (z1.1-1)) y17).bind λy23=>some (.next (w64 (z1.1-1),y23)) else some (.brk (z1.1,z1.2))
def zM(x1:Int)(x2:Int)(x3c0:Aa)(z0:Int×(List Int)):Option (Ctl (Int×(List Int)) Unit):=
 bif decide (z0.1<x2)then andThen (whileN (Uv x1 x3c0) 1152921504606846976 (z0.1,z0.2)) (λ_=>none) λz1=>some (.next (w64 (z0.1+1),z1.2)) else some (.brk (z0.1,z0.2))
def Zf(x0:List Int)(x1:Int)(x2:Int)(x3c0:Aa):Option ((List Int)×Aa):=
 andThen (whileN (zM x1 x2 x3c0) 1152921504606846976 (w64 (x1+1),x0)) (λ_=>none) λz0=>some (z0.2,x3c0)
def zS(x1:Int)(z0:Int×Int×(List Int)×Int×(List Ak)×(List B5)×(List A7)×Int×Int):Option (Ctl (Int×Int×(List Int)×Int×(List Ak)×(List B5)×(List A7)×Int×Int) Unit):=
 bif decide (z0.2.1<=x1)then (Zf z0.2.2.1 z0.1 z0.2.1 ⟨z0.2.2.2.1,z0.2.2.2.2.1,z0.2.2.2.2.2.1,z0.2.2.2.2.2.2.1,z0.2.2.2.2.2.2.2.1,z0.2.2.2.2.2.2.2.2⟩).bind λy2=>some (.next (z0.2.1,w64 (z0.2.1+20),y2.1,y2.2.An,y2.2.Ah,y2.2.Ae,y2.2.Ag,y2.2.Phase,y2.2.Ar)) else some (.brk (z0.1,z0.2.1,z0.2.2.1,z0.2.2.2.1,z0.2.2.2.2.1,z0.2.2.2.2.2.1,z0.2.2.2.2.2.2.1,z0.2.2.2.2.2.2.2.1,z0.2.2.2.2.2.2.2.2))
def A3x(x1:Int)(z2:Unit):Option (Ctl Unit Unit):=
 bif decide (40<=x1)then none else some (.brk ())
def zR(x1:Int)(z1:Unit):Option (Ctl Unit Unit):=
 bif decide (20<x1)then none else some (.brk ())
def Ae9(x0:List Int)(x1:Int)(x2c0:Aa):Option ((List Int)×Aa):=
 andThen (whileN (zS x1) 1152921504606846976 (0,20,x0,x2c0.An,x2c0.Ah,x2c0.Ae,x2c0.Ag,x2c0.Phase,x2c0.Ar)) (λ_=>none) λz0=>(Zf z0.2.2.1 z0.1 x1 ⟨z0.2.2.2.1,z0.2.2.2.2.1,z0.2.2.2.2.2.1,z0.2.2.2.2.2.2.1,z0.2.2.2.2.2.2.2.1,z0.2.2.2.2.2.2.2.2⟩).bind λy4=>andThen (whileN (zR x1) 1152921504606846976 ()) (λ_=>none) λz1=>some (y4.1,y4.2)
def Zj(x0:List Int)(x1c0:Aa):Option ((List Int)×Aa):=
 (Ae9 x0 (x0.length:Int) x1c0).bind λy1=>some (y1.1,y1.2)
def Apt(x0:Aa)(z0:Int×(List Int)):Bool:=decide (z0.1<(x0.Ag.length:Int))
def Aiu(x0:Aa)(z0:Int×(List Int)):Option (Ctl (Int×(List Int)) Unit):=
 bif (Apt x0 z0)then (appI 9 z0.2 [z0.1]).bind λy5=>some (.next (w64 (z0.1+1),y5)) else some (.brk (z0.1,z0.2))
def uT(x0:Aa):Option ((List Int)):=
 (Af5 x0).bind λy1=>bif (y1 != 0)then some [] else andThen (whileN (Aiu x0) 1152921504606846976 (0,[])) (λ_=>none) λz0=>(Zj z0.2 x0).bind λy7=>some y7.1
def U3(x0:Int)(x1:Aq):Option Bool:=
 (U8 x1.Ag x0).bind λy1=>some (!y1)
def U_(x1c0:Aq)(n0:Nat)(a0:Int)(z0:Unit):Option (Ctl Unit (Int×Aq)):=
 (U3 a0 x1c0).bind λy1=>bif y1 then some (.ret (cnt 0 n0,x1c0)) else some (.next ())
def Afo(x0:List Int)(x1c0:Aq):Option (Int×Aq):=
 andThen (foldI (U_ x1c0) x0 0 ()) some λz0=>some ((-1),x1c0)
def Adr(z0:Int×Int×(List Int)):Bool:=decide (z0.2.1<(z0.2.2.length:Int))
def U4(y1:Int×Aq)(z0:Int×Int×(List Int)):Option (Ctl (Int×Int×(List Int)) Unit):=
 bif (Adr z0)then (getI z0.2.2 z0.2.1).bind λy5=>(U3 y5 y1.2).bind λy7=>bif !y7 then (getI z0.2.2 z0.1).bind λy10=>(setI z0.2.2 z0.1 y5).bind λy12=>some (.next (w64 (z0.1+1),w64 (z0.2.1+1),y12)) else some (.next (z0.1,w64 (z0.2.1+1),z0.2.2)) else some (.brk (z0.1,z0.2.1,z0.2.2))
def U5(x0:List Int)(x1c0:Aq):Option ((List Int)×Aq):=
 (Afo x0 x1c0).bind λy1=>bif (y1.1==(-1))then some (x0,y1.2) else andThen (whileN (U4 y1) 1152921504606846976 (y1.1,w64 (y1.1+1),x0)) (λ_=>none) λz0=>(bndI z0.2.2.length z0.1 (z0.2.2.length:Int)).bind λu15=>(bndI (Hf z0.2.2 (Int.toNat z0.1) ((Int.toNat (z0.2.2.length:Int))-(Int.toNat z0.1)) 0).length 0 z0.1).bind λu17=>some (((Hf z0.2.2 (Int.toNat z0.1) ((Int.toNat (z0.2.2.length:Int))-(Int.toNat z0.1)) 0).take ((Int.toNat z0.1)-0)),y1.2)
def uO(x1:Ad)(y1:Aq×Bool)(n0:Nat)(a0:Int)(z0:Int):Option (Ctl Int Unit):=
 bif decide ((y1.1.Ae.length:Int)>0)then (getI x1.Ao a0).bind λy4=>some (.next (w64 (z0+y4))) else some (.next z0)
def Ae8(x0:Aa)(x1:Ad)(x2:Int):Option Int:=
 (Js x0 x1 x2).bind λy1=>andThen (foldI (uO x1 y1) y1.1.Ag 0 0) (λ_=>none) λz0=>some z0
def Ail(x0:Aa)(n0:Nat)(a0:Int)(z0:Int):Option (Ctl Int Unit):=
 (getI x0.Ae a0).bind λy3=>some (.next (w64 (z0+y3.Rating)))
def Ae7(x0:Aa)(x1:Ad)(x2:Int):Option Int:=
 (Js x0 x1 x2).bind λy1=>andThen (foldI (Ail x0) y1.1.Ae 0 0) (λ_=>none) λz0=>some z0
def Ux(x0:A2)(x1:Int):Option Int:=
 (Ae8 x0.Ap x0.Av x1).bind λy1=>(Ae7 x0.Ap x0.Av x1).bind λy3=>some (max 0 (w64 (y1-y3)))
def Ark(n0:Nat)(a0:Int)(z0:(List Aq)):Option (Ctl ((List Aq)) Unit):=
 (getI z0 a0).bind λy8=>(appI 9 y8.An [cnt 0 n0]).bind λy10=>(setI z0 a0 ⟨y10,y8.Ae,y8.Ag⟩).bind λy12=>some (.next y12)
def Atx(x0:Aa)(z1:Int×(List Aq)):Bool:=decide (z1.1<(x0.Ae.length:Int))
def Arj(x0:Aa)(x1:Ad)(y4:(List Int))(z1:Int×(List Aq)):Option (Ctl (Int×(List Aq)) Unit):=
 bif (Atx x0 z1)then (uX x0 x1 z1.1).bind λy15=>bif y15.2 then (getI y4 y15.1).bind λy18=>(getI z1.2 y18).bind λy20=>(appI 9 y20.Ae [z1.1]).bind λy22=>(setI z1.2 y18 ⟨y20.An,y22,y20.Ag⟩).bind λy24=>some (.next (w64 (z1.1+1),y24)) else some (.next (w64 (z1.1+1),z1.2)) else some (.brk (z1.1,z1.2))
def Atw(x0:Aa)(z2:Int×(List Aq)):Bool:=decide (z2.1<(x0.Ag.length:Int))
def Ari(x0:Aa)(x1:Ad)(y4:(List Int))(z2:Int×(List Aq)):Option (Ctl (Int×(List Aq)) Unit):=
 bif (Atw x0 z2)then (uW x0 x1 z2.1).bind λy27=>bif y27.2 then (getI y4 y27.1).bind λy30=>(getI z2.2 y30).bind λy32=>(appI 9 y32.Ag [z2.1]).bind λy34=>(setI z2.2 y30 ⟨y32.An,y32.Ae,y34⟩).bind λy36=>some (.next (w64 (z2.1+1),y36)) else some (.next (w64 (z2.1+1),z2.2)) else some (.brk (z2.1,z2.2))
def Arl(x0:Aa)(x1:Ad):Option ((List Aq)):=
 (Iy x0 x1).bind λy1=>bif (y1 != 0)then some [] else (Afz x0 x1).bind λy4=>(mkI 73 x0.An ⟨[],[],[]⟩).bind λy6=>andThen (foldI Ark y4 0 y6) (λ_=>none) λz0=>andThen (whileN (Arj x0 x1 y4) 1152921504606846976 (0,z0)) (λ_=>none) λz1=>andThen (whileN (Ari x0 x1 y4) 1152921504606846976 (0,z1.2)) (λ_=>none) λz2=>(Qk z2.2).bind λy38=>some y38
def Xn(y1:Int)(y3:Int)(y5:A7):Bool:=decide ((min y1 (w64 (y3-y5.Least)))>0)
def zZ(x0:A2)(x2:Int)(n0:Nat)(a0:Int)(z0:(List Int)×(List As)):Option (Ctl ((List Int)×(List As)) Unit):=
 (Ux ⟨x0.Ap,⟨x0.Av.Ai,x0.Av.Ae,z0.1,x0.Av.Al⟩,z0.2⟩ x2).bind λy1=>(getI z0.1 a0).bind λy3=>(getI x0.Ap.Ag a0).bind λy5=>bif (Xn y1 y3 y5)then (setI z0.1 a0 (w64 (y3-(min y1 (w64 (y3-y5.Least)))))).bind λy8=>(getI y8 a0).bind λy10=>(appI 25 z0.2 [⟨5,a0,y10⟩]).bind λy12=>some (.next (y8,y12)) else some (.next (z0.1,z0.2))
def U2(x0:A2)(x1:List Int)(x2:Int):Option A2:=
 andThen (foldI (zZ x0 x2) x1 0 (x0.Av.Ao,x0.acts)) (λ_=>none) λz0=>some ⟨x0.Ap,⟨x0.Av.Ai,x0.Av.Ae,z0.1,x0.Av.Al⟩,z0.2⟩
def Afc(x0:Ak)(x1:Int):Bool:=
 ((x0.Kind==3)&&(x0.B==x1))
def Aaa(x0:A2)(x1c0:Int)(n0:Nat)(a0:Ak)(z0:(List Int)):Option (Ctl ((List Int)) Unit):=
 (getI x0.Av.Ai (cnt 0 n0)).bind λy1=>bif (y1&&(Afc a0 x1c0))then (appI 9 z0 [cnt 0 n0]).bind λy4=>some (.next y4) else some (.next z0)
def Arc(n1:Nat)(a1:Int)(z1:Sg9):Option (Ctl (Sg9) Unit):=
 (Qg ⟨⟨z1.1,z1.2.1,z1.2.2.1,z1.2.2.2.1,z1.2.2.2.2.1,z1.2.2.2.2.2.1⟩,⟨z1.2.2.2.2.2.2.1,z1.2.2.2.2.2.2.2.1,z1.2.2.2.2.2.2.2.2.1,z1.2.2.2.2.2.2.2.2.2.1⟩,z1.2.2.2.2.2.2.2.2.2.2⟩ a1).bind λy6=>some (.next (y6.Ap.An,y6.Ap.Ah,y6.Ap.Ae,y6.Ap.Ag,y6.Ap.Phase,y6.Ap.Ar,y6.Av.Ai,y6.Av.Ae,y6.Av.Ao,y6.Av.Al,y6.acts))
def Zo(x0:A2)(x1c0:Int):Option (A2×Int):=
 andThen (foldI (Aaa x0 x1c0) x0.Ap.Ah 0 []) (λ_=>none) λz0=>andThen (foldI Arc z0 0 (x0.Ap.An,x0.Ap.Ah,x0.Ap.Ae,x0.Ap.Ag,x0.Ap.Phase,x0.Ap.Ar,x0.Av.Ai,x0.Av.Ae,x0.Av.Ao,x0.Av.Al,x0.acts)) (λ_=>none) λz1=>some (⟨⟨z1.1,z1.2.1,z1.2.2.1,z1.2.2.2.1,z1.2.2.2.2.1,z1.2.2.2.2.2.1⟩,⟨z1.2.2.2.2.2.2.1,z1.2.2.2.2.2.2.2.1,z1.2.2.2.2.2.2.2.2.1,z1.2.2.2.2.2.2.2.2.2.1⟩,z1.2.2.2.2.2.2.2.2.2.2⟩,x1c0)
def zY(x2:Int)(n0:Nat)(a0:Int)(z0:Sg9):Option (Ctl (Sg9) Unit):=
 (getI z0.2.2.2.2.2.2.2.2.1 a0).bind λy1=>(Au [(decide (y1>0),true)] (Ux ⟨⟨z0.1,z0.2.1,z0.2.2.1,z0.2.2.2.1,z0.2.2.2.2.1,z0.2.2.2.2.2.1⟩,⟨z0.2.2.2.2.2.2.1,z0.2.2.2.2.2.2.2.1,z0.2.2.2.2.2.2.2.2.1,z0.2.2.2.2.2.2.2.2.2.1⟩,z0.2.2.2.2.2.2.2.2.2.2⟩ x2) default).bind λy3=>bif ((decide (y1>0))&&(decide (y3>0)))then (Zo ⟨⟨z0.1,z0.2.1,z0.2.2.1,z0.2.2.2.1,z0.2.2.2.2.1,z0.2.2.2.2.2.1⟩,⟨z0.2.2.2.2.2.2.1,z0.2.2.2.2.2.2.2.1,z0.2.2.2.2.2.2.2.2.1,z0.2.2.2.2.2.2.2.2.2.1⟩,z0.2.2.2.2.2.2.2.2.2.2⟩ a0).bind λy6=>some (.next (y6.1.Ap.An,y6.1.Ap.Ah,y6.1.Ap.Ae,y6.1.Ap.Ag,y6.1.Ap.Phase,y6.1.Ap.Ar,y6.1.Av.Ai,y6.1.Av.Ae,y6.1.Av.Ao,y6.1.Av.Al,y6.1.acts)) else some (.next (z0.1,z0.2.1,z0.2.2.1,z0.2.2.2.1,z0.2.2.2.2.1,z0.2.2.2.2.2.1,z0.2.2.2.2.2.2.1,z0.2.2.2.2.2.2.2.1,z0.2.2.2.2.2.2.2.2.1,z0.2.2.2.2.2.2.2.2.2.1,z0.2.2.2.2.2.2.2.2.2.2))
def U1(x0:A2)(x1:List Int)(x2:Int):Option A2:=
 andThen (foldI (zY x2) x1 0 (x0.Ap.An,x0.Ap.Ah,x0.Ap.Ae,x0.Ap.Ag,x0.Ap.Phase,x0.Ap.Ar,x0.Av.Ai,x0.Av.Ae,x0.Av.Ao,x0.Av.Al,x0.acts)) (λ_=>none) λz0=>some ⟨⟨z0.1,z0.2.1,z0.2.2.1,z0.2.2.2.1,z0.2.2.2.2.1,z0.2.2.2.2.2.1⟩,⟨z0.2.2.2.2.2.2.1,z0.2.2.2.2.2.2.2.1,z0.2.2.2.2.2.2.2.2.1,z0.2.2.2.2.2.2.2.2.2.1⟩,z0.2.2.2.2.2.2.2.2.2.2⟩
def Aag(y1:(List Int))(n0:Nat)(a0:Aq)(z0:Sg9):Option (Ctl (Sg9) Unit):=
 (Pe y1).bind λy5=>(U5 y5 a0).bind λy7=>bif decide ((y7.2.Ae.length:Int)>0)then (getI y7.2.An 0).bind λy10=>(U2 ⟨⟨z0.1,z0.2.1,z0.2.2.1,z0.2.2.2.1,z0.2.2.2.2.1,z0.2.2.2.2.2.1⟩,⟨z0.2.2.2.2.2.2.1,z0.2.2.2.2.2.2.2.1,z0.2.2.2.2.2.2.2.2.1,z0.2.2.2.2.2.2.2.2.2.1⟩,z0.2.2.2.2.2.2.2.2.2.2⟩ y7.1 y10).bind λy12=>(getI y7.2.An 0).bind λy14=>(U1 y12 y7.1 y14).bind λy16=>some (.next (y16.Ap.An,y16.Ap.Ah,y16.Ap.Ae,y16.Ap.Ag,y16.Ap.Phase,y16.Ap.Ar,y16.Av.Ai,y16.Av.Ae,y16.Av.Ao,y16.Av.Al,y16.acts)) else some (.next (z0.1,z0.2.1,z0.2.2.1,z0.2.2.2.1,z0.2.2.2.2.1,z0.2.2.2.2.2.1,z0.2.2.2.2.2.2.1,z0.2.2.2.2.2.2.2.1,z0.2.2.2.2.2.2.2.2.1,z0.2.2.2.2.2.2.2.2.2.1,z0.2.2.2.2.2.2.2.2.2.2))
def Va(x0:A2):Option A2:=
 (uT x0.Ap).bind λy1=>(Arl x0.Ap x0.Av).bind λy3=>andThen (foldI (Aag y1) y3 0 (x0.Ap.An,x0.Ap.Ah,x0.Ap.Ae,x0.Ap.Ag,x0.Ap.Phase,x0.Ap.Ar,x0.Av.Ai,x0.Av.Ae,x0.Av.Ao,x0.Av.Al,x0.acts)) (λ_=>none) λz0=>some ⟨⟨z0.1,z0.2.1,z0.2.2.1,z0.2.2.2.1,z0.2.2.2.2.1,z0.2.2.2.2.2.1⟩,⟨z0.2.2.2.2.2.2.1,z0.2.2.2.2.2.2.2.1,z0.2.2.2.2.2.2.2.2.1,z0.2.2.2.2.2.2.2.2.2.1⟩,z0.2.2.2.2.2.2.2.2.2.2⟩
def Afq(x0:A2):Option A2:=
 (Zz x0).bind λy1=>(Va y1).bind λy3=>some y3
def Afr(x0:Aa)(x1:Ad):Option (Ad×(List As)×Int):=
 (Iy x0 x1).bind λy1=>bif (y1 != 0)then some (⟨[],[],[],[]⟩,[],y1) else (Mj x1).bind λy4=>(Afq ⟨x0,y4,[]⟩).bind λy6=>some (y6.Av,y6.acts,0)
def Amt(x0:Aa)(x1:Ad):Option (Ad×(List As)×Int):=
 (Afr x0 x1).bind λy1=>some (y1.1,y1.2.1,y1.2.2)
def Aan(x1:As)(y1:Ad×Int):Option (Ctl Int Unit):=
 bif (x1.Kind==7)then some (.next 1) else some (.next y1.2)
def Aao(y1:Ad×Int)(n1:Nat)(a1:As)(z1:Int×Int×(List Ak)×(List B5)×(List A7)×Int×Int×(List Bool)×(List Aj)×(List Int)×(List Ab)×(List A8)×(List Bq)×(List Bool)×(List Bq)×(List Ad)×(List Int)):Option (Ctl (Int×Int×(List Ak)×(List B5)×(List A7)×Int×Int×(List Bool)×(List Aj)×(List Int)×(List Ab)×(List A8)×(List Bq)×(List Bool)×(List Bq)×(List Ad)×(List Int)) Unit):=
 (Vd ⟨⟨z1.1,⟨z1.2.2.2.2.2.2.2.1,z1.2.2.2.2.2.2.2.2.1,z1.2.2.2.2.2.2.2.2.2.1,z1.2.2.2.2.2.2.2.2.2.2.1⟩,z1.2.2.2.2.2.2.2.2.2.2.2.1,z1.2.2.2.2.2.2.2.2.2.2.2.2.1⟩,⟨z1.2.1,z1.2.2.1,z1.2.2.2.1,z1.2.2.2.2.1,z1.2.2.2.2.2.1,z1.2.2.2.2.2.2.1⟩,z1.2.2.2.2.2.2.2.2.2.2.2.2.2.2.1,z1.2.2.2.2.2.2.2.2.2.2.2.2.2.2.2.1⟩ a1 0).bind λy11=>bif (a1.Kind==2)then (getI z1.2.2.2.2.2.2.2.2.2.2.2.2.2.1 a1.Unit).bind λy14=>(setI z1.2.2.2.2.2.2.2.2.2.2.2.2.2.1 a1.Unit false).bind λy16=>(N5 y11 ⟨y16,y1.1.Ae,z1.2.2.2.2.2.2.2.2.2.2.2.2.2.2.2.2,y1.1.Al⟩).bind λy18=>some (.next (y18.Bi.Time,y18.Ap.An,y18.Ap.Ah,y18.Ap.Ae,y18.Ap.Ag,y18.Ap.Phase,y18.Ap.Ar,y18.Bi.Power.Ai,y18.Bi.Power.Ae,y18.Bi.Power.Ao,y18.Bi.Power.Al,y18.Bi.A_,y18.Bi.Be,y16,y18.events,y18.states,z1.2.2.2.2.2.2.2.2.2.2.2.2.2.2.2.2)) else (getI z1.2.2.2.2.2.2.2.2.2.2.2.2.2.2.2.2 a1.Unit).bind λy20=>(setI z1.2.2.2.2.2.2.2.2.2.2.2.2.2.2.2.2 a1.Unit a1.Value).bind λy22=>(N5 y11 ⟨z1.2.2.2.2.2.2.2.2.2.2.2.2.2.1,y1.1.Ae,y22,y1.1.Al⟩).bind λy24=>some (.next (y24.Bi.Time,y24.Ap.An,y24.Ap.Ah,y24.Ap.Ae,y24.Ap.Ag,y24.Ap.Phase,y24.Ap.Ar,y24.Bi.Power.Ai,y24.Bi.Power.Ae,y24.Bi.Power.Ao,y24.Bi.Power.Al,y24.Bi.A_,y24.Bi.Be,z1.2.2.2.2.2.2.2.2.2.2.2.2.2.1,y24.events,y24.states,y22))
def jA(x0:Cm)(x1:As):Option Cm:=
 (vE x0.Ap x0.Bi.Power x0.Bi.Time x1).bind λy1=>andThen (Aan x1 y1) (λ_=>none) λz0=>(Vd x0 x1 z0).bind λy4=>bif (z0 != 0)then some y4 else (N5 y4 y1.1).bind λy7=>(Amt y7.Ap y1.1).bind λy9=>andThen (foldI (Aao y1) y9.2.1 0 (y7.Bi.Time,y7.Ap.An,y7.Ap.Ah,y7.Ap.Ae,y7.Ap.Ag,y7.Ap.Phase,y7.Ap.Ar,y7.Bi.Power.Ai,y7.Bi.Power.Ae,y7.Bi.Power.Ao,y7.Bi.Power.Al,y7.Bi.A_,y7.Bi.Be,y1.1.Ai,y7.events,y7.states,y1.1.Ao)) (λ_=>none) λz1=>(F99 ⟨z1.2.2.2.2.2.2.2.2.2.2.2.2.2.1,y1.1.Ae,z1.2.2.2.2.2.2.2.2.2.2.2.2.2.2.2.2,y1.1.Al⟩ y9.1).bind λy26=>bif !y26 then (N5 ⟨⟨z1.1,⟨z1.2.2.2.2.2.2.2.1,z1.2.2.2.2.2.2.2.2.1,z1.2.2.2.2.2.2.2.2.2.1,z1.2.2.2.2.2.2.2.2.2.2.1⟩,z1.2.2.2.2.2.2.2.2.2.2.2.1,z1.2.2.2.2.2.2.2.2.2.2.2.2.1⟩,⟨z1.2.1,z1.2.2.1,z1.2.2.2.1,z1.2.2.2.2.1,z1.2.2.2.2.2.1,z1.2.2.2.2.2.2.1⟩,z1.2.2.2.2.2.2.2.2.2.2.2.2.2.2.1,z1.2.2.2.2.2.2.2.2.2.2.2.2.2.2.2.1⟩ y9.1).bind λy29=>some ⟨⟨y29.Bi.Time,y9.1,y29.Bi.A_,y29.Bi.Be⟩,y29.Ap,y29.events,y29.states⟩ else some ⟨⟨z1.1,y9.1,z1.2.2.2.2.2.2.2.2.2.2.2.1,z1.2.2.2.2.2.2.2.2.2.2.2.2.1⟩,⟨z1.2.1,z1.2.2.1,z1.2.2.2.1,z1.2.2.2.2.1,z1.2.2.2.2.2.1,z1.2.2.2.2.2.2.1⟩,z1.2.2.2.2.2.2.2.2.2.2.2.2.2.2.1,z1.2.2.2.2.2.2.2.2.2.2.2.2.2.2.2.1⟩
def F54(x0:Aa)(x1:Am)(x2:As):Option (Am×(List Ad)×Int):=
 (Iy x0 x1.Power).bind λy1=>bif (y1 != 0)then some (⟨0,⟨[],[],[],[]⟩,[],[]⟩,[],y1) else (Am2 x0 x1).bind λy4=>(jA y4 x2).bind λy6=>(appI 41 y6.Bi.Be y6.events).bind λy8=>some (⟨y6.Bi.Time,y6.Bi.Power,y6.Bi.A_,y8⟩,y6.states,0)
def Dm(x0:Int)(x1:Int)(x2:Int):Bool:=
 ((decide (x0>=x1))&&(decide (x0<=x2)))
def U0(x0:Int):Bool:=
 ((decide (x0>=0))&&(decide (x0<3600)))
def Auz(x0:Cd):Int:=
 E2 (w64 (x0.To-x0.From))
def Xx(x0:Cd):Bool:=
 (((U0 x0.From)&&(U0 x0.To))&&(decide ((Auz x0)<1800)))
def Amh(x0:Cd):Bool:=
 !(Xx x0)
def zX(n0:Nat)(a0:Cd)(z0:Unit):Option (Ctl Unit Int):=
 bif Amh a0 then some (.ret (cnt 0 n0)) else some (.next ())
def Afk(x0:List Cd):Option Int:=
 andThen (foldI zX x0 0 ()) some λz0=>some (-1)
def Zy(x0:List Cd):Option Bool:=
 (Afk x0).bind λy1=>some (decide (y1>=0))
def Sd(x0:Ay):Option Bool:=
 (Au [(((((((Dm x0.Kind 1 3)&&(Dm x0.Station 0 1))&&(Dm x0.Max 0 5000))&&(Dm x0.Rate 0 5000))&&(Dm x0.Cost 1 100))&&(decide ((x0.Cx.length:Int)<=4))),true)] (Zy x0.Cx) default).bind λy1=>some (((((((Dm x0.Kind 1 3)&&(Dm x0.Station 0 1))&&(Dm x0.Max 0 5000))&&(Dm x0.Rate 0 5000))&&(Dm x0.Cost 1 100))&&(decide ((x0.Cx.length:Int)<=4)))&&(!y1))
def Au4(x0:Ay):Option Bool:=
 (Sd x0).bind λy1=>some (!y1)
def Aaf(n0:Nat)(a0:Ay)(z0:Unit):Option (Ctl Unit Int):=
 (Au4 a0).bind λy1=>bif y1 then some (.ret (cnt 0 n0)) else some (.next ())
def Afp(x0:List Ay):Option Int:=
 andThen (foldI Aaf x0 0 ()) some λz0=>some (-1)
def Z2(x0:List Ay):Option Bool:=
 (Afp x0).bind λy1=>some (decide (y1>=0))
def Ad4(x0:B3):Bool:=(((decide ((min x0.Bow x0.Stern)<0)) || (decide ((max x0.Bow x0.Stern)>200))) || ((x0.Bow==0)&&(x0.Stern==0)))
def Pf(x0:B3):Option Int:=
 bif decide ((x0.A3.length:Int)>8)then some 2 else bif (Ad4 x0)then some 1 else (Z2 x0.A3).bind λy3=>bif y3 then some 14 else some 0
def Agc(x0:A7)(x1:Int):Bool:=
 (x0.Thruster==x1)
def Vr(x1c0:Int)(n0:Nat)(a0:A7)(z0:Unit):Option (Ctl Unit (Int×Int)):=
 bif Agc a0 x1c0 then some (.ret (cnt 0 n0,x1c0)) else some (.next ())
def Z_(x0:List A7)(x1c0:Int):Option (Int×Int):=
 andThen (foldI (Vr x1c0) x0 0 ()) some λz0=>some ((-1),x1c0)
def Af1(rec116:Aa->Ad->Int->Option Bool)(x0:Int)(x1:Aa)(x2:Ad):Option Bool:=
 (rec116 x1 x2 x0).bind λy1=>some (!y1)
def U9(x1c0:Aa)(x1c1:Ad)(rec116:Aa->Ad->Int->Option Bool)(n0:Nat)(a0:Int)(z0:Unit):Option (Ctl Unit (Int×Aa×Ad)):=
 (Af1 rec116 a0 x1c0 x1c1).bind λy1=>bif y1 then some (.ret (cnt 0 n0,x1c0,x1c1)) else some (.next ())
def Afn(rec116:Aa->Ad->Int->Option Bool)(x0:List Int)(x1c0:Aa)(x1c1:Ad):Option (Int×Aa×Ad):=
 andThen (foldI (U9 x1c0 x1c1 rec116) x0 0 ()) some λz0=>some ((-1),x1c0,x1c1)
def Z1(rec116:Aa->Ad->Int->Option Bool)(x0:List Int)(x1c0:Aa)(x1c1:Ad):Option (Bool×Aa×Ad):=
 (Afn rec116 x0 x1c0 x1c1).bind λy1=>some (decide (y1.1>=0),y1.2.1,y1.2.2)
def P5(y1:Int×Bool)(y3:Bool)(y5:Bool)(y7:Int)(y9:A7):Bool:=((((!y1.2) || (!y3)) || y5) || (decide (y7<y9.Least)))
def Z9(rec116:Aa->Ad->Int->Option Bool)(x0:Aa)(x1:Ad)(x2:Int):Option Bool:=
 (Af4 x0 x1 x2).bind λy1=>(Au [(!y1.2,false)] (Af3 x0 x1 y1.1) default).bind λy3=>(Au [(((!y1.2) || (!y3)),false)] (Mi x1 4 x2) default).bind λy5=>(Au [((((!y1.2) || (!y3)) || y5),false)] (getI x1.Ao x2) default).bind λy7=>(Au [((((!y1.2) || (!y3)) || y5),false)] (getI x0.Ag x2) default).bind λy9=>bif (P5 y1 y3 y5 y7 y9)then some false else (getI x0.Ag x2).bind λy12=>(Z1 rec116 y12.Needs x0 x1).bind λy14=>some (!y14.1)
def Z8:Nat->Aa->Ad->Int->Option Bool
 |0=>λ_ _ _=>none
 |n+1=>Z9 (Z8 n)
def Au9(x0:Aa)(x1:Ad)(x2:Int):Option Bool:=Z8 1000 x0 x1 x2
def Xw(x0:Bz):Bool:=
 ((decide ((max x0.X x0.Y)<=5000))&&(decide ((min x0.X x0.Y)>=(-5000))))
def Uz(x0:Int)(x1:Int):Option Int:=
 (nzI x1).bind λu2=>(nzI x1).bind λu4=>bif decide ((Int.tmod x0 x1)<0)then some (w64 ((w64 (Int.tdiv x0 x1))-1)) else some (w64 (Int.tdiv x0 x1))
def Auy(x0:Int)(x1:Int):Option Int:=
 (Uz (w64 (0-x0)) x1).bind λy1=>some (w64 (0-y1))
def Xm(x0:Int)(x1:Int):Bool:=((((decide (x0<(-1000000000000000000))) || (decide (x0>1000000000000000000))) || (decide (x1<1))) || (decide (x1>1000000000)))
def Afi(x0:Int)(x1:Int):Option (Int×Int):=
 bif (Xm x0 x1)then some (0,1) else (Auy x0 x1).bind λy2=>some (y2,0)
def Amg(x0:Int)(x1:Int):Option (Int×Int):=
 (Afi x0 x1).bind λy1=>some (y1.1,y1.2)
def Ams(x0:Ay)(x1:Bz):Option (Int×Int):=
 (Sd x0).bind λy1=>bif ((!y1) || (!(Xw x1)))then some (0,1) else (Amg (w64 ((w64 ((w64 (x1.X*x1.X))+(w64 (x1.Y*x1.Y))))*x0.Cost)) 1000).bind λy4=>some (y4.1,y4.2)
def Ap7(x0:Int):Bool:=((decide (x0<0)) || (decide (x0>1000000000000000000)))
def Ap6(x0:Int)(z0:Int×Int):Bool:=decide ((w64 ((w64 (Int.tdiv (w64 ((w64 (z0.1+z0.2))+1)) 2))*(w64 (Int.tdiv (w64 ((w64 (z0.1+z0.2))+1)) 2))))<=x0)
def Ajf(x0:Int)(z0:Int×Int):Option (Ctl (Int×Int) Unit):=
 bif decide (z0.1<z0.2)then bif (Ap6 x0 z0)then some (.next (w64 (Int.tdiv (w64 ((w64 (z0.1+z0.2))+1)) 2),z0.2)) else some (.next (z0.1,w64 ((w64 (Int.tdiv (w64 ((w64 (z0.1+z0.2))+1)) 2))-1))) else some (.brk (z0.1,z0.2))
def Amr(x0:Int):Option (Int×Int):=
 bif (Ap7 x0)then some (0,1) else andThen (whileN (Ajf x0) 1152921504606846976 (0,1000000000)) (λ_=>none) λz0=>some (z0.1,0)
def Am1(x0:Ay)(x1:Int):Option Int:=
 (Ams x0 ⟨x0.Max,0⟩).bind λy1=>bif ((y1.2 != 0) || (decide (x1<0)))then some 0 else bif decide (x1>=y1.1)then some x0.Max else (nzI x0.Cost).bind λu6=>(Amr (w64 (Int.tdiv (w64 (1000*x1)) x0.Cost))).bind λy7=>some y7.1
def Aq7(x1:Aa)(x2:Ad)(n0:Nat)(a0:Ay)(z0:(List Int)):Option (Ctl ((List Int)) Unit):=
 (Z_ x1.Ag (cnt 0 n0)).bind λy9=>(Au [(decide (y9.1>=0),true)] (Au9 x1 x2 y9.1) default).bind λy11=>bif ((decide (y9.1>=0))&&y11)then (getI x2.Ao y9.1).bind λy14=>(Am1 a0 y14).bind λy16=>(getI z0 y9.2).bind λy18=>(setI z0 y9.2 y16).bind λy20=>some (.next y20) else some (.next z0)
def F55(x0:B3)(x1:Aa)(x2:Ad):Option ((List Int)×Int):=
 (Pf x0).bind λy1=>bif (y1 != 0)then some ([],y1) else (Iy x1 x2).bind λy4=>bif (y4 != 0)then some ([],y4) else (mkI 9 (x0.A3.length:Int) 0).bind λy7=>andThen (foldI (Aq7 x1 x2) x0.A3 0 y7) (λ_=>none) λz0=>some (z0,0)
def F56(x0:Am):Option Am:=
 (vU x0.A_).bind λy1=>(vT x0.Be).bind λy3=>(vS x0.Power.Ai).bind λy5=>(vR x0.Power.Ae).bind λy7=>(Pe x0.Power.Ao).bind λy9=>(Sf x0.Power.Al).bind λy11=>some ⟨x0.Time,⟨y5,y7,y9,y11⟩,y1,y3⟩
def Ali(z0:(List Int))(a0:Int):Bool:=((decide (a0>=0))&&(decide (a0<(z0.length:Int))))
def Aq6(n0:Nat)(a0:Int)(z0:(List Int)):Option (Ctl ((List Int)) Unit):=
 bif (Ali z0 a0)then (getI z0 a0).bind λy4=>(setI z0 a0 0).bind λy6=>some (.next y6) else some (.next z0)
def F57(x0:List Int)(x1:List Int):Option ((List Int)):=
 (Pe x0).bind λy1=>andThen (foldI Aq6 x1 0 y1) (λ_=>none) λz0=>some z0
def Arm(z0:Sg0)(a0:Ab):Option (Ctl ((List Int)) Unit):=
 bif (a0.Kind==5)then (appI 9 z0.1 [a0.Number]).bind λy12=>some (.next y12) else some (.next z0.1)
def Arn(x0:A5)(x1:Am)(n0:Nat)(a0:Ab)(z0:Sg0):Option (Ctl (Sg0) (Am×(List Int)×Int)):=
 andThen (Arm z0 a0) (λ_=>none) λz1=>(Au [(decide (a0.Kind>4),false)] (F53 x1.Power.Al a0) default).bind λy14=>bif ((decide (a0.Kind>4)) || y14)then some (.next (z1,z0.2.1,z0.2.2.1,z0.2.2.2.1,z0.2.2.2.2.1,z0.2.2.2.2.2.1,z0.2.2.2.2.2.2.1,z0.2.2.2.2.2.2.2)) else (F54 x0.Board ⟨z0.2.1,⟨z0.2.2.1,z0.2.2.2.1,z0.2.2.2.2.1,z0.2.2.2.2.2.1⟩,z0.2.2.2.2.2.2.1,z0.2.2.2.2.2.2.2⟩ ⟨8,a0.Number,a0.Kind⟩).bind λy17=>bif (y17.2.2 != 0)then some (.ret (⟨0,⟨[],[],[],[]⟩,[],[]⟩,[],y17.2.2)) else some (.next (z1,y17.1.Time,y17.1.Power.Ai,y17.1.Power.Ae,y17.1.Power.Ao,y17.1.Power.Al,y17.1.A_,y17.1.Be))
def F14(x0:A5)(x1:Am)(x2:List Ab)(x3:List Ab):Option (Am×(List Int)×Int):=
 (F49 x0.Board x0.Table x1).bind λy1=>bif (y1 != 0)then some (⟨0,⟨[],[],[],[]⟩,[],[]⟩,[],y1) else (F50 x0.Design).bind λy4=>bif (y4 != 0)then some (⟨0,⟨[],[],[],[]⟩,[],[]⟩,[],y4) else (F52 [x2,x1.Power.Al,x3]).bind λy7=>(F51 x0.Design y7).bind λy9=>andThen (foldI (Arn x0 x1) y9 0 ([],x1.Time,x1.Power.Ai,x1.Power.Ae,x1.Power.Ao,x1.Power.Al,x1.A_,x1.Be)) some λz0=>(F55 x0.Ship x0.Board ⟨z0.2.2.1,z0.2.2.2.1,z0.2.2.2.2.1,z0.2.2.2.2.2.1⟩).bind λy20=>bif (y20.2 != 0)then some (⟨0,⟨[],[],[],[]⟩,[],[]⟩,[],y20.2) else (F56 ⟨z0.2.1,⟨z0.2.2.1,z0.2.2.2.1,z0.2.2.2.2.1,z0.2.2.2.2.2.1⟩,z0.2.2.2.2.2.2.1,z0.2.2.2.2.2.2.2⟩).bind λy23=>(F57 y20.1 z0.1).bind λy25=>some (y23,y25,0)
def Ad3(y3:Ab)(y5:Ab):Bool:=((y3.Kind==y5.Kind)&&((y3.Number==y5.Number)&&true))
def Aam(x0:List Ab)(z0:Int):Option (Ctl Int Unit):=
 bif decide (z0<(x0.length:Int))then (getI x0 z0).bind λy3=>(getI x0 (w64 (z0-1))).bind λy5=>bif (Ad3 y3 y5)then none else some (.next (w64 (z0+1))) else some (.brk z0)
def Qm(x0:List Ab):Option ((List Ab)):=
 bif decide ((x0.length:Int)<2)then some x0 else andThen (whileN (Aam x0) 1152921504606846976 1) (λ_=>none) λz0=>some x0
def F68(x0:List Ab)(x1:List Ab):Option (List Ab):=Abg Qm x0 x1
def F21(x0:Ba)(x1:Am)(x2:List Ab):Option ((List Ab)):=
 (F68 x2 x1.Power.Al).bind λy1=>(F51 x0 y1).bind λy3=>some y3
def A02(x0:Int)(a0:Int):Bool:=((decide (a0<(w64 (0-x0)))) || (decide (a0>x0)))
def Ain(x0:Int)(n0:Nat)(a0:Int)(z0:Unit):Option (Ctl Unit Bool):=
 bif (A02 x0 a0)then some (.ret false) else some (.next ())
def Aut(x0:Int)(x1:List Int):Option Bool:=
 andThen (foldI (Ain x0) x1 0 ()) some λz0=>some true
def Aux(x0:A4):Option Bool:=
 (Aut 1000000 [x0.Surge,x0.Sway,x0.Yaw]).bind λy1=>some y1
def Xv(x0:Int):Int:=
 w64 (0-x0)
def Afg(x0:A4):A4:=
 ⟨Xv x0.Surge,Xv x0.Sway,Xv x0.Yaw⟩
def Ae6(x0:Int)(x1:Int)(x2:Int):Bool:=
 ((decide (x0<x1)) || (decide (x0>x2)))
def Aae(x1c0:Int)(x1c1:Int)(n0:Nat)(a0:Int)(z0:Unit):Option (Ctl Unit (Int×Int×Int)):=
 bif Ae6 a0 x1c0 x1c1 then some (.ret (cnt 0 n0,x1c0,x1c1)) else some (.next ())
def Afm(x0:List Int)(x1c0:Int)(x1c1:Int):Option (Int×Int×Int):=
 andThen (foldI (Aae x1c0 x1c1) x0 0 ()) some λz0=>some ((-1),x1c0,x1c1)
def Af2(x0:List Int)(x1c0:Int)(x1c1:Int):Option (Bool×Int×Int):=
 (Afm x0 x1c0 x1c1).bind λy1=>some (decide (y1.1>=0),y1.2.1,y1.2.2)
def O9(x0:List Int)(x1:Int)(x2:Int):Option Bool:=
 (Af2 x0 x1 x2).bind λy1=>some (!y1.1)
def Aur(x0:Int)(x1:Int):Option Int:=
 (Uz (w64 ((w64 (2*x0))+x1)) (w64 (2*x1))).bind λy1=>some y1
def Adq(x0:Int)(x1:Int):Bool:=((((decide (x0<(-1000000000000000000))) || (decide (x0>1000000000000000000))) || (decide (x1<1))) || (decide (x1>1000000000)))
def Afh(x0:Int)(x1:Int):Option (Int×Int):=
 bif (Adq x0 x1)then some (0,1) else (Aur x0 x1).bind λy2=>some (y2,0)
def Afb(x0:Int)(x1:Int):Option (Int×Int):=
 (Afh x0 x1).bind λy1=>some (y1.1,y1.2)
def Al9(x0:B3)(x1:A4):Option (Cg×Int):=
 (Pf x0).bind λy1=>bif (y1 != 0)then (Pf x0).bind λy4=>some (⟨0,0,0⟩,y4) else (O9 [x1.Surge,x1.Sway] (-5000) 5000).bind λy6=>(Au [(!y6,false)] (O9 [x1.Yaw] (-500000) 500000) default).bind λy8=>bif ((!y6) || (!y8))then some (⟨0,0,0⟩,1) else (Afb (w64 (x1.Yaw+(w64 (x1.Sway*x0.Stern)))) (w64 (x0.Bow+x0.Stern))).bind λy11=>(O9 [y11.1,w64 (x1.Sway-y11.1)] (-500000) 500000).bind λy13=>bif !y13 then some (⟨0,0,0⟩,1) else some (⟨x1.Surge,y11.1,w64 (x1.Sway-y11.1)⟩,0)
def Au2(x0:B3)(x1:A4):Option (Cg×Int):=
 (Aux x1).bind λy1=>bif !y1 then some (⟨0,0,0⟩,1) else (Al9 x0 (Afg x1)).bind λy4=>some (y4.1,y4.2)
def Alv(x0:List Cd):Option (List Cd):=appI 17 [] x0
def Alx(x0:Ay)(x1:Int):Option Ay:=
 (Alv x0.Cx).bind λy1=>some ⟨x0.Kind,x0.Station,min x0.Max (max x1 0),x0.Rate,x0.Cost,y1⟩
def Adp(x0:B3)(x1:List Int)(x2:List Bz)(x3:List Int):Bool:=((((x1.length:Int) != (x0.A3.length:Int)) || ((decide ((x2.length:Int)>0))&&((x2.length:Int) != (x0.A3.length:Int)))) || ((x3.length:Int) != (x0.A3.length:Int)))
def zU(x1:List Int)(n0:Nat)(a0:Ay)(z0:(List Ay)):Option (Ctl ((List Ay)) Unit):=
 (getI x1 (cnt 0 n0)).bind λy16=>(Alx a0 y16).bind λy18=>(appI 65 z0 [y18]).bind λy20=>some (.next y20)
def zT(n1:Nat)(a1:Bz)(z1:Unit):Option (Ctl Unit (By×Int)):=
 (O9 [a1.X,a1.Y] (-5000) 5000).bind λy22=>bif !y22 then some (.ret (⟨[],[]⟩,1)) else some (.next ())
def Zi(x0:B3)(x1:List Int)(x2:List Bz)(x3:List Int):Option (By×Int):=
 (Pf x0).bind λy1=>bif (y1 != 0)then (Pf x0).bind λy4=>some (⟨[],[]⟩,y4) else bif (Adp x0 x1 x2 x3)then some (⟨[],[]⟩,8) else (O9 x1 0 5000).bind λy7=>(Au [(!y7,false)] (O9 x3 (-5000) 5000) default).bind λy9=>bif ((!y7) || (!y9))then some (⟨[],[]⟩,1) else andThen (foldI (zU x1) x0.A3 0 []) (λ_=>none) λz0=>andThen (foldI zT x2 0 ()) some λz1=>some (⟨z0,x2⟩,0)
def Al8(x0:B3)(x1:List Int)(x2:List Bz)(x3:Cg):Option (By×Int):=
 (mkI 9 (x0.A3.length:Int) 0).bind λy1=>(Zi x0 x1 x2 y1).bind λy3=>(Au [((y3.2==0),true)] (O9 [x3.Surge,x3.Bow,x3.Stern] (-500000) 500000) default).bind λy5=>bif ((y3.2==0)&&(!y5))then some (y3.1,1) else some (y3.1,y3.2)
def Aey(x0:Int)(x1:Int):Bool:=
 ((decide ((max x0 x1)<=1000000000))&&(decide ((min x0 x1)>=(-1000000000))))
def Aij(x0:Int):Option (Ctl (Int×Int) Unit):=
 bif decide ((E2 x0)>1800)then some (.next (w64 ((E2 x0)-1800),(-1))) else some (.next (E2 x0,1))
def uN(x0:Int):Option Int:=
 andThen (Aij x0) (λ_=>none) λz0=>(Afb (w64 (40000*(w64 (z0.1*(w64 (1800-z0.1)))))) (w64 (4050000-(w64 (z0.1*(w64 (1800-z0.1))))))).bind λy2=>some (w64 (z0.2*y2.1))
def Aew(x0:Int):Option Int:=
 (uN (w64 ((E2 x0)+900))).bind λy1=>some y1
def Aex(x0:Int)(x1:Int)(x2:Int):Option Int:=
 bif !(Aey x1 x2)then some 0 else (Aew x0).bind λy2=>(uN x0).bind λy4=>some (w64 ((w64 (y2*x2))-(w64 (y4*x1))))
def A00(x0:Cd)(x1:Int)(x2:Int):Bool:=(((!(Xx x0)) || ((x1==0)&&(x2==0))) || (!(Aey x1 x2)))
def Alu(x0:Cd)(x1:Int)(x2:Int):Option Bool:=
 bif (A00 x0 x1 x2)then some false else (Aex x0.From x1 x2).bind λy2=>(Au [(decide (y2>0),false)] (Aew x0.From) default).bind λy4=>(Au [(decide (y2>0),false)] (uN x0.From) default).bind λy6=>(Au [(decide (y2>=0),true)] (Aex x0.To x1 x2) default).bind λy8=>some (((decide (y2>=0))&&(decide (y8<=0)))&&((decide (y2>0)) || (decide ((w64 ((w64 (y4*x1))+(w64 (y6*x2))))>0))))
def Aez(x0:Cd)(x1:Int)(x2:Int):Option Bool:=
 (Alu x0 x1 x2).bind λy1=>some y1
def zW(x1c0:Int)(x1c1:Int)(n0:Nat)(a0:Cd)(z0:Unit):Option (Ctl Unit (Int×Int×Int)):=
 (Aez a0 x1c0 x1c1).bind λy1=>bif y1 then some (.ret (cnt 0 n0,x1c0,x1c1)) else some (.next ())
def Afj(x0:List Cd)(x1c0:Int)(x1c1:Int):Option (Int×Int×Int):=
 andThen (foldI (zW x1c0 x1c1) x0 0 ()) some λz0=>some ((-1),x1c0,x1c1)
def Zx(x0:List Cd)(x1c0:Int)(x1c1:Int):Option (Bool×Int×Int):=
 (Afj x0 x1c0 x1c1).bind λy1=>some (decide (y1.1>=0),y1.2.1,y1.2.2)
def Apn(x0:Ay)(x1:Int)(x2:Int):Bool:=(((((decide ((max x1 x2)>x0.Max)) || (decide ((min x1 x2)<(w64 (0-x0.Max))))) || (decide ((w64 ((w64 (x1*x1))+(w64 (x2*x2))))>(w64 (x0.Max*x0.Max))))) || ((x0.Kind==1)&&(x1 != 0))) || ((x0.Kind==2)&&(x2 != 0)))
def Ae3(x0:Ay)(x1:Int)(x2:Int):Option Bool:=
 bif (Apn x0 x1 x2)then some false else (Zx x0.Cx x1 x2).bind λy2=>some (!y2.1)
def Qe(x0:Int)(x1:Ay):Option Bool:=
 (Ae3 x1 0 x0).bind λy1=>some y1
def zQ(x0c0:Ay)(z0:Int):Option (Ctl Int Unit):=
 (Qe (w64 (z0-1)) x0c0).bind λy6=>bif y6 then some (.next (w64 (z0-1))) else some (.brk z0)
def zP(x0c0:Ay)(z1:Int):Option (Ctl Int Unit):=
 (Qe (w64 (z1+1)) x0c0).bind λy11=>bif y11 then some (.next (w64 (z1+1))) else some (.brk z1)
def Ae5(x0c0:Ay):Option (Int×Int×Ay):=
 (Qe 0 x0c0).bind λy1=>bif !y1 then some (0,0,x0c0) else andThen (whileN (zQ x0c0) 1152921504606846976 0) (λ_=>none) λz0=>andThen (whileN (zP x0c0) 1152921504606846976 0) (λ_=>none) λz1=>some (z0,z1,x0c0)
def Al2(x0:Ay):Option (Int×Int):=
 (Sd x0).bind λy1=>bif !y1 then some (0,0) else (Ae5 x0).bind λy4=>some (y4.1,y4.2.1)
def uQ(x0:Bz):Int:=
 x0.Y
def Apm(x0:Int)(x1:Int)(x2:Int)(x3:Int):Bool:=((((decide ((max (max (max x0 x1) x2) x3)>1000000000)) || (decide ((min (min x0 x1) x2)<(-1000000000)))) || (decide (x0>x1))) || (decide (x3<0)))
def Ado(x0:Int)(x1:Int)(x2:Int)(x3:Int):Bool:=decide ((max x0 (w64 (x2-x3)))<=(min x1 (w64 (x2+x3))))
def Mg(x0:Int)(x1:Int)(x2:Int)(x3:Int):Int×Int:=
 bif (Apm x0 x1 x2 x3)then (x0,x1) else bif (Ado x0 x1 x2 x3)then (max x0 (w64 (x2-x3)),min x1 (w64 (x2+x3))) else bif decide (x2<x0)then (x0,x0) else (x1,x1)
def Zh(x0:By)(x1:Int)(x2:Int)(x3:Int):Option Bp:=
 (getI x0.thrusters x1).bind λy1=>bif decide ((x0.last.length:Int)>0)then (getI x0.last x1).bind λy4=>some ⟨(Mg x2 x3 (uQ y4) y1.Rate).1,(Mg x2 x3 (uQ y4) y1.Rate).2,y1.Cost⟩ else some ⟨x2,x3,y1.Cost⟩
def Air(x0:By)(x1:Int)(n0:Nat)(a0:Ay)(z0:(List Bp)):Option (Ctl ((List Bp)) Unit):=
 bif (a0.Station != x1)then (appI 25 z0 [⟨0,0,a0.Cost⟩]).bind λy2=>some (.next y2) else (Al2 a0).bind λy4=>(Zh x0 (cnt 0 n0) y4.1 y4.2).bind λy6=>(appI 25 z0 [y6]).bind λy8=>some (.next y8)
def Aff(x0:By)(x1:Int):Option ((List Bp)):=
 andThen (foldI (Air x0 x1) x0.thrusters 0 []) (λ_=>none) λz0=>some z0
def Apo(a0:Bp):Bool:=(((((decide (a0.Low<(-5000))) || (decide (a0.Low>a0.High))) || (decide (a0.High>5000))) || (decide (a0.Cost<1))) || (decide (a0.Cost>100)))
def Aik(n0:Nat)(a0:Bp)(z0:Unit):Option (Ctl Unit Int):=
 bif (Apo a0)then some (.ret 1) else some (.next ())
def Alw(x0:List Bp):Option Int:=
 bif decide ((x0.length:Int)>8)then some 2 else andThen (foldI Aik x0 0 ()) some λz0=>some 0
def Ax3(n0:Nat)(a0:Bp)(z0:Int×Int):Option (Ctl (Int×Int) Unit):=
 some (.next (w64 (z0.1+a0.Low),w64 (z0.2+a0.High)))
def Al3(x0:List Bp):Option (Int×Int×Int):=
 (Alw x0).bind λy1=>bif (y1 != 0)then some (0,0,y1) else andThen (foldI Ax3 x0 0 (0,0)) (λ_=>none) λz0=>some (z0.1,z0.2,0)
def Jr(x0:Int)(x1:Int)(x2:Int):Int:=
 max x1 (min x0 x2)
def Xl(x0:Int)(x1:Int):Bool:=((((decide (x0<(-1000000000000000000))) || (decide (x0>1000000000000000000))) || (decide (x1<1))) || (decide (x1>1000000000)))
def Zl(x0:Int)(x1:Int):Option (Int×Int):=
 bif (Xl x0 x1)then some (0,1) else (Uz x0 x1).bind λy2=>some (y2,0)
def Xu(x0:Int)(x1:Int):Option (Int×Int):=
 (Zl x0 x1).bind λy1=>some (y1.1,y1.2)
def Aim(x1:Int)(n0:Nat)(a0:Bp)(z0:Int×(List Int)):Option (Ctl (Int×(List Int)) Unit):=
 (Xu (w64 (x1+a0.Cost)) (w64 (2*a0.Cost))).bind λy1=>(appI 9 z0.2 [Jr y1.1 a0.Low a0.High]).bind λy3=>some (.next (w64 (z0.1+(Jr y1.1 a0.Low a0.High)),y3))
def Afa(x0:List Bp)(x1:Int):Option ((List Int)×Int):=
 andThen (foldI (Aim x1) x0 0 (0,[])) (λ_=>none) λz0=>some (z0.2,z0.1)
def Aus(x0:Bp)(x1:Int):Int:=
 w64 (x0.Cost*(w64 ((w64 (2*x1))+1)))
def Aps(x1:Int):Bool:=((decide (x1<(-500000))) || (decide (x1>500000)))
def Ait(x0:List Bp)(x1:Int)(y1:Int×Int×Int)(z0:Int×Int):Option (Ctl (Int×Int) Unit):=
 bif decide (z0.2<z0.1)then (Xu (w64 (z0.2+z0.1)) 2).bind λy6=>(Afa x0 y6.1).bind λy8=>bif decide (y8.2>=(Jr x1 y1.1 y1.2.1))then some (.next (y6.1,z0.2)) else some (.next (z0.1,w64 (y6.1+1))) else some (.brk (z0.1,z0.2))
def Apr(x1:Int)(y1:Int×Int×Int)(z0:Int×Int)(z1:Int×(List Int))(a1:Bp)(y13:Int)(y15:Int):Bool:=(((decide (z1.1<(Jr x1 y1.1 y1.2.1)))&&(decide (y13<a1.High)))&&((Aus a1 y15)==z0.2))
def Ais(x1:Int)(y1:Int×Int×Int)(z0:Int×Int)(n1:Nat)(a1:Bp)(z1:Int×(List Int)):Option (Ctl (Int×(List Int)) Unit):=
 (Au [(decide (z1.1<(Jr x1 y1.1 y1.2.1)),true)] (getI z1.2 (cnt 0 n1)) default).bind λy13=>(Au [(((decide (z1.1<(Jr x1 y1.1 y1.2.1)))&&(decide (y13<a1.High))),true)] (getI z1.2 (cnt 0 n1)) default).bind λy15=>bif (Apr x1 y1 z0 z1 a1 y13 y15)then (getI z1.2 (cnt 0 n1)).bind λy18=>(setI z1.2 (cnt 0 n1) (w64 (y18+1))).bind λy20=>some (.next (w64 (z1.1+1),y20)) else some (.next (z1.1,z1.2))
def uS(x0:List Bp)(x1:Int):Option ((List Int)×Int×Int):=
 (Al3 x0).bind λy1=>bif (y1.2.2 != 0)then some ([],0,y1.2.2) else bif (Aps x1)then some ([],0,1) else andThen (whileN (Ait x0 x1 y1) 1152921504606846976 (1000200,(-1000200))) (λ_=>none) λz0=>(Afa x0 (w64 (z0.2-1))).bind λy11=>andThen (foldI (Ais x1 y1 z0) x0 0 (y11.2,y11.1)) (λ_=>none) λz1=>some (z1.2,w64 (x1-(Jr x1 y1.1 y1.2.1)),0)
def Qd(x0:Int)(x1:Ay)(x2:Int):Option Bool:=
 (Ae3 x1 x0 x2).bind λy1=>some y1
def zO(x0c0:Ay)(x0c1:Int)(z0:Int):Option (Ctl Int Unit):=
 (Qd (w64 (z0-1)) x0c0 x0c1).bind λy6=>bif y6 then some (.next (w64 (z0-1))) else some (.brk z0)
def zN(x0c0:Ay)(x0c1:Int)(z1:Int):Option (Ctl Int Unit):=
 (Qd (w64 (z1+1)) x0c0 x0c1).bind λy11=>bif y11 then some (.next (w64 (z1+1))) else some (.brk z1)
def Ae4(x0c0:Ay)(x0c1:Int):Option (Int×Int×Ay×Int):=
 (Qd 0 x0c0 x0c1).bind λy1=>bif !y1 then some (0,0,x0c0,x0c1) else andThen (whileN (zO x0c0 x0c1) 1152921504606846976 0) (λ_=>none) λz0=>andThen (whileN (zN x0c0 x0c1) 1152921504606846976 0) (λ_=>none) λz1=>some (z0,z1,x0c0,x0c1)
def Al1(x0:Ay)(x1:Int):Option (Int×Int):=
 (Sd x0).bind λy1=>bif !y1 then some (0,0) else (Ae4 x0 x1).bind λy4=>some (y4.1,y4.2.1)
def uP(x0:Bz):Int:=
 x0.X
def Zg(x0:By)(x1:Int)(x2:Int)(x3:Int):Option Bp:=
 (getI x0.thrusters x1).bind λy1=>bif decide ((x0.last.length:Int)>0)then (getI x0.last x1).bind λy4=>some ⟨(Mg x2 x3 (uP y4) y1.Rate).1,(Mg x2 x3 (uP y4) y1.Rate).2,y1.Cost⟩ else some ⟨x2,x3,y1.Cost⟩
def Aiq(x0:By)(x1:List Int)(n0:Nat)(a0:Ay)(z0:(List Bp)):Option (Ctl ((List Bp)) Unit):=
 (getI x1 (cnt 0 n0)).bind λy1=>(Al1 a0 y1).bind λy3=>(Zg x0 (cnt 0 n0) y3.1 y3.2).bind λy5=>(appI 25 z0 [y5]).bind λy7=>some (.next y7)
def Al7(x0:By)(x1:List Int):Option ((List Bp)):=
 andThen (foldI (Aiq x0 x1) x0.thrusters 0 []) (λ_=>none) λz0=>some z0
def Apq(x0:B3)(x1:List Bz):Bool:=((x1.length:Int) != (x0.A3.length:Int))
def Aip(x0:B3)(n0:Nat)(a0:Bz)(z0:Int×Int×Int):Option (Ctl (Int×Int×Int) (Cg×Int)):=
 bif !(Xw a0)then some (.ret (⟨0,0,0⟩,1)) else (getI x0.A3 (cnt 0 n0)).bind λy8=>bif (y8.Station==0)then some (.next (w64 (z0.1+a0.X),w64 (z0.2.1+a0.Y),z0.2.2)) else some (.next (w64 (z0.1+a0.X),z0.2.1,w64 (z0.2.2+a0.Y)))
def Al6(x0:B3)(x1:List Bz):Option (Cg×Int):=
 (Pf x0).bind λy1=>bif (y1 != 0)then (Pf x0).bind λy4=>some (⟨0,0,0⟩,y4) else bif (Apq x0 x1)then some (⟨0,0,0⟩,8) else andThen (foldI (Aip x0) x1 0 (0,0,0)) some λz0=>some (⟨z0.1,z0.2.1,z0.2.2⟩,0)
def Auw(x0:Cg)(x1:Cg):Cg:=
 ⟨w64 (x0.Surge-x1.Surge),w64 (x0.Bow-x1.Bow),w64 (x0.Stern-x1.Stern)⟩
def Aiw(y6:(List Int)×Int×Int)(n0:Nat)(a0:Int)(z0:(List Int)):Option (Ctl ((List Int)) Unit):=
 (getI z0 (cnt 0 n0)).bind λy12=>(getI y6.1 (cnt 0 n0)).bind λy14=>(setI z0 (cnt 0 n0) (w64 (y12+y14))).bind λy16=>some (.next y16)
def Aiv(y20:(List Int)×Int×Int)(n1:Nat)(a1:Int)(z1:(List Bz)):Option (Ctl ((List Bz)) Unit):=
 (getI y20.1 (cnt 0 n1)).bind λy22=>(appI 17 z1 [⟨y22,a1⟩]).bind λy24=>some (.next y24)
def Amd(x0:B3)(x1:List Int)(x2:List Bz)(x3:Cg):Option (Ir×Int):=
 (Al8 x0 x1 x2 x3).bind λy1=>bif (y1.2 != 0)then some (⟨[],⟨0,0,0⟩,⟨0,0,0⟩⟩,y1.2) else (Aff y1.1 0).bind λy4=>(uS y4 x3.Bow).bind λy6=>(Aff y1.1 1).bind λy8=>(uS y8 x3.Stern).bind λy10=>andThen (foldI (Aiw y6) y10.1 0 y10.1) (λ_=>none) λz0=>(Al7 y1.1 z0).bind λy18=>(uS y18 x3.Surge).bind λy20=>andThen (foldI (Aiv y20) z0 0 []) (λ_=>none) λz1=>(Al6 x0 z1).bind λy26=>some (⟨z1,y26.1,(Auw x3 y26.1)⟩,0)
def Au3(x0:B3)(x1:List Int)(x2:A4):Option (Cg×Int):=
 (Au2 x0 x2).bind λy1=>bif (y1.2 != 0)then some (⟨0,0,0⟩,y1.2) else (Amd x0 x1 [] y1.1).bind λy4=>bif (y4.2 != 0)then some (⟨0,0,0⟩,y4.2) else some (y4.1.Missing,0)
def Am0(x0:B3)(x1:List Int)(x2:A4):Option Bool:=
 (Au3 x0 x1 x2).bind λy1=>some ((y1.2==0)&&((y1.1.Surge==0)&&((y1.1.Bow==0)&&((y1.1.Stern==0)&&true))))
def F69(x0:A5)(x1:Am)(x2:List Ab)(x3:List Ab)(x4:A4):Option Bool:=
 (F14 x0 x1 x2 x3).bind λy1=>(Au [((y1.2.2==0),true)] (Am0 x0.Ship y1.2.1 x4) default).bind λy3=>some ((y1.2.2==0)&&y3)
def F26(x0:A5)(x1:Am)(x2:List Ab)(x3:A4):Option (List Bd×Int):=Xp F14 F21 F53 F69 x0 x1 x2 x3
def A3t(a0:Bd)(y2:Bd):Bool:=!(((a0.Part.Kind==y2.Part.Kind)&&((a0.Part.Number==y2.Part.Number)&&true))&&((a0.Holds==y2.Holds)&&true))
def A2h(x1:List Bd)(n0:Nat)(a0:Bd)(z0:Unit):Option (Ctl Unit Unit):=
 (getI x1 (cnt 0 n0)).bind λy2=>bif (A3t a0 y2)then none else some (.next ())
def F37(x0:List Bd)(x1:List Bd):Option Bool:=
 bif ((x0.length:Int) != (x1.length:Int))then none else andThen (foldI (A2h x1) x0 0 ()) (λ_=>none) λz0=>some true
def F22(x0:A5)(x1:Am)(x2:List Ab)(x3:A4):Option Bool:=
 (F69 x0 x1 x2 [] x3).bind λy1=>some y1
def F71(x0:A5)(x1:Am)(x2:List Ab)(x3:A4):Option (Ab×Bool):=Ym F21 F53 F69 x0 x1 x2 x3
def F25(x0:A5)(x1:Am)(x2:List Ab)(x3:A4):Option Bool:=
 (F22 x0 x1 x2 x3).bind λy1=>bif !y1 then some false else (F71 x0 x1 x2 x3).bind λy4=>some (!y4.2)
def F9:Option Bool:=
 (F42).bind λy1=>(F26 y1.1 y1.2 [] ⟨(-150),0,0⟩).bind λy3=>(Au [((y3.2==0),true)] (getI y1.1.Design.Parts 0) default).bind λy5=>(Au [((y3.2==0),true)] (getI y1.1.Design.Parts 1) default).bind λy7=>(Au [((y3.2==0),true)] (getI y1.1.Design.Parts 2) default).bind λy9=>(Au [((y3.2==0),true)] (F37 y3.1 [⟨y5,true⟩,⟨y7,true⟩,⟨y9,false⟩]) default).bind λy11=>(Au [(((y3.2==0)&&y11),true)] (F22 y1.1 y1.2 [] ⟨(-150),0,0⟩) default).bind λy13=>(Au [((((y3.2==0)&&y11)&&y13),true)] (F25 y1.1 y1.2 [] ⟨(-150),0,0⟩) default).bind λy15=>(Au [(((((y3.2==0)&&y11)&&y13)&&(!y15)),true)] (F22 y1.1 y1.2 [] ⟨(-201),0,0⟩) default).bind λy17=>some (((((y3.2==0)&&y11)&&y13)&&(!y15))&&(!y17))
def F10(x0:List Int):Option Af:=
 (cutI x0 0 (min (x0.length:Int) 600)).bind λy2=>some ⟨y2,0⟩
def F94(x0:Int)(x1:Int):Option Int:=
 bif decide (x1<1)then some 0 else (nzI x1).bind λu3=>(nzI x1).bind λu5=>some (Int.tmod (w64 ((Int.tmod x0 x1)+x1)) x1)
def F44(x0:Af)(x1:Int):Option (Int×Af):=
 bif decide (x0.At>=(x0.L.length:Int))then some (0,x0) else (getI x0.L (w64 ((w64 (x0.At+1))-1))).bind λy2=>(F94 y2 x1).bind λy4=>some (y4,⟨x0.L,w64 (x0.At+1)⟩)
def F20(x0:Af)(x1:List Int):Option (Int×Af):=
 (F44 x0 (x1.length:Int)).bind λy1=>(getI x1 y1.1).bind λy3=>some (y3,y1.2)
def Ai2(n0:Nat)(a0:Int)(z0:(List Int)×Int×(List Int)):Option (Ctl ((List Int)×Int×(List Int)) Unit):=
 (F20 ⟨z0.1,z0.2.1⟩ [0,100,(-300),700,(-1000),1000]).bind λy3=>(getI z0.2.2 (cnt 0 n0)).bind λy5=>(setI z0.2.2 (cnt 0 n0) y3.1).bind λy7=>some (.next (y3.2.L,y3.2.At,y7))
def uZ(x0:Af):Option ((List Int)×Af):=
 (mkI 9 12 0).bind λy1=>andThen (foldI Ai2 y1 0 (x0.L,x0.At,y1)) (λ_=>none) λz0=>some (z0.2.2,⟨z0.1,z0.2.1⟩)
def vP(x0:Af):Option (Ha×Af):=
 (uZ x0).bind λy1=>(uZ y1.2).bind λy3=>(uZ y3.2).bind λy5=>some (⟨y1.1,y3.1,y5.1⟩,y5.2)
def F82(x0:Af):Option (K9×Af):=
 (vP x0).bind λy1=>(vP y1.2).bind λy3=>(vP y3.2).bind λy5=>(F20 y5.2 [1000,1,30,5000,1000000]).bind λy7=>(F20 y7.2 [100000,1,500,1073741824]).bind λy9=>(F20 y9.2 [0,1,w64 (Int.tdiv y7.1 10),y7.1]).bind λy11=>(F20 y11.2 [0,1,w64 (Int.tdiv y9.1 10),y9.1]).bind λy13=>some (⟨y1.1,y3.1,y5.1,y7.1,y9.1,min y11.1 y7.1,min y13.1 y9.1⟩,y13.2)
def F67(x0:Af)(x1:Int)(x2:Int):Option (Int×Af):=
 (F44 x0 (w64 ((w64 (x2-x1))+1))).bind λy1=>some (w64 (x1+y1.1),y1.2)
def Aml(x0:Af):Option (Cd×Af):=
 (F20 x0 [0,450,800,1350,1800,2600,3500]).bind λy1=>(F20 y1.2 [0,100,300,900,1799]).bind λy3=>some (⟨y1.1,Int.tmod (w64 (y1.1+y3.1)) 3600⟩,y3.2)
def Ajl(z0:Int×(List Int)×Int×(List Cd)):Option (Ctl (Int×(List Int)×Int×(List Cd)) Unit):=
 bif decide (z0.1>0)then (Aml ⟨z0.2.1,z0.2.2.1⟩).bind λy14=>(appI 17 z0.2.2.2 [y14.1]).bind λy16=>some (.next (w64 (z0.1-1),y14.2.L,y14.2.At,y16)) else some (.brk (z0.1,z0.2.1,z0.2.2.1,z0.2.2.2))
def Amz(x0:Af):Option (Ay×Af):=
 (F67 x0 1 3).bind λy1=>(F44 y1.2 2).bind λy3=>(F20 y3.2 [0,1,7,20,40]).bind λy5=>(F20 y5.2 [0,1,5,50]).bind λy7=>(F20 y7.2 [1,2,3,100]).bind λy9=>(F44 y9.2 3).bind λy11=>andThen (whileN Ajl 1152921504606846976 (y11.1,y11.2.L,y11.2.At,[])) (λ_=>none) λz0=>some (⟨y1.1,y3.1,y5.1,y7.1,y9.1,z0.2.2.2⟩,⟨z0.2.1,z0.2.2.1⟩)
def Aq0(z0:Int×(List Int)×Int×(List Ay)):Option (Ctl (Int×(List Int)×Int×(List Ay)) Unit):=
 bif decide (z0.1>0)then (Amz ⟨z0.2.1,z0.2.2.1⟩).bind λy10=>(appI 65 z0.2.2.2 [y10.1]).bind λy12=>some (.next (w64 (z0.1-1),y10.2.L,y10.2.At,y12)) else some (.brk (z0.1,z0.2.1,z0.2.2.1,z0.2.2.2))
def F83(x0:Af)(x1:Int):Option (B3×Af):=
 (F20 x0 [0,1,30,60]).bind λy1=>(F20 y1.2 [1,25,40]).bind λy3=>(F44 y3.2 (w64 (x1+1))).bind λy5=>andThen (whileN Aq0 1152921504606846976 (y5.1,y5.2.L,y5.2.At,[])) (λ_=>none) λz0=>some (⟨y1.1,y3.1,z0.2.2.2⟩,⟨z0.2.1,z0.2.2.1⟩)
def Aep(y1:Int×Af)(z0:Sg3):Option (Ctl (Sg3) Unit):=
 bif decide (z0.1<y1.1)then (F44 ⟨z0.2.1,z0.2.2.1⟩ 6).bind λy8=>bif decide (y8.1<5)then (F44 y8.2 z0.1).bind λy11=>(appI 25 z0.2.2.2 [⟨1,y11.1,z0.1⟩]).bind λy13=>some (.next (w64 (z0.1+1),y11.2.L,y11.2.At,y13)) else some (.next (w64 (z0.1+1),y8.2.L,y8.2.At,z0.2.2.2)) else some (.brk (z0.1,z0.2.1,z0.2.2.1,z0.2.2.2))
def Aqz(y1:Int×Af)(z0:Sg3)(y15:Int×Af):Option (Ctl ((List Ak)) Unit):=
 bif ((decide (y1.1>2))&&(y15.1==1))then (appI 25 z0.2.2.2 [⟨1,0,w64 (y1.1-1)⟩]).bind λy18=>some (.next y18) else some (.next z0.2.2.2)
def Aeo(y1:Int×Af)(z2:Int×(List Int)×Int×(List Ak)×(List B5)):Option (Ctl (Int×(List Int)×Int×(List Ak)×(List B5)) Unit):=
 bif decide (z2.1>0)then (F44 ⟨z2.2.1,z2.2.2.1⟩ y1.1).bind λy23=>(appI 25 z2.2.2.2.1 [⟨2,y23.1,(z2.2.2.2.2.length:Int)⟩]).bind λy25=>(F20 y23.2 [10,50,100]).bind λy27=>(F20 y27.2 [0,5,y27.1]).bind λy29=>(F20 y29.2 [0,1,3]).bind λy31=>(appI 25 z2.2.2.2.2 [⟨y27.1,y29.1,y31.1⟩]).bind λy33=>some (.next (w64 (z2.1-1),y31.2.L,y31.2.At,y25,y33)) else some (.brk (z2.1,z2.2.1,z2.2.2.1,z2.2.2.2.1,z2.2.2.2.2))
def Aqy(y1:Int×Af)(z3:Sg4)(y38:Int×Af)(y40:List Ak)(y42:Int×Af):Option (Ctl ((List Ak)) Unit):=
 bif ((decide (y1.1>1))&&(y42.1==3))then (nzI y1.1).bind λu46=>(appI 25 y40 [⟨3,Int.tmod (w64 (y38.1+1)) y1.1,(z3.2.2.2.2.length:Int)⟩]).bind λy47=>some (.next y47) else some (.next y40)
def Avv(z3:Sg4)(y57:Int×Af):Bool:=((decide ((z3.2.2.2.2.length:Int)>0))&&(y57.1==3))
def Aen(y1:Int×Af)(z3:Sg4):Option (Ctl (Sg4) Unit):=
 bif decide (z3.1>0)then (F44 ⟨z3.2.1,z3.2.2.1⟩ y1.1).bind λy38=>(appI 25 z3.2.2.2.1 [⟨3,y38.1,(z3.2.2.2.2.length:Int)⟩]).bind λy40=>(Au [(decide (y1.1>1),true)] (F44 y38.2 4) (default,y38.2)).bind λy42=>andThen (Aqy y1 z3 y38 y40 y42) (λ_=>none) λz4=>(F20 y42.2 [0,5,20,40]).bind λy49=>(F20 y49.2 [0,w64 (Int.tdiv y49.1 2),y49.1]).bind λy51=>(F44 y51.2 3).bind λy53=>(F67 y53.2 (-1) 2).bind λy55=>(Au [(decide ((z3.2.2.2.2.length:Int)>0),true)] (F44 y55.2 4) (default,y55.2)).bind λy57=>bif (Avv z3 y57)then (F44 y57.2 (z3.2.2.2.2.length:Int)).bind λy60=>(appI 57 z3.2.2.2.2 [⟨y49.1,y51.1,y53.1,y55.1,[y60.1]⟩]).bind λy62=>some (.next (w64 (z3.1-1),y60.2.L,y60.2.At,z4,y62)) else (appI 57 z3.2.2.2.2 [⟨y49.1,y51.1,y53.1,y55.1,[]⟩]).bind λy64=>some (.next (w64 (z3.1-1),y57.2.L,y57.2.At,z4,y64)) else some (.brk (z3.1,z3.2.1,z3.2.2.1,z3.2.2.2.1,z3.2.2.2.2))
def F84(x0:Af):Option (Aa×Af):=
 (F67 x0 1 4).bind λy1=>(F20 y1.2 [0,50,200,1800]).bind λy3=>(F20 y3.2 [0,10,50]).bind λy5=>andThen (whileN (Aep y1) 1152921504606846976 (1,y5.2.L,y5.2.At,[])) (λ_=>none) λz0=>(Au [(decide (y1.1>2),true)] (F44 ⟨z0.2.1,z0.2.2.1⟩ 2) (default,⟨z0.2.1,z0.2.2.1⟩)).bind λy15=>andThen (Aqz y1 z0 y15) (λ_=>none) λz1=>(F44 y15.2 5).bind λy20=>andThen (whileN (Aeo y1) 1152921504606846976 (y20.1,y20.2.L,y20.2.At,z1,[])) (λ_=>none) λz2=>(F44 ⟨z2.2.1,z2.2.2.1⟩ 6).bind λy35=>andThen (whileN (Aen y1) 1152921504606846976 (y35.1,y35.2.L,y35.2.At,z2.2.2.2.1,[])) (λ_=>none) λz3=>some (⟨y1.1,z3.2.2.2.1,z2.2.2.2.2,z3.2.2.2.2,y3.1,y5.1⟩,⟨z3.2.1,z3.2.2.1⟩)
def F85(x0:Af):Option (Bt×Af):=
 (F20 x0 [60,80,100]).bind λy1=>(F20 y1.2 [1,30,50]).bind λy3=>(F20 y3.2 [0,1,3]).bind λy5=>some (⟨y1.1,y3.1,y5.1⟩,y5.2)
def Au7(x0:Af):Option (Dk×Af):=
 (F44 x0 4).bind λy1=>(F20 y1.2 [0,10,100]).bind λy3=>(F20 y3.2 [1,3,10]).bind λy5=>(F20 y5.2 [0,0,2,4]).bind λy7=>some (⟨y1.1,y3.1,y5.1,y7.1⟩,y7.2)
def Aqx(z0:Int×(List Int)×Int×(List Dk)):Option (Ctl (Int×(List Int)×Int×(List Dk)) Unit):=
 bif decide (z0.1>0)then (Au7 ⟨z0.2.1,z0.2.2.1⟩).bind λy4=>(appI 33 z0.2.2.2 [y4.1]).bind λy6=>some (.next (w64 (z0.1-1),y4.2.L,y4.2.At,y6)) else some (.brk (z0.1,z0.2.1,z0.2.2.1,z0.2.2.2))
def F86(x0:Af)(x1:Int):Option ((List Dk)×Af):=
 (F44 x0 (w64 (x1+1))).bind λy1=>andThen (whileN Aqx 1152921504606846976 (y1.1,y1.2.L,y1.2.At,[])) (λ_=>none) λz0=>some (z0.2.2.2,⟨z0.2.1,z0.2.2.1⟩)
def F87(x0:Af):Option (L4×Af):=
 (F20 x0 [0,10,100,1000]).bind λy1=>(F20 y1.2 [0,1,5]).bind λy3=>(F20 y3.2 [0,50,500]).bind λy5=>(F20 y5.2 [0,100]).bind λy7=>(F20 y7.2 [0,3]).bind λy9=>(F20 y9.2 [0,70]).bind λy11=>(F20 y11.2 [0,500,10000]).bind λy13=>(F20 y13.2 [0,20,60]).bind λy15=>(F20 y15.2 [0,500,3000]).bind λy17=>some (⟨y1.1,y3.1,y5.1,y7.1,y9.1,y11.1,y13.1,y15.1,y17.1⟩,y17.2)
def F79(x0:Af)(x1:List ByteArray):Option (ByteArray×Af):=
 (F44 x0 (x1.length:Int)).bind λy1=>(getI x1 y1.1).bind λy3=>some (y3,y1.2)
def Amy(x0:Af):Option (Kr×Af):=
 (F20 x0 [0,300,500,2000]).bind λy1=>(F20 y1.2 [0,0,200]).bind λy3=>(F20 y3.2 [0,0,(-100)]).bind λy5=>(F20 y5.2 [0,500,3000]).bind λy7=>some (⟨⟨y3.1,y5.1⟩,y1.1,w64 (y1.1+y7.1)⟩,y7.2)
def F88(x0:Af):Option (Hm×Af):=
 (F79 x0 [(⟨#[100,114,105,108,108]⟩:ByteArray),(⟨#[100,105,118,101]⟩:ByteArray),(⟨#[97,45,49]⟩:ByteArray)]).bind λy1=>(F67 y1.2 1 3).bind λy3=>(Amy y3.2).bind λy5=>(F20 y5.2 [0,10,50,1000]).bind λy7=>some (⟨y1.1,y3.1,y5.1,y7.1⟩,y7.2)
def Aqv(x1:Int)(x2:Int)(z0:Int×(List Int)×Int×(List Int)):Option (Ctl (Int×(List Int)×Int×(List Int)) Unit):=
 bif decide (z0.1<x1)then (F44 ⟨z0.2.1,z0.2.2.1⟩ x2).bind λy2=>bif (y2.1==(w64 (x2-1)))then (appI 9 z0.2.2.2 [z0.1]).bind λy5=>some (.next (w64 (z0.1+1),y2.2.L,y2.2.At,y5)) else some (.next (w64 (z0.1+1),y2.2.L,y2.2.At,z0.2.2.2)) else some (.brk (z0.1,z0.2.1,z0.2.2.1,z0.2.2.2))
def F91(x0:Af)(x1:Int)(x2:Int):Option ((List Int)×Af):=
 andThen (whileN (Aqv x1 x2) 1152921504606846976 (0,x0.L,x0.At,[])) (λ_=>none) λz0=>some (z0.2.2.2,⟨z0.2.1,z0.2.2.1⟩)
def Avu(z0:Sg8)(y3:Int×Af):Bool:=((decide (z0.1<=y3.1)) || (z0.1==0))
def Aqw(z0:Sg8):Option (Ctl (Sg8) Unit):=
 (F44 ⟨z0.2.1,z0.2.2.1⟩ 5).bind λy3=>bif (Avu z0 y3)then bif (z0.1==12)then some (.brk (z0.1,y3.2.L,y3.2.At,z0.2.2.2)) else (Ajw [IntKind.wrap .u8 (w64 (97+z0.1))]).bind λy17=>(nzI (Adm (⟨#[115]⟩:ByteArray) y17)).bind λu20=>(F20 y3.2 [1,2,3,7]).bind λy21=>(F67 y21.2 1 3).bind λy23=>(F91 y23.2 z0.1 2).bind λy25=>(appI 57 z0.2.2.2 [⟨((⟨#[115]⟩:ByteArray)++y17),y21.1,y23.1,y25.1⟩]).bind λy27=>some (.next (w64 (z0.1+1),y25.2.L,y25.2.At,y27)) else some (.brk (z0.1,y3.2.L,y3.2.At,z0.2.2.2))
def F89(x0:Af):Option (Kq×Af):=
 andThen (whileN Aqw 1152921504606846976 (0,x0.L,x0.At,[])) (λ_=>none) λz0=>some (⟨z0.2.2.2⟩,⟨z0.2.1,z0.2.2.1⟩)
def F90(x0:Af):Option (Int×Af):=
 (F20 x0 [0,1,299,300,450,900,1800,2701,3599]).bind λy1=>some (y1.1,y1.2)
def Ah9(a0:Ab)(z1:(List Int)×Int×(List Bc))(a1:Ab)(y1:Int×Af):Bool:=(((!((a0.Kind==a1.Kind)&&((a0.Number==a1.Number)&&true)))&&(decide ((z1.2.2.length:Int)<20)))&&(y1.1==6))
def Ael(a0:Ab)(n1:Nat)(a1:Ab)(z1:(List Int)×Int×(List Bc)):Option (Ctl ((List Int)×Int×(List Bc)) Unit):=
 (Au [(((!((a0.Kind==a1.Kind)&&((a0.Number==a1.Number)&&true)))&&(decide ((z1.2.2.length:Int)<20))),true)] (F44 ⟨z1.1,z1.2.1⟩ 7) (default,⟨z1.1,z1.2.1⟩)).bind λy1=>bif (Ah9 a0 z1 a1 y1)then (appI 33 z1.2.2 [⟨a0,a1⟩]).bind λy4=>some (.next (y1.2.L,y1.2.At,y4)) else some (.next (y1.2.L,y1.2.At,z1.2.2))
def Aem(x1:List Ab)(n0:Nat)(a0:Ab)(z0:(List Int)×Int×(List Bc)):Option (Ctl ((List Int)×Int×(List Bc)) Unit):=
 andThen (foldI (Ael a0) x1 0 (z0.1,z0.2.1,z0.2.2)) (λ_=>none) λz1=>some (.next (z1.1,z1.2.1,z1.2.2))
def Aba(x0:Af)(x1:List Ab):Option ((List Bc)×Af):=
 andThen (foldI (Aem x1) x1 0 (x0.L,x0.At,[])) (λ_=>none) λz0=>some (z0.2.2,⟨z0.1,z0.2.1⟩)
def F29(x0:Ab)(x1:Ab):Bool:=
 ((decide (x0.Kind<x1.Kind)) || ((x0.Kind==x1.Kind)&&(decide (x0.Number<x1.Number))))
def uK(x0:List Ab)(x1:Ab)(z0:Int)(y3:Ab):Bool:=((decide (z0<(x0.length:Int)))&&(F29 y3 x1))
def Aes(x0:List Ab)(x1:Ab)(z0:Int):Option (Ctl Int Unit):=
 (Au [(decide (z0<(x0.length:Int)),true)] (getI x0 z0) default).bind λy3=>bif (uK x0 x1 z0 y3)then some (.next (w64 (z0+1))) else some (.brk z0)
def uJ(x0:List Ab)(x1:Ab)(z0:Int)(y6:Ab):Bool:=((decide (z0<(x0.length:Int)))&&((y6.Kind==x1.Kind)&&((y6.Number==x1.Number)&&true)))
def Zd(x0:List Ab)(x1:Ab):Option ((List Ab)):=
 andThen (whileN (Aes x0 x1) 1152921504606846976 0) (λ_=>none) λz0=>(Au [(decide (z0<(x0.length:Int)),true)] (getI x0 z0) default).bind λy6=>bif (uJ x0 x1 z0 y6)then some x0 else (bndI x0.length 0 z0).bind λu10=>(bndI x0.length z0 (x0.length:Int)).bind λu12=>(appI 17 [x1] ((x0.drop (Int.toNat z0)).take ((Int.toNat (x0.length:Int))-(Int.toNat z0)))).bind λy13=>(appI 17 (x0.take ((Int.toNat z0)-0)) y13).bind λy15=>some y15
def Ah8(x1:List Ab)(z0:Sg6):Bool:=((decide (z0.1>0))&&(decide ((x1.length:Int)>0)))
def Aej(n1:Nat)(a1:Ab)(z1:(List Int)×Int×(List Ab)):Option (Ctl ((List Int)×Int×(List Ab)) Unit):=
 (F44 ⟨z1.1,z1.2.1⟩ 4).bind λy10=>bif (y10.1==3)then (Zd z1.2.2 a1).bind λy13=>some (.next (y10.2.L,y10.2.At,y13)) else some (.next (y10.2.L,y10.2.At,z1.2.2))
def Aek(x1:List Ab)(z0:Sg6):Option (Ctl (Sg6) Unit):=
 bif (Ah8 x1 z0)then (getI [(⟨#[111,110,101]⟩:ByteArray),(⟨#[116,119,111]⟩:ByteArray),(⟨#[103,45,51]⟩:ByteArray),(⟨#[120]⟩:ByteArray)] z0.1).bind λy4=>(F44 ⟨z0.2.1,z0.2.2.1⟩ (x1.length:Int)).bind λy6=>(getI x1 y6.1).bind λy8=>andThen (foldI Aej x1 0 (y6.2.L,y6.2.At,[y8])) (λ_=>none) λz1=>(appI 41 z0.2.2.2 [⟨y4,z1.2.2⟩]).bind λy15=>some (.next (w64 (z0.1-1),z1.1,z1.2.1,y15)) else some (.brk (z0.1,z0.2.1,z0.2.2.1,z0.2.2.2))
def Aa9(x0:Af)(x1:List Ab):Option ((List Bu)×Af):=
 (F44 x0 4).bind λy1=>andThen (whileN (Aek x1) 1152921504606846976 (y1.1,y1.2.L,y1.2.At,[])) (λ_=>none) λz0=>some (z0.2.2.2,⟨z0.2.1,z0.2.2.1⟩)
def Av1(y5:Aa×Af)(z0:Sg5):Bool:=decide (z0.1<(y5.1.Ag.length:Int))
def Aev(y3:B3×Af)(y5:Aa×Af)(z0:Sg5):Option (Ctl (Sg5) Unit):=
 bif (Av1 y5 z0)then (F67 ⟨z0.2.1,z0.2.2.1⟩ (-1) (w64 ((y3.1.A3.length:Int)-1))).bind λy26=>(getI z0.2.2.2 z0.1).bind λy28=>(setI z0.2.2.2 z0.1 ⟨y28.Load,y28.Least,y28.B2,y26.1,y28.Needs⟩).bind λy30=>some (.next (w64 (z0.1+1),y26.2.L,y26.2.At,y30)) else some (.brk (z0.1,z0.2.1,z0.2.2.1,z0.2.2.2))
def Aq9(n1:Nat)(n2:Nat)(a2:Int)(z2:(List Ab)):Option (Ctl ((List Ab)) Unit):=
 (appI 17 z2 [⟨cnt 0 n1,a2⟩]).bind λy34=>some (.next y34)
def Aeu(n1:Nat)(a1:Int)(z1:(List Int)×Int×(List Ab)):Option (Ctl ((List Int)×Int×(List Ab)) Unit):=
 (F91 ⟨z1.1,z1.2.1⟩ (min a1 3) 2).bind λy32=>andThen (foldI (Aq9 n1) y32.1 0 z1.2.2) (λ_=>none) λz2=>some (.next (y32.2.L,y32.2.At,z2))
def F43(x0:Af):Option (A5×Af):=
 (F82 x0).bind λy1=>(F83 y1.2 2).bind λy3=>(F84 y3.2).bind λy5=>(F85 y5.2).bind λy7=>(F86 y7.2 3).bind λy9=>(F87 y9.2).bind λy11=>(F20 y11.2 [0,1,3]).bind λy13=>(F88 y13.2).bind λy15=>(F89 y15.2).bind λy17=>(F67 y17.2 (-50) 50).bind λy19=>(F67 y19.2 (-50) 50).bind λy21=>(F90 y21.2).bind λy23=>andThen (whileN (Aev y3 y5) 1152921504606846976 (0,y23.2.L,y23.2.At,y5.1.Ag)) (λ_=>none) λz0=>andThen (foldI Aeu [0,(y5.1.Ae.length:Int),(y5.1.Ah.length:Int),y5.1.An,(z0.2.2.2.length:Int),(y3.1.A3.length:Int),(y9.1.length:Int),0,0,2] 0 (z0.2.1,z0.2.2.1,[])) (λ_=>none) λz1=>(Aba ⟨z1.1,z1.2.1⟩ z1.2.2).bind λy36=>(Aa9 y36.2 z1.2.2).bind λy38=>some (⟨y1.1,y3.1,⟨y5.1.An,y5.1.Ah,y5.1.Ae,z0.2.2.2,y5.1.Phase,y5.1.Ar⟩,y7.1,⟨z1.2.2,y36.1,y38.1⟩,y9.1,y11.1,⟨⟨y19.1,y21.1⟩,y23.1⟩,y13.1,y15.1,y17.1⟩,y38.2)
def A3i(a0:Ab)(z1:(List Int)×Int×(List Bc))(a1:Ab)(y1:Int×Af):Bool:=(((!((a0.Kind==a1.Kind)&&((a0.Number==a1.Number)&&true)))&&(decide ((z1.2.2.length:Int)<20)))&&(y1.1==6))
def A19(a0:Ab)(n1:Nat)(a1:Ab)(z1:(List Int)×Int×(List Bc)):Option (Ctl ((List Int)×Int×(List Bc)) Unit):=
 (Au [(((!((a0.Kind==a1.Kind)&&((a0.Number==a1.Number)&&true)))&&(decide ((z1.2.2.length:Int)<20))),true)] (F44 ⟨z1.1,z1.2.1⟩ 7) (default,⟨z1.1,z1.2.1⟩)).bind λy1=>bif (A3i a0 z1 a1 y1)then (appI 33 z1.2.2 [⟨a0,a1⟩]).bind λy4=>some (.next (y1.2.L,y1.2.At,y4)) else some (.next (y1.2.L,y1.2.At,z1.2.2))
def A2a(x1:List Ab)(n0:Nat)(a0:Ab)(z0:(List Int)×Int×(List Bc)):Option (Ctl ((List Int)×Int×(List Bc)) Unit):=
 andThen (foldI (A19 a0) x1 0 (z0.1,z0.2.1,z0.2.2)) (λ_=>none) λz1=>some (.next (z1.1,z1.2.1,z1.2.2))
def F92(x0:Af)(x1:List Ab):Option ((List Bc)×Af):=
 andThen (foldI (A2a x1) x1 0 (x0.L,x0.At,[])) (λ_=>none) λz0=>some (z0.2.2,⟨z0.1,z0.2.1⟩)
def A3h(x1:List Ab)(z0:Sg6):Bool:=((decide (z0.1>0))&&(decide ((x1.length:Int)>0)))
def A17(n1:Nat)(a1:Ab)(z1:(List Int)×Int×(List Ab)):Option (Ctl ((List Int)×Int×(List Ab)) Unit):=
 (F44 ⟨z1.1,z1.2.1⟩ 4).bind λy10=>bif (y10.1==3)then (Zd z1.2.2 a1).bind λy13=>some (.next (y10.2.L,y10.2.At,y13)) else some (.next (y10.2.L,y10.2.At,z1.2.2))
def A18(x1:List Ab)(z0:Sg6):Option (Ctl (Sg6) Unit):=
 bif (A3h x1 z0)then (getI [(⟨#[111,110,101]⟩:ByteArray),(⟨#[116,119,111]⟩:ByteArray),(⟨#[103,45,51]⟩:ByteArray),(⟨#[120]⟩:ByteArray)] z0.1).bind λy4=>(F44 ⟨z0.2.1,z0.2.2.1⟩ (x1.length:Int)).bind λy6=>(getI x1 y6.1).bind λy8=>andThen (foldI A17 x1 0 (y6.2.L,y6.2.At,[y8])) (λ_=>none) λz1=>(appI 41 z0.2.2.2 [⟨y4,z1.2.2⟩]).bind λy15=>some (.next (w64 (z0.1-1),z1.1,z1.2.1,y15)) else some (.brk (z0.1,z0.2.1,z0.2.2.1,z0.2.2.2))
def F93(x0:Af)(x1:List Ab):Option ((List Bu)×Af):=
 (F44 x0 4).bind λy1=>andThen (whileN (A18 x1) 1152921504606846976 (y1.1,y1.2.L,y1.2.At,[])) (λ_=>none) λz0=>some (z0.2.2.2,⟨z0.2.1,z0.2.2.1⟩)
def Aq8(z0:Int×(List Int)×Int×(List Ak)×(List Ay)×(List A7)):Option (Ctl (Int×(List Int)×Int×(List Ak)×(List Ay)×(List A7)) Unit):=
 bif decide (z0.1<4)then (appI 25 z0.2.2.2.1 [⟨3,Int.tmod z0.1 2,z0.1⟩]).bind λy16=>(F20 ⟨z0.2.1,z0.2.2.1⟩ [0,5,20]).bind λy18=>(F44 y18.2 3).bind λy20=>(appI 57 z0.2.2.2.2.2 [⟨20,y18.1,y20.1,z0.1,[]⟩]).bind λy22=>(F20 y20.2 [50,50,5]).bind λy24=>(F20 y24.2 [1,2]).bind λy26=>(appI 65 z0.2.2.2.2.1 [⟨3,w64 (Int.tdiv z0.1 2),40,y24.1,y26.1,[]⟩]).bind λy28=>some (.next (w64 (z0.1+1),y26.2.L,y26.2.At,y16,y28,y22)) else some (.brk (z0.1,z0.2.1,z0.2.2.1,z0.2.2.2.1,z0.2.2.2.2.1,z0.2.2.2.2.2))
def F45(x0:Af):Option (A5×Af):=
 (F43 x0).bind λy1=>(appI 25 [⟨1,0,1⟩] [⟨2,0,0⟩]).bind λy3=>(F44 y1.2 3).bind λy5=>(appI 25 [] [⟨100,0,y5.1⟩]).bind λy7=>(appI 25 y3 [⟨2,1,1⟩]).bind λy9=>(F44 y5.2 3).bind λy11=>(appI 25 y7 [⟨100,0,y11.1⟩]).bind λy13=>andThen (whileN Aq8 7 (0,y11.2.L,y11.2.At,y9,[],[])) (λ_=>none) λz0=>(F92 ⟨z0.2.1,z0.2.2.1⟩ [⟨1,0⟩,⟨1,1⟩,⟨5,0⟩,⟨5,1⟩,⟨6,0⟩,⟨9,0⟩]).bind λy30=>(F93 y30.2 [⟨1,0⟩,⟨1,1⟩,⟨5,0⟩,⟨5,1⟩,⟨6,0⟩,⟨9,0⟩]).bind λy32=>some (⟨y1.1.Hull,⟨30,30,z0.2.2.2.2.1⟩,⟨2,z0.2.2.2.1,y13,z0.2.2.2.2.2,1800,50⟩,y1.1.Table,⟨[⟨1,0⟩,⟨1,1⟩,⟨5,0⟩,⟨5,1⟩,⟨6,0⟩,⟨9,0⟩],y30.1,y32.1⟩,[⟨0,100,3,0⟩,⟨1,100,3,0⟩,⟨2,100,3,0⟩],⟨10,0,5,0,0,0,0,20,100⟩,y1.1.Target,y1.1.Delay,⟨y1.1.Operation.Name,y1.1.Operation.Class,⟨y1.1.Target.Place,1000,3000⟩,y1.1.Operation.Drift⟩,y1.1.Sequence⟩,y32.2)
def Ad0(x1:Aa)(z0:Int×(List Int)×Int×(List Bool)):Bool:=decide (z0.1<(x1.Ah.length:Int))
def Vo(x1:Aa)(z0:Int×(List Int)×Int×(List Bool)):Option (Ctl (Int×(List Int)×Int×(List Bool)) Unit):=
 bif (Ad0 x1 z0)then (F44 ⟨z0.2.1,z0.2.2.1⟩ 2).bind λy2=>(appI 2 z0.2.2.2 [(y2.1==1)]).bind λy4=>some (.next (w64 (z0.1+1),y2.2.L,y2.2.At,y4)) else some (.brk (z0.1,z0.2.1,z0.2.2.1,z0.2.2.2))
def Adz(x1:Aa)(z1:Int×(List Bool)):Bool:=decide (z1.1<(x1.Ag.length:Int))
def zF(z1:Int×(List Bool))(a2:Ak)(y7:Bool):Bool:=(((a2.Kind==3)&&(a2.B==z1.1))&&y7)
def Vm(z1:Int×(List Bool))(n2:Nat)(a2:Ak)(z2:Bool×(List Bool)):Option (Ctl (Bool×(List Bool)) Unit):=
 (Au [(((a2.Kind==3)&&(a2.B==z1.1)),true)] (getI z2.2 (cnt 0 n2)) default).bind λy7=>bif (zF z1 a2 y7)then (getI z2.2 (cnt 0 n2)).bind λy10=>(setI z2.2 (cnt 0 n2) z2.1).bind λy12=>some (.next (false,y12)) else some (.next (z2.1,z2.2))
def Vn(x1:Aa)(z1:Int×(List Bool)):Option (Ctl (Int×(List Bool)) Unit):=
 bif (Adz x1 z1)then andThen (foldI (Vm z1) x1.Ah 0 (true,z1.2)) (λ_=>none) λz2=>some (.next (w64 (z1.1+1),z2.2)) else some (.brk (z1.1,z1.2))
def zE(x1:Aa)(z3:Sg7):Bool:=decide (z3.1<(x1.Ae.length:Int))
def Vl(x1:Aa)(z3:Sg7):Option (Ctl (Sg7) Unit):=
 bif (zE x1 z3)then (F20 ⟨z3.2.1,z3.2.2.1⟩ [0,1,2,2,2,3]).bind λy15=>(F44 y15.2 5).bind λy17=>(F20 y17.2 [5000,5000,5005,4950]).bind λy19=>(F20 y19.2 [0,0,40,1800,3590]).bind λy21=>(appI 33 z3.2.2.2 [⟨y15.1,y17.1,y19.1,y21.1⟩]).bind λy23=>some (.next (w64 (z3.1+1),y21.2.L,y21.2.At,y23)) else some (.brk (z3.1,z3.2.1,z3.2.2.1,z3.2.2.2))
def Vk(n4:Nat)(a4:A7)(z4:(List Int)×Int×(List Int)):Option (Ctl ((List Int)×Int×(List Int)) Unit):=
 (F20 ⟨z4.1,z4.2.1⟩ [a4.Load,a4.Load,a4.Least,w64 (Int.tdiv a4.Load 3)]).bind λy25=>(appI 9 z4.2.2 [y25.1]).bind λy27=>some (.next (y25.2.L,y25.2.At,y27))
def Vj(x1:Aa)(z5:Int×(List Int)×Int×(List Ab)):Option (Ctl (Int×(List Int)×Int×(List Ab)) Unit):=
 bif decide (z5.1<=4)then (F44 ⟨z5.2.1,z5.2.2.1⟩ 5).bind λy30=>bif (y30.1==4)then (F44 y30.2 4).bind λy33=>bif Vq x1 ⟨z5.1,y33.1⟩ then (appI 17 z5.2.2.2 [⟨z5.1,y33.1⟩]).bind λy36=>some (.next (w64 (z5.1+1),y33.2.L,y33.2.At,y36)) else some (.next (w64 (z5.1+1),y33.2.L,y33.2.At,z5.2.2.2)) else some (.next (w64 (z5.1+1),y30.2.L,y30.2.At,z5.2.2.2)) else some (.brk (z5.1,z5.2.1,z5.2.2.1,z5.2.2.2))
def Vp(x0:Af)(x1:Aa):Option (Ad×Af):=
 andThen (whileN (Vo x1) 1152921504606846976 (0,x0.L,x0.At,[])) (λ_=>none) λz0=>andThen (whileN (Vn x1) 1152921504606846976 (0,z0.2.2.2)) (λ_=>none) λz1=>andThen (whileN (Vl x1) 1152921504606846976 (0,z0.2.1,z0.2.2.1,[])) (λ_=>none) λz3=>andThen (foldI Vk x1.Ag 0 (z3.2.1,z3.2.2.1,[])) (λ_=>none) λz4=>andThen (whileN (Vj x1) 7 (1,z4.1,z4.2.1,[])) (λ_=>none) λz5=>some (⟨z1.2,z3.2.2.2,z4.2.2,z5.2.2.2⟩,⟨z5.2.1,z5.2.2.1⟩)
def Aa8(x0:Af)(x1:Aa):Option (Ad×Af):=
 (Vp x0 x1).bind λy1=>(vQ x1 y1.1).bind λy3=>some (y3.1,y1.2)
def Aet(x1:Aa)(z0:Int×(List Int)×Int×(List A8)):Option (Ctl (Int×(List Int)×Int×(List A8)) Unit):=
 bif decide (z0.1<x1.An)then (F67 ⟨z0.2.1,z0.2.2.1⟩ (-1) 4).bind λy6=>(F67 y6.2 (-1) 4).bind λy8=>(appI 17 z0.2.2.2 [⟨y6.1,y8.1⟩]).bind λy10=>some (.next (w64 (z0.1+1),y8.2.L,y8.2.At,y10)) else some (.brk (z0.1,z0.2.1,z0.2.2.1,z0.2.2.2))
def Ze(x0:Af)(x1:Aa):Option (Am×Af):=
 (F67 x0 5 20).bind λy1=>(Aa8 y1.2 x1).bind λy3=>andThen (whileN (Aet x1) 1152921504606846976 (0,y3.2.L,y3.2.At,[])) (λ_=>none) λz0=>some (⟨y1.1,y3.1,z0.2.2.2,[]⟩,⟨z0.2.1,z0.2.2.1⟩)
def F11(x0:Af):Option (A5×Am×Af):=
 (F43 x0).bind λy1=>(F44 y1.2 2).bind λy3=>bif (y3.1==1)then (F45 y3.2).bind λy6=>(Ze y6.2 y6.1.Board).bind λy8=>some (y6.1,y8.1,y8.2) else (Ze y3.2 y1.1.Board).bind λy10=>some (y1.1,y10.1,y10.2)
def F19(x0:Af):Option (A4×Af):=
 (F67 x0 (-60) 60).bind λy1=>(F67 y1.2 (-60) 60).bind λy3=>(F67 y3.2 (-900) 900).bind λy5=>some (⟨y1.1,y3.1,y5.1⟩,y5.2)
def A3n(x0:A4):Bool:=((decide (x0.Surge<(-1000000))) || (decide (x0.Surge>1000000)))
def A3m(x0:A4):Bool:=((decide (x0.Sway<(-1000000))) || (decide (x0.Sway>1000000)))
def A3l(x0:A4):Bool:=((decide (x0.Yaw<(-1000000))) || (decide (x0.Yaw>1000000)))
def F65(x0:A4):Bool:=
 bif (A3n x0)then false else bif (A3m x0)then false else bif (A3l x0)then false else true
def A3k(x0:Int)(x1:Int):Bool:=decide ((Int.tmod (w64 ((w64 (2*x0))+x1)) (w64 (2*x1)))<0)
def F66(x0:Int)(x1:Int):Option Int:=
 (nzI (w64 (2*x1))).bind λu2=>(nzI (w64 (2*x1))).bind λu4=>bif (A3k x0 x1)then some (w64 ((w64 (Int.tdiv (w64 ((w64 (2*x0))+x1)) (w64 (2*x1))))-1)) else some (w64 (Int.tdiv (w64 ((w64 (2*x0))+x1)) (w64 (2*x1))))
def A3u(x0:A4)(x1:Int):Bool:=(((!(F65 x0)) || (decide (x1<0))) || (decide (x1>200)))
def F18(x0:A4)(x1:Int):Option A4:=
 bif (A3u x0 x1)then some ⟨0,0,0⟩ else (F66 (w64 (x0.Surge*x1)) 100).bind λy2=>(F66 (w64 (x0.Sway*x1)) 100).bind λy4=>(F66 (w64 (x0.Yaw*x1)) 100).bind λy6=>some ⟨y2,y4,y6⟩
def Aer(y1:Int×Af):Option (Ctl Bool Unit):=
 bif (y1.1==1)then some (.next (y1.1==1)) else some (.next (y1.1==2))
def Aeq(y1:Int×Af):Option (Ctl Bool Unit):=
 bif (y1.1==3)then some (.next (y1.1==3)) else some (.next (y1.1==4))
def Abb(x0:Af)(x1:Aa):Option (As×Af):=
 (F67 x0 1 9).bind λy1=>andThen (Aer y1) (λ_=>none) λz0=>bif z0 then (F44 y1.2 (w64 ((x1.Ah.length:Int)+1))).bind λy5=>some (⟨y1.1,y5.1,0⟩,y5.2) else andThen (Aeq y1) (λ_=>none) λz1=>bif z1 then (F44 y1.2 (w64 ((x1.Ae.length:Int)+1))).bind λy9=>some (⟨y1.1,y9.1,0⟩,y9.2) else bif (y1.1==5)then (F44 y1.2 (w64 ((x1.Ag.length:Int)+1))).bind λy12=>(F20 y12.2 [0,5,20,41]).bind λy14=>some (⟨y1.1,y12.1,y14.1⟩,y14.2) else bif (y1.1==6)then (F44 y1.2 (w64 ((x1.Ae.length:Int)+1))).bind λy17=>(F44 y17.2 (w64 (x1.An+1))).bind λy19=>some (⟨y1.1,y17.1,y19.1⟩,y19.2) else bif (y1.1==8)then (F67 y1.2 1 4).bind λy22=>(F44 y22.2 4).bind λy24=>some (⟨y1.1,y24.1,y22.1⟩,y24.2) else bif (y1.1==9)then (F67 y1.2 1 4).bind λy27=>(F44 y27.2 4).bind λy29=>some (⟨y1.1,y29.1,y27.1⟩,y29.2) else some (⟨y1.1,0,0⟩,y1.2)
def Afe(x1:Aa)(z0:Int×(List Int)×Int×(List As)):Option (Ctl (Int×(List Int)×Int×(List As)) Unit):=
 bif decide (z0.1>0)then (Abb ⟨z0.2.1,z0.2.2.1⟩ x1).bind λy4=>(appI 25 z0.2.2.2 [y4.1]).bind λy6=>some (.next (w64 (z0.1-1),y4.2.L,y4.2.At,y6)) else some (.brk (z0.1,z0.2.1,z0.2.2.1,z0.2.2.2))
def Abc(x0:Af)(x1:Aa)(x2:Int):Option ((List As)×Af):=
 (F44 x0 (w64 (x2+1))).bind λy1=>andThen (whileN (Afe x1) 1152921504606846976 (y1.1,y1.2.L,y1.2.At,[])) (λ_=>none) λz0=>some (z0.2.2.2,⟨z0.2.1,z0.2.2.1⟩)
def Av2(x3:List As)(y1:Am×(List Int)×Int):Bool:=((y1.2.2 != 0) || (decide ((x3.length:Int)>200)))
def Ara(x0:A5)(x2:List Ab)(x3:List As)(x4:A4)(z0:Int×Int×(List Bool)×(List Aj)×(List Int)×(List Ab)×(List A8)×(List Bq)):Option (Ctl (Int×Int×(List Bool)×(List Aj)×(List Int)×(List Ab)×(List A8)×(List Bq)) (Int×Ab×Bool)):=
 (F22 x0 ⟨z0.2.1,⟨z0.2.2.1,z0.2.2.2.1,z0.2.2.2.2.1,z0.2.2.2.2.2.1⟩,z0.2.2.2.2.2.2.1,z0.2.2.2.2.2.2.2⟩ x2 x4).bind λy4=>bif !y4 then some (.ret (z0.1,⟨0,0⟩,true)) else (F71 x0 ⟨z0.2.1,⟨z0.2.2.1,z0.2.2.2.1,z0.2.2.2.2.1,z0.2.2.2.2.2.1⟩,z0.2.2.2.2.2.2.1,z0.2.2.2.2.2.2.2⟩ x2 x4).bind λy7=>bif y7.2 then some (.ret (z0.1,y7.1,true)) else bif (z0.1==(x3.length:Int))then some (.ret (0,⟨0,0⟩,false)) else (getI x3 z0.1).bind λy11=>(F54 x0.Board ⟨z0.2.1,⟨z0.2.2.1,z0.2.2.2.1,z0.2.2.2.2.1,z0.2.2.2.2.2.1⟩,z0.2.2.2.2.2.2.1,z0.2.2.2.2.2.2.2⟩ y11).bind λy13=>bif (y13.2.2==0)then some (.next (w64 (z0.1+1),y13.1.Time,y13.1.Power.Ai,y13.1.Power.Ae,y13.1.Power.Ao,y13.1.Power.Al,y13.1.A_,y13.1.Be)) else some (.next (w64 (z0.1+1),z0.2.1,z0.2.2.1,z0.2.2.2.1,z0.2.2.2.2.1,z0.2.2.2.2.2.1,z0.2.2.2.2.2.2.1,z0.2.2.2.2.2.2.2))
def F40(x0:A5)(x1:Am)(x2:List Ab)(x3:List As)(x4:A4):Option (Int×Ab×Bool):=
 (F14 x0 x1 x2 []).bind λy1=>bif (Av2 x3 y1)then some (0,⟨0,0⟩,false) else andThen (whileN (Ara x0 x2 x3 x4) 1152921504606846976 (0,x1.Time,x1.Power.Ai,x1.Power.Ae,x1.Power.Ao,x1.Power.Al,x1.A_,x1.Be)) some λz0=>some (0,⟨0,0⟩,false)
def uI(y14:(List As)×Af)(y16:Int×Ab×Bool)(y18:Int×Ab×Bool)(y20:Bool):Bool:=(((y16.2.2==y20) || (y16.2.2&&((!y18.2.2) || (y18.1 != 0)))) || (decide (y18.1>(y14.1.length:Int))))
def Alh(y18:Int×Ab×Bool)(y28:Int×Ab×Bool):Bool:=(((!y28.2.2) || (y28.1 != y18.1)) || (!((y28.2.1.Kind==y18.2.1.Kind)&&((y28.2.1.Number==y18.2.1.Number)&&true))))
def F8(x0:List Int):Option Bool:=
 bif decide ((x0.length:Int)>600)then (F9).bind λy2=>some y2 else (F10 x0).bind λy4=>(F11 y4).bind λy6=>(F19 y6.2.2).bind λy8=>(F20 y8.2 [0,10,50]).bind λy10=>(F18 y8.1 y10.1).bind λy12=>(Abc y10.2 y6.1.Board 3).bind λy14=>(F40 y6.1 y6.2.1 [] [] y12).bind λy16=>(F40 y6.1 y6.2.1 [] y14.1 y12).bind λy18=>(F25 y6.1 y6.2.1 [] y12).bind λy20=>bif (uI y14 y16 y18 y20)then some false else bif !y18.2.2 then (Au [(((y18.1==0)&&((y18.2.1.Kind==0)&&((y18.2.1.Number==0)&&true))),true)] (F9) default).bind λy24=>some (((y18.1==0)&&((y18.2.1.Kind==0)&&((y18.2.1.Number==0)&&true)))&&y24) else (cutI y14.1 0 y18.1).bind λy27=>(F40 y6.1 y6.2.1 [] y27 y12).bind λy28=>bif (Alh y18 y28)then some false else bif decide (y18.1>0)then (cutI y14.1 0 (w64 (y18.1-1))).bind λy33=>(F40 y6.1 y6.2.1 [] y33 y12).bind λy34=>(Au [(!y34.2.2,true)] (F9) default).bind λy36=>some ((!y34.2.2)&&y36) else (F9).bind λy38=>some y38
end Go.Proofs.YtiaaaghdkhnonaaGreat
