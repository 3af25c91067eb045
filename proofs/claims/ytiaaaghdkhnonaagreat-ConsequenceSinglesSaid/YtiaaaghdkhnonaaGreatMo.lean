import Derived.Test.YtiaaaghdkhnonaaGreatTy
import Derived.Test.YtiaaaghdkhnonaaGreatFo
set_option linter.unusedVariables false
namespace Go.Proofs.YtiaaaghdkhnonaaGreat
open Go.SL
abbrev Sg0:=(List Int)×Int×(List Bool)×(List Aj)×(List Int)×(List Ab)×(List Bb)×(List B1)
abbrev Sg1:=Int×(List Bool)×(List Aj)×(List Int)×(List Ab)×(List Bb)×(List B1)
abbrev Sg2:=Int×(List Bool)×(List Aj)×(List Int)×(List Ab)×(List Bb)×(List Ad)×(List B1)
abbrev Sg3:=Int×(List Int)×Int×(List Ak)
abbrev Sg4:=Int×(List Int)×Int×(List Ak)×(List A_)
abbrev Sg5:=Int×(List Int)×Int×(List A_)
abbrev Sg6:=Int×(List Int)×Int×(List Bz)
abbrev Sg7:=Int×(List Int)×Int×(List Aj)
abbrev Sg8:=Int×(List Int)×Int×(List I0)
abbrev Sg9:=Int×(List Ak)×(List B9)×(List A_)×Int×Int×(List Bool)×(List Aj)×(List Int)×(List Ab)×(List A0)
abbrev Ape:=Int×(List Ak)×(List B9)×(List A_)×Int×Int×(List Int)×(List Bool)×(List Aj)×(List Int)×(List Ab)×(List A0)
def Ch(x0:Int)(x1:Int)(x2:Int):Bool:=
 ((decide (x0>=x1))&&(decide (x0<=x2)))
def K4(x1:Int)(x2:Int)(a0:Ak):Bool:=((a0.Kind==x1)&&((a0.B==x2) || ((x1==1)&&(a0.A==x2))))
def Am0(x1:Int)(x2:Int)(n0:Nat)(a0:Ak)(z0:(List Int)):Option (Ctl ((List Int)) Unit):=
 bif (K4 x1 x2 a0)then (appI 9 z0 [cnt 0 n0]).bind λy2=>some (.next y2) else some (.next z0)
def T0(x0:Aa)(x1:Int)(x2:Int):Option ((List Int)):=
 andThen (foldI (Am0 x1 x2) x0.Ah 0 []) (λ_=>none) λz0=>some z0
def Aty(x0:Aa)(a0:Ak):Bool:=!(Ch a0.B (w64 (a0.A+1)) (w64 (x0.Am-1)))
def Atx(x0:Aa)(a0:Ak):Bool:=!(Ch a0.B 0 (w64 ((x0.Ae.length:Int)-1)))
def Atw(x0:Aa)(a0:Ak):Bool:=!(Ch a0.B 0 (w64 ((x0.Ag.length:Int)-1)))
def Ag8(a0:Ak)(a1:Ak):Bool:=((a1.Kind==a0.Kind)&&((a1.A==a0.A)&&((a1.B==a0.B)&&true)))
def Aa5(a0:Ak)(n1:Nat)(a1:Ak)(z1:Unit):Option (Ctl Unit Bool):=
 bif (Ag8 a0 a1)then some (.ret false) else some (.next ())
def Amh(x0:Aa)(n0:Nat)(a0:Ak)(z0:Unit):Option (Ctl Unit Bool):=
 bif !(Ch a0.A 0 (w64 (x0.Am-1)))then some (.ret false) else bif (a0.Kind==1)then bif (Aty x0 a0)then some (.ret false) else some (.next ()) else bif (a0.Kind==2)then bif (Atx x0 a0)then some (.ret false) else some (.next ()) else bif (a0.Kind==3)then bif (Atw x0 a0)then some (.ret false) else (cutI x0.Ah 0 (cnt 0 n0)).bind λy9=>andThen (foldI (Aa5 a0) y9 0 ()) (λv=>some (.ret v)) λz1=>some (.next ()) else some (.ret false)
def Alo(x0:Aa)(z2:Int):Bool:=decide (z2<(x0.Ae.length:Int))
def Amg(x0:Aa)(z2:Int):Option (Ctl Int Bool):=
 bif (Alo x0 z2)then (T0 x0 2 z2).bind λy12=>bif ((y12.length:Int) != 1)then some (.ret false) else some (.next (w64 (z2+1))) else some (.brk z2)
def Aln(x0:Aa)(z3:Int):Bool:=decide (z3<(x0.Ag.length:Int))
def Amf(x0:Aa)(z3:Int):Option (Ctl Int Bool):=
 bif (Aln x0 z3)then (T0 x0 3 z3).bind λy16=>bif decide ((y16.length:Int)<1)then some (.ret false) else some (.next (w64 (z3+1))) else some (.brk z3)
def Aqc(x0:Aa):Option Bool:=
 andThen (foldI (Amh x0) x0.Ah 0 ()) some λz0=>andThen (whileN (Amg x0) 1152921504606846976 0) some λz2=>andThen (whileN (Amf x0) 1152921504606846976 0) some λz3=>some true
def Atv(a0:B9):Bool:=(((!(Ch a0.Rating 1 50000)) || (!(Ch a0.Least 0 a0.Rating))) || (!(Ch a0.Start 0 600)))
def Ame(n0:Nat)(a0:B9)(z0:Unit):Option (Ctl Unit Bool):=
 bif (Atv a0)then some (.ret false) else some (.next ())
def Aqb(x0:Aa):Option Bool:=
 andThen (foldI Ame x0.Ae 0 ()) some λz0=>some true
def Atu(a0:A_):Bool:=(((((!(Ch a0.Load 0 50000)) || (!(Ch a0.Least 0 a0.Load))) || (!(Ch a0.B6 0 15))) || (!(Ch a0.Thruster (-1) 7))) || (decide ((a0.Needs.length:Int)>4)))
def Att(n0:Nat)(n1:Nat)(a1:Int)(y2:Int):Bool:=((!(Ch a1 0 (w64 ((cnt 0 n0)-1)))) || ((decide ((cnt 0 n1)>0))&&(decide (y2>=a1))))
def Amc(n0:Nat)(a0:A_)(n1:Nat)(a1:Int)(z1:Unit):Option (Ctl Unit Bool):=
 (Au [(!(Ch a1 0 (w64 ((cnt 0 n0)-1))),false),(decide ((cnt 0 n1)>0),true)] (getI a0.Needs (w64 ((cnt 0 n1)-1))) default).bind λy2=>bif (Att n0 n1 a1 y2)then some (.ret false) else some (.next ())
def Amd(n0:Nat)(a0:A_)(z0:Unit):Option (Ctl Unit Bool):=
 bif (Atu a0)then some (.ret false) else andThen (foldI (Amc n0 a0) a0.Needs 0 ()) (λv=>some (.ret v)) λz1=>some (.next ())
def Aqa(x0:Aa):Option Bool:=
 andThen (foldI Amd x0.Ag 0 ()) some λz0=>some true
def Ahg(x0:Aa):Bool:=(((((decide (x0.Am<1)) || (decide (x0.Am>6))) || (decide ((x0.Ah.length:Int)>24))) || (decide ((x0.Ae.length:Int)>8))) || (decide ((x0.Ag.length:Int)>16)))
def Ahf(x0:Aa)(y2:Bool)(y4:Bool)(y6:Bool):Bool:=(((((((!y2) || (!y4)) || (!y6)) || (decide (x0.Phase<0))) || (decide (x0.Phase>1800))) || (decide (x0.Ar<0))) || (decide (x0.Ar>6000)))
def Zz(x0:Aa):Option Int:=
 bif (Ahg x0)then some 2 else (Aqc x0).bind λy2=>(Au [(!y2,false)] (Aqb x0) default).bind λy4=>(Au [(((!y2) || (!y4)),false)] (Aqa x0) default).bind λy6=>bif (Ahf x0 y2 y4 y6)then some 14 else some 0
def J8(x0:By):Bool:=
 ((((((decide (x0.Stop>=1))&&(decide (x0.Stop<=99)))&&(decide (x0.Start>x0.Stop)))&&(decide (x0.Start<=100)))&&(decide (x0.Delay>=0)))&&(decide (x0.Delay<=600)))
def A8c(x0:Aa)(z0:Int×(List Aj)):Bool:=decide (z0.1<(x0.Ae.length:Int))
def A63(x0:Aa)(z0:Int×(List Aj)):Option (Ctl (Int×(List Aj)) Unit):=
 bif (A8c x0 z0)then (appI 33 z0.2 [⟨0,0,5000,0⟩]).bind λy8=>some (.next (w64 (z0.1+1),y8)) else some (.brk (z0.1,z0.2))
def A62(n1:Nat)(a1:A_)(z1:(List Int)):Option (Ctl ((List Int)) Unit):=
 (appI 9 z1 [a1.Load]).bind λy10=>some (.next y10)
def A61(x0:Aa)(z2:Int×(List Bb)):Option (Ctl (Int×(List Bb)) Unit):=
 bif decide (z2.1<x0.Am)then (appI 17 z2.2 [⟨(-1),(-1)⟩]).bind λy13=>some (.next (w64 (z2.1+1),y13)) else some (.brk (z2.1,z2.2))
def F80(x0:Aa)(x1:By):Option (As×Int):=
 (Zz x0).bind λy1=>bif (y1 != 0)then none else bif !(J8 x1)then none else (mkI 2 (x0.Ah.length:Int) false).bind λy5=>andThen (whileN (A63 x0) 1152921504606846976 (0,[])) (λ_=>none) λz0=>andThen (foldI A62 x0.Ag 0 []) (λ_=>none) λz1=>andThen (whileN (A61 x0) 1152921504606846976 (0,[])) (λ_=>none) λz2=>some (⟨0,⟨y5,z0.2,z1,[]⟩,z2.2,[]⟩,0)
def Xe(x0:Aa)(x1:Ab):Bool:=
 bif (x1.Kind==1)then Ch x1.Number 0 (w64 ((x0.Ae.length:Int)-1)) else bif (x1.Kind==2)then Ch x1.Number 0 (w64 ((x0.Ah.length:Int)-1)) else bif (x1.Kind==3)then Ch x1.Number 0 (w64 (x0.Am-1)) else bif (x1.Kind==4)then Ch x1.Number 0 (w64 ((x0.Ag.length:Int)-1)) else false
def Ajj(x0:Ab)(x1:Ab):Bool:=
 ((decide (x0.Kind<x1.Kind)) || ((x0.Kind==x1.Kind)&&(decide (x0.Number<x1.Number))))
def Az6(x0:Aa)(x1:Ad):Bool:=((((x1.Ai.length:Int) != (x0.Ah.length:Int)) || ((x1.Ae.length:Int) != (x0.Ae.length:Int))) || ((x1.Ao.length:Int) != (x0.Ag.length:Int)))
def Az5(a0:Aj):Bool:=((((!(Ch a0.State 0 3)) || (!(Ch a0.Since 0 2147483648))) || (!(Ch a0.Ar 0 6000))) || (!(Ch a0.Phase 0 3599)))
def Au9(n0:Nat)(a0:Aj)(z0:Unit):Option (Ctl Unit Int):=
 bif (Az5 a0)then some (.ret 11) else some (.next ())
def Au8(x0:Aa)(n1:Nat)(a1:Int)(z1:Unit):Option (Ctl Unit Int):=
 (getI x0.Ag (cnt 0 n1)).bind λy6=>bif !(Ch a1 0 y6.Load)then some (.ret 11) else some (.next ())
def Az4(x0:Aa)(n2:Nat)(a2:Ab)(y10:Ab):Bool:=((!(Xe x0 a2)) || ((decide ((cnt 0 n2)>0))&&(!(Ajj y10 a2))))
def Au7(x0:Aa)(x1:Ad)(n2:Nat)(a2:Ab)(z2:Unit):Option (Ctl Unit Int):=
 (Au [(!(Xe x0 a2),false),(decide ((cnt 0 n2)>0),true)] (getI x1.Al (w64 ((cnt 0 n2)-1))) default).bind λy10=>bif (Az4 x0 n2 a2 y10)then some (.ret 11) else some (.next ())
def Az3(x0:Aa)(z3:Int):Bool:=decide (z3<(x0.Ag.length:Int))
def Au5(x1:Ad)(n4:Nat)(a4:Int)(z4:Int):Option (Ctl Int Unit):=
 (getI x1.Ai a4).bind λy16=>bif y16 then some (.next (w64 (z4+1))) else some (.next z4)
def Au6(x0:Aa)(x1:Ad)(z3:Int):Option (Ctl Int Int):=
 bif (Az3 x0 z3)then (T0 x0 3 z3).bind λy14=>andThen (foldI (Au5 x1) y14 0 0) (λ_=>none) λz4=>bif decide (z4>1)then some (.ret 11) else some (.next (w64 (z3+1))) else some (.brk z3)
def F75(x0:Aa)(x1:Ad):Option Int:=
 (Zz x0).bind λy1=>bif (y1 != 0)then some y1 else bif (Az6 x0 x1)then some 8 else andThen (foldI Au9 x1.Ae 0 ()) some λz0=>andThen (foldI (Au8 x0) x1.Ao 0 ()) some λz1=>bif decide ((x1.Al.length:Int)>32)then some 11 else andThen (foldI (Au7 x0 x1) x1.Al 0 ()) some λz2=>andThen (whileN (Au6 x0 x1) 1152921504606846976 0) some λz3=>some 0
def F76(x0:Ad):Option Ad:=
 (appI 2 [] x0.Ai).bind λy1=>(appI 33 [] x0.Ae).bind λy3=>(appI 9 [] x0.Ao).bind λy5=>(appI 17 [] x0.Al).bind λy7=>some ⟨y1,y3,y5,y7⟩
def Vv(a1:Ak)(y7:Bool)(y9:Bool)(y11:Bool):Bool:=(((a1.Kind==1)&&y7)&&(y9 || y11))
def Amj(x1:Ad)(n1:Nat)(a1:Ak)(z1:(List Bool)):Option (Ctl ((List Bool)) Unit):=
 (Au [((a1.Kind==1),true)] (getI x1.Ai (cnt 0 n1)) default).bind λy7=>(Au [(((a1.Kind==1)&&y7),true)] (getI z1 a1.A) default).bind λy9=>(Au [(((a1.Kind==1)&&y7),true),(y9,false)] (getI z1 a1.B) default).bind λy11=>bif (Vv a1 y7 y9 y11)then (getI z1 a1.A).bind λy14=>(setI z1 a1.A true).bind λy16=>(getI y16 a1.B).bind λy18=>(setI y16 a1.B true).bind λy20=>some (.next y20) else some (.next z1)
def Amk(x0:Aa)(x1:Ad)(n0:Nat)(a0:Bool)(z0:(List Bool)):Option (Ctl ((List Bool)) Unit):=
 andThen (foldI (Amj x1) x0.Ah 0 z0) (λ_=>none) λz1=>some (.next z1)
def Ami(n2:Nat)(a2:Bool)(z2:(List Int)):Option (Ctl ((List Int)) Unit):=
 bif a2 then (appI 9 z2 [cnt 0 n2]).bind λy23=>some (.next y23) else some (.next z2)
def Aqd(x0:Aa)(x1:Ad)(x2:Int):Option ((List Int)):=
 (mkI 2 x0.Am false).bind λy1=>(getI y1 x2).bind λy3=>(setI y1 x2 true).bind λy5=>andThen (foldI (Amk x0 x1) y5 0 y5) (λ_=>none) λz0=>andThen (foldI Ami z0 0 []) (λ_=>none) λz2=>some z2
def uD(x0:Aa)(x2:Int)(y1:Int)(y3:Aj):Bool:=((((y1 != 0) || (decide (x2<0))) || (decide (x2>=(x0.Ae.length:Int)))) || (y3.State != 2))
def Zw(x0:Aa)(x1:Ad)(x2:Int):Option (Int×Bool):=
 (F75 x0 x1).bind λy1=>(Au [((((y1 != 0) || (decide (x2<0))) || (decide (x2>=(x0.Ae.length:Int)))),false)] (getI x1.Ae x2) default).bind λy3=>bif (uD x0 x2 y1 y3)then some (0,false) else (T0 x0 2 x2).bind λy6=>(getI y6 0).bind λy8=>(getI x1.Ai y8).bind λy10=>bif !y10 then some (0,false) else (getI x0.Ah y8).bind λy13=>some (y13.A,true)
def Aa6(x1:Int)(n0:Nat)(a0:Int)(z0:Unit):Option (Ctl Unit Bool):=
 bif (a0==x1)then some (.ret true) else some (.next ())
def Qa(x0:List Int)(x1:Int):Option Bool:=
 andThen (foldI (Aa6 x1) x0 0 ()) some λz0=>some false
def At6(x0:Aa)(x2:Int)(y1:Int):Bool:=(((y1 != 0) || (decide (x2<0))) || (decide (x2>=(x0.Ag.length:Int))))
def Aa9(x0:Aa)(x1:Ad)(n0:Nat)(a0:Int)(z0:Unit):Option (Ctl Unit (Int×Bool)):=
 (getI x1.Ai a0).bind λy6=>bif y6 then (getI x0.Ah a0).bind λy9=>some (.ret (y9.A,true)) else some (.next ())
def Ai9(x0:Aa)(x1:Ad)(x2:Int):Option (Int×Bool):=
 (F75 x0 x1).bind λy1=>bif (At6 x0 x2 y1)then some (0,false) else (T0 x0 3 x2).bind λy4=>andThen (foldI (Aa9 x0 x1) y4 0 ()) some λz0=>some (0,false)
def Auk(x0:Aa)(x2:Int)(y1:Int):Bool:=(((y1 != 0) || (decide (x2<0))) || (decide (x2>=x0.Am)))
def Auj(x0:Aa)(z0:Int×(List Int)):Bool:=decide (z0.1<(x0.Ae.length:Int))
def Am2(x0:Aa)(x1:Ad)(y4:(List Int))(z0:Int×(List Int)):Option (Ctl (Int×(List Int)) Unit):=
 bif (Auj x0 z0)then (Zw x0 x1 z0.1).bind λy7=>(Au [(y7.2,true)] (Qa y4 y7.1) default).bind λy9=>bif (y7.2&&y9)then (appI 9 z0.2 [z0.1]).bind λy12=>some (.next (w64 (z0.1+1),y12)) else some (.next (w64 (z0.1+1),z0.2)) else some (.brk (z0.1,z0.2))
def Aui(x0:Aa)(z1:Int×(List Int)):Bool:=decide (z1.1<(x0.Ag.length:Int))
def Am1(x0:Aa)(x1:Ad)(y4:(List Int))(z1:Int×(List Int)):Option (Ctl (Int×(List Int)) Unit):=
 bif (Aui x0 z1)then (Ai9 x0 x1 z1.1).bind λy15=>(Au [(y15.2,true)] (Qa y4 y15.1) default).bind λy17=>bif (y15.2&&y17)then (appI 9 z1.2 [z1.1]).bind λy20=>some (.next (w64 (z1.1+1),y20)) else some (.next (w64 (z1.1+1),z1.2)) else some (.brk (z1.1,z1.2))
def Qd(x0:Aa)(x1:Ad)(x2:Int):Option (Aq×Bool):=
 (F75 x0 x1).bind λy1=>bif (Auk x0 x2 y1)then some (⟨[],[],[]⟩,false) else (Aqd x0 x1 x2).bind λy4=>andThen (whileN (Am2 x0 x1 y4) 1152921504606846976 (0,[])) (λ_=>none) λz0=>andThen (whileN (Am1 x0 x1 y4) 1152921504606846976 (0,[])) (λ_=>none) λz1=>some (⟨y4,z0.2,z1.2⟩,true)
def Amb(x0:Aa)(x1:Ad)(z0:Int×(List Aq)):Option (Ctl (Int×(List Aq)) Unit):=
 bif decide (z0.1<x0.Am)then (Qd x0 x1 z0.1).bind λy5=>(getI y5.1.Am 0).bind λy7=>bif (y7==z0.1)then (appI 73 z0.2 [y5.1]).bind λy10=>some (.next (w64 (z0.1+1),y10)) else some (.next (w64 (z0.1+1),z0.2)) else some (.brk (z0.1,z0.2))
def Aa4(x0:Aa)(x1:Ad):Option ((List Aq)):=
 (F75 x0 x1).bind λy1=>bif (y1 != 0)then some [] else andThen (whileN (Amb x0 x1) 1152921504606846976 (0,[])) (λ_=>none) λz0=>some z0.2
def Amr(x1:Ad)(a0:Aq)(n1:Nat)(a1:Int)(z1:(List Aj)):Option (Ctl ((List Aj)) Unit):=
 (getI a0.Ae 0).bind λy5=>(getI x1.Ae y5).bind λy7=>(getI a0.Ae 0).bind λy9=>(getI x1.Ae y9).bind λy11=>(getI z1 a1).bind λy13=>(setI z1 a1 ⟨y13.State,y13.Since,y7.Ar,y13.Phase⟩).bind λy15=>(getI y15 a1).bind λy17=>(setI y15 a1 ⟨y17.State,y17.Since,y17.Ar,y11.Phase⟩).bind λy19=>some (.next y19)
def Ams(x1:Ad)(n0:Nat)(a0:Aq)(z0:(List Aj)):Option (Ctl ((List Aj)) Unit):=
 andThen (foldI (Amr x1 a0) a0.Ae 0 z0) (λ_=>none) λz1=>some (.next z1)
def Aqi(x0:Aa)(x1:Ad):Option Ad:=
 (F76 x1).bind λy1=>(Aa4 x0 x1).bind λy3=>andThen (foldI (Ams x1) y3 0 y1.Ae) (λ_=>none) λz0=>some ⟨y1.Ai,z0,y1.Ao,y1.Al⟩
def Abp(x0:Aa)(x1:Ad):Option (Ad×Int):=
 (F75 x0 x1).bind λy1=>bif (y1 != 0)then some (⟨[],[],[],[]⟩,y1) else (Aqi x0 x1).bind λy4=>some (y4,0)
def A22(x1:List Bool)(n0:Nat)(a0:Bool)(z0:Unit):Option (Ctl Unit Unit):=
 (getI x1 (cnt 0 n0)).bind λy2=>bif !(a0==y2)then none else some (.next ())
def A7o(x0:List Bool)(x1:List Bool):Option Bool:=
 bif ((x0.length:Int) != (x1.length:Int))then none else andThen (foldI (A22 x1) x0 0 ()) (λ_=>none) λz0=>some true
def A7n(x1:List Int)(n0:Nat)(a0:Int)(z0:Unit):Option (Ctl Unit Unit):=
 (getI x1 (cnt 0 n0)).bind λy2=>bif (a0 != y2)then none else some (.next ())
def F16(x0:List Int)(x1:List Int):Option Bool:=
 bif ((x0.length:Int) != (x1.length:Int))then none else andThen (foldI (A7n x1) x0 0 ()) (λ_=>none) λz0=>some true
def A8g(x0:Ad)(x1:Ad)(y1:Bool)(y3:Bool):Bool:=((((!y1) || (!y3)) || ((x0.Ae.length:Int) != (x1.Ae.length:Int))) || ((x0.Al.length:Int) != (x1.Al.length:Int)))
def A8f(x0:Ad)(z0:Int):Bool:=decide (z0<(x0.Ae.length:Int))
def A8e(y7:Aj)(y9:Aj):Bool:=!((y7.State==y9.State)&&((y7.Since==y9.Since)&&((y7.Ar==y9.Ar)&&((y7.Phase==y9.Phase)&&true))))
def A65(x0:Ad)(x1:Ad)(z0:Int):Option (Ctl Int Unit):=
 bif (A8f x0 z0)then (getI x0.Ae z0).bind λy7=>(getI x1.Ae z0).bind λy9=>bif (A8e y7 y9)then none else some (.next (w64 (z0+1))) else some (.brk z0)
def A64(x0:Ad)(z1:Unit):Option (Ctl Unit Unit):=
 bif decide (0<(x0.Al.length:Int))then none else some (.brk ())
def F63(x0:Ad)(x1:Ad):Option Bool:=
 (A7o x0.Ai x1.Ai).bind λy1=>(Au [(!y1,false)] (F16 x0.Ao x1.Ao) default).bind λy3=>bif (A8g x0 x1 y1 y3)then none else andThen (whileN (A65 x0 x1) 1152921504606846976 0) (λ_=>none) λz0=>andThen (whileN (A64 x0) 1152921504606846976 ()) (λ_=>none) λz1=>some true
def A8i(x1:By)(x2:As):Bool:=(((!(J8 x1)) || (decide (x2.Time<0))) || (decide (x2.Time>2147483648)))
def A8h(x2:As)(a0:Bb):Bool:=((((decide (a0.High<(-1))) || (decide (a0.High>x2.Time))) || (decide (a0.Low<(-1)))) || (decide (a0.Low>x2.Time)))
def A66(x2:As)(n0:Nat)(a0:Bb)(z0:Unit):Option (Ctl Unit Unit):=
 bif (A8h x2 a0)then none else some (.next ())
def F58(x0:Aa)(x1:By)(x2:As):Option Int:=
 (F75 x0 x2.Power).bind λy1=>bif (y1 != 0)then none else bif (A8i x1 x2)then none else bif ((x2.Be.length:Int) != x0.Am)then none else andThen (foldI (A66 x2) x2.Be 0 ()) (λ_=>none) λz0=>(Abp x0 x2.Power).bind λy7=>(F63 y7.1 x2.Power).bind λy9=>bif !y9 then none else some 0
def A6b(x1:Int)(x2:Int)(a0:Ab):Bool:=((a0.Kind==x1)&&(a0.Number==x2))
def A2y(x1:Int)(x2:Int)(n0:Nat)(a0:Ab)(z0:Unit):Option (Ctl Unit Bool):=
 bif (A6b x1 x2 a0)then some (.ret true) else some (.next ())
def Hw(x0:Ad)(x1:Int)(x2:Int):Option Bool:=
 andThen (foldI (A2y x1 x2) x0.Al 0 ()) some λz0=>some false
def A51(y1:Aq×Bool):Bool:=((!y1.2) || ((y1.1.Ae.length:Int)==0))
def A7g(x0:Aa)(x1:Ad)(x2:Int):Option (Int×Bool):=
 (Qd x0 x1 x2).bind λy1=>bif (A51 y1)then some (0,false) else (getI y1.1.Ae 0).bind λy4=>some (y4,true)
def Er(x0:Int):Int:=
 Int.tmod (w64 ((Int.tmod x0 3600)+3600)) 3600
def A5j(x0:Int)(x1:Int):Bool:=decide ((Er (w64 ((Er x1)-(Er x0))))>1800)
def A68(x0:Int)(x1:Int):Option Int:=
 bif (A5j x0 x1)then none else some (Er (w64 ((Er x1)-(Er x0))))
def A5m(x1:Aj):Bool:=((decide (x1.Ar<0)) || (decide (x1.Ar>6000)))
def A5l(x2:Aj):Bool:=((decide (x2.Ar<0)) || (decide (x2.Ar>6000)))
def A7a(x0:Aa)(x1:Aj)(x2:Aj):Option Bool:=
 bif (A5m x1)then none else bif (A5l x2)then none else (A68 x1.Phase x2.Phase).bind λy3=>some ((((decide ((w64 (x1.Ar-x2.Ar))>=(w64 (0-x0.Ar))))&&(decide ((w64 (x1.Ar-x2.Ar))<=x0.Ar)))&&(decide (y3>=(w64 (0-x0.Phase)))))&&(decide (y3<=x0.Phase)))
def A52(x0:Aa)(x2:Int):Bool:=((decide (x2<0)) || (decide (x2>=(x0.Ah.length:Int))))
def A7h(x0:Aa)(x1:Ad)(x2:Int):Option Int:=
 (F75 x0 x1).bind λy1=>bif (y1 != 0)then none else bif (A52 x0 x2)then none else (getI x0.Ah x2).bind λy5=>(getI x1.Ai x2).bind λy7=>(Au [(y7,false)] (Hw x1 2 x2) default).bind λy9=>(Au [((y7 || y9),false)] (Hw x1 3 y5.A) default).bind λy11=>bif ((y7 || y9) || y11)then none else (A7g x0 x1 y5.A).bind λy14=>bif (y5.Kind==1)then none else bif (y5.Kind==2)then (Hw x1 1 y5.B).bind λy18=>(Au [(y18,false)] (getI x1.Ae y5.B) default).bind λy20=>bif (y18 || (y20.State != 2))then none else (Au [(y14.2,true)] (getI x1.Ae y14.1) default).bind λy23=>(Au [(y14.2,true)] (getI x1.Ae y5.B) default).bind λy25=>(Au [(y14.2,true)] (A7a x0 y23 y25) default).bind λy27=>bif (y14.2&&(!y27))then none else some 0 else (Ai9 x0 x1 y5.B).bind λy30=>(Au [(y30.2,false)] (Hw x1 4 y5.B) default).bind λy32=>bif (y30.2 || y32)then none else some 0
def A7m(x0:Aa)(x1:Ad)(x2:Int):Option (Ad×Int):=
 (A7h x0 x1 x2).bind λy1=>bif (y1 != 0)then none else (F76 x1).bind λy4=>(getI y4.Ai x2).bind λy6=>(setI y4.Ai x2 true).bind λy8=>(Aqi x0 ⟨y8,y4.Ae,y4.Ao,y4.Al⟩).bind λy10=>some (y10,0)
def Zy(x0:Aa)(x1:Int)(x2:Int):Option ((List Int)):=
 (Zz x0).bind λy1=>bif (y1 != 0)then none else (T0 x0 x1 x2).bind λy4=>some y4
def A2x(n0:Nat)(a0:Aj)(z0:(List Aj)):Option (Ctl ((List Aj)) Unit):=
 (getI z0 (cnt 0 n0)).bind λy6=>bif (y6.State==2)then (setI z0 (cnt 0 n0) ⟨y6.State,y6.Since,y6.Ar,Er (w64 (y6.Phase+(w64 (36*(w64 (y6.Ar-5000))))))⟩).bind λy9=>some (.next y9) else none
def A7l(x0:Aa)(x1:Ad):Option (Ad×Int):=
 (F75 x0 x1).bind λy1=>bif (y1 != 0)then none else (F76 x1).bind λy4=>andThen (foldI A2x y4.Ae 0 y4.Ae) (λ_=>none) λz0=>some (⟨y4.Ai,z0,y4.Ao,y4.Al⟩,0)
def A6h(x2:Int)(x3:A0):Bool:=((((decide (x2<0)) || (decide (x2>2147483648))) || (decide (x3.Kind<1))) || (decide (x3.Kind>9)))
def A24(x3:A0):Option (Ctl Bool Unit):=
 bif (x3.Kind==3)then some (.next (x3.Kind==3)) else some (.next (x3.Kind==4))
def A6g(x0:Aa)(x3:A0):Bool:=((decide (x3.Unit<0)) || (decide (x3.Unit>=(x0.Ae.length:Int))))
def A23(x3:A0)(y27:List Aj)(y29:B9)(y31:Bool):Option (Ctl ((List Aj)) Unit):=
 bif ((y29.Start==0)&&(!y31))then (getI y27 x3.Unit).bind λy34=>(setI y27 x3.Unit ⟨2,y34.Since,y34.Ar,y34.Phase⟩).bind λy36=>some (.next y36) else none
def A6f(x2:Int)(a2:Aj)(y46:Bool)(y48:B9):Bool:=(((a2.State==1)&&(!y46))&&(decide ((w64 (a2.Since+y48.Start))<=(w64 (x2+1)))))
def A25(x0:Aa)(x2:Int)(y40:Ad×Int)(n2:Nat)(a2:Aj)(z2:Unit):Option (Ctl Unit Unit):=
 (Au [((a2.State==1),true)] (Zy x0 2 (cnt 0 n2)) default).bind λy42=>(Au [((a2.State==1),true)] (getI y42 0) default).bind λy44=>(Au [((a2.State==1),true)] (getI y40.1.Ai y44) default).bind λy46=>(Au [(((a2.State==1)&&(!y46)),true)] (getI x0.Ae (cnt 0 n2)) default).bind λy48=>bif (A6f x2 a2 y46 y48)then none else some (.next ())
def Azf(x0:Aa)(x1:Ad)(x2:Int)(x3:A0):Option (Ad×Int):=
 (F75 x0 x1).bind λy1=>bif (y1 != 0)then none else bif (A6h x2 x3)then none else (F76 x1).bind λy5=>bif (x3.Kind==1)then (A7m x0 x1 x3.Unit).bind λy8=>some (y8.1,y8.2) else bif (x3.Kind==2)then none else bif (x3.Kind==6)then none else andThen (A24 x3) (λ_=>none) λz0=>bif z0 then bif (A6g x0 x3)then none else (getI x1.Ae x3.Unit).bind λy15=>(Zy x0 2 x3.Unit).bind λy17=>(getI y17 0).bind λy19=>bif (x3.Kind==3)then (Au [((y15.State != 0),false)] (Hw x1 1 x3.Unit) default).bind λy22=>bif ((y15.State != 0) || y22)then none else (getI y5.Ae x3.Unit).bind λy25=>(setI y5.Ae x3.Unit ⟨1,x2,5000,0⟩).bind λy27=>(getI x0.Ae x3.Unit).bind λy29=>(Au [((y29.Start==0),true)] (getI x1.Ai y19) default).bind λy31=>andThen (A23 x3 y27 y29 y31) (λ_=>none) λz1=>some (⟨y5.Ai,z1,y5.Ao,y5.Al⟩,0) else none else bif (x3.Kind==5)then none else bif (x3.Kind==7)then (A7l x0 x1).bind λy40=>andThen (foldI (A25 x0 x2 y40) y40.1.Ae 0 ()) (λ_=>none) λz2=>some (y40.1,0) else none
def A7f(x0:Aa)(x1:Ad)(x2:Int):Option Bool:=
 (getI x0.Ah x2).bind λy1=>(Hw x1 3 y1.A).bind λy3=>bif y3 then none else bif (y1.Kind==1)then none else bif (y1.Kind==2)then (Hw x1 1 y1.B).bind λy8=>(Au [(y8,false)] (getI x1.Ae y1.B) default).bind λy10=>some (y8 || (y10.State != 2)) else (Hw x1 4 y1.B).bind λy12=>some y12
def F74(x0:Aa)(x1:Ad)(x2:Int):Option Bool:=
 (Qd x0 x1 x2).bind λy1=>some (y1.2&&(decide ((y1.1.Ae.length:Int)>0)))
def A6a(x0:Aa)(z0:Int):Bool:=decide (z0<(x0.Ah.length:Int))
def A2w(x0:Aa)(x1:Ad)(y4:Ad)(z0:Int):Option (Ctl Int Unit):=
 bif (A6a x0 z0)then (getI y4.Ai z0).bind λy7=>(Au [(y7,true)] (A7f x0 x1 z0) default).bind λy9=>bif (y7&&y9)then none else some (.next (w64 (z0+1))) else some (.brk z0)
def A2v(x0:Aa)(y4:Ad)(n1:Nat)(a1:Ak)(z1:Unit):Option (Ctl Unit Unit):=
 (Au [((a1.Kind==3),true)] (getI y4.Ai (cnt 0 n1)) default).bind λy12=>(Au [(((a1.Kind==3)&&y12),true)] (F74 x0 y4 a1.A) default).bind λy14=>bif (((a1.Kind==3)&&y12)&&(!y14))then none else some (.next ())
def A7k(x0:Aa)(x1:Ad):Option (Ad×(List A0)×Int):=
 (F75 x0 x1).bind λy1=>bif (y1 != 0)then none else (F76 x1).bind λy4=>andThen (whileN (A2w x0 x1 y4) 1152921504606846976 0) (λ_=>none) λz0=>andThen (foldI (A2v x0 y4) x0.Ah 0 ()) (λ_=>none) λz1=>(Abp x0 y4).bind λy17=>some (y17.1,[],0)
def A2q(z0:Int×(List Int))(n1:Nat)(a1:A_)(z1:(List Int)):Option (Ctl ((List Int)) Unit):=
 bif (a1.B6==z0.1)then (appI 9 z1 [cnt 0 n1]).bind λy6=>some (.next y6) else some (.next z1)
def A2r(x0:Aa)(z0:Int×(List Int)):Option (Ctl (Int×(List Int)) Unit):=
 bif decide (z0.1<=15)then andThen (foldI (A2q z0) x0.Ag 0 z0.2) (λ_=>none) λz1=>some (.next (w64 (z0.1+1),z1)) else some (.brk (z0.1,z0.2))
def A7e(x0:Aa):Option ((List Int)):=
 (Zz x0).bind λy1=>bif (y1 != 0)then none else andThen (whileN (A2r x0) 18 (0,[])) (λ_=>none) λz0=>some z0.2
def A50(y1:Aq×Bool):Bool:=((!y1.2) || ((y1.1.Ae.length:Int)==0))
def A2p(x1:Ad)(n0:Nat)(a0:Int)(z0:Int):Option (Ctl Int Unit):=
 (getI x1.Ao a0).bind λy4=>some (.next (w64 (z0+y4)))
def Ap3(x0:Aa)(x1:Ad)(x2:Int):Option Int:=
 (Qd x0 x1 x2).bind λy1=>bif (A50 y1)then some 0 else andThen (foldI (A2p x1) y1.1.Ag 0 0) (λ_=>none) λz0=>some z0
def A2o(x0:Aa)(n0:Nat)(a0:Int)(z0:Int):Option (Ctl Int Unit):=
 (getI x0.Ae a0).bind λy3=>some (.next (w64 (z0+y3.Rating)))
def Ap2(x0:Aa)(x1:Ad)(x2:Int):Option Int:=
 (Qd x0 x1 x2).bind λy1=>andThen (foldI (A2o x0) y1.1.Ae 0 0) (λ_=>none) λz0=>some z0
def A59(y12:Int)(y16:Int)(y18:A_)(y20:Bool)(y22:Int):Bool:=(((decide ((w64 (y12-y16))<=0)) || (!y20)) || (decide (y22<=y18.Least)))
def A2t(x0:Aa)(y4:Ad)(a0:Aq)(y12:Int)(y16:Int)(n1:Nat)(a1:Int)(z1:Unit):Option (Ctl Unit Unit):=
 (getI x0.Ag a1).bind λy18=>(Au [(decide ((w64 (y12-y16))<=0),false)] (Qa a0.Ag a1) default).bind λy20=>(Au [(((decide ((w64 (y12-y16))<=0)) || (!y20)),false)] (getI y4.Ao a1) default).bind λy22=>bif (A59 y12 y16 y18 y20 y22)then some (.next ()) else none
def A58(y12:Int)(y16:Int)(y25:Bool)(y27:Int):Bool:=(((decide ((w64 (y12-y16))<=0)) || (!y25)) || (y27==0))
def A2s(y4:Ad)(a0:Aq)(y12:Int)(y16:Int)(n2:Nat)(a2:Int)(z2:Unit):Option (Ctl Unit Unit):=
 (Au [(decide ((w64 (y12-y16))<=0),false)] (Qa a0.Ag a2) default).bind λy25=>(Au [(((decide ((w64 (y12-y16))<=0)) || (!y25)),false)] (getI y4.Ao a2) default).bind λy27=>bif (A58 y12 y16 y25 y27)then some (.next ()) else none
def A2u(x0:Aa)(x1:Ad)(y4:Ad)(y6:(List Int))(n0:Nat)(a0:Aq)(z0:Unit):Option (Ctl Unit Unit):=
 (getI a0.Am 0).bind λy10=>(Ap3 x0 x1 y10).bind λy12=>(getI a0.Am 0).bind λy14=>(Ap2 x0 x1 y14).bind λy16=>andThen (foldI (A2t x0 y4 a0 y12 y16) y6 0 ()) (λ_=>none) λz1=>andThen (foldI (A2s y4 a0 y12 y16) y6 0 ()) (λ_=>none) λz2=>some (.next ())
def A7j(x0:Aa)(x1:Ad):Option (Ad×(List A0)×Int):=
 (F75 x0 x1).bind λy1=>bif (y1 != 0)then none else (F76 x1).bind λy4=>(A7e x0).bind λy6=>(Aa4 x0 x1).bind λy8=>andThen (foldI (A2u x0 x1 y4 y6) y8 0 ()) (λ_=>none) λz0=>some (y4,[],0)
def A7p(x0:Aa)(x1:Ad):Option (Ad×(List A0)×Int):=
 (A7k x0 x1).bind λy1=>bif (y1.2.2 != 0)then none else (A7j x0 y1.1).bind λy4=>(appI 25 y1.2.1 y4.2.1).bind λy6=>some (y4.1,y6,0)
def Ajl(x0:As)(x1:A0)(x2:Int):Option As:=
 (appI 41 [] x0.Bm).bind λy1=>(appI 41 y1 [⟨x0.Time,x1,x2⟩]).bind λy3=>some ⟨x0.Time,x0.Power,x0.Be,y3⟩
def Ay1(x0:Aa)(x1:As)(x2:A0):Option (Ctl (Int×(List Bool)×(List Aj)×(List Int)×(List Ab)) Unit):=
 bif (x2.Kind != 7)then (Azf x0 x1.Power x1.Time x2).bind λy5=>some (.next (y5.2,y5.1.Ai,y5.1.Ae,y5.1.Ao,y5.1.Al)) else none
def Ay0(a1:A0)(y12:Ad):Option (Ctl ((List Bool)×(List Int)) Unit):=
 bif (a1.Kind==2)then (getI y12.Ai a1.Unit).bind λy15=>(setI y12.Ai a1.Unit false).bind λy17=>some (.next (y17,y12.Ao)) else (getI y12.Ao a1.Unit).bind λy19=>(setI y12.Ao a1.Unit a1.Value).bind λy21=>some (.next (y12.Ai,y21))
def Ay2(n1:Nat)(a1:A0)(z1:Int×(List Bool)×(List Aj)×(List Int)×(List Ab)×(List Bb)×(List B1)×(List Ad)×(List Bool)×(List Aj)×(List Int)×(List Ab)):Option (Ctl (Int×(List Bool)×(List Aj)×(List Int)×(List Ab)×(List Bb)×(List B1)×(List Ad)×(List Bool)×(List Aj)×(List Int)×(List Ab)) Unit):=
 (F76 ⟨z1.2.2.2.2.2.2.2.2.1,z1.2.2.2.2.2.2.2.2.2.1,z1.2.2.2.2.2.2.2.2.2.2.1,z1.2.2.2.2.2.2.2.2.2.2.2⟩).bind λy12=>andThen (Ay0 a1 y12) (λ_=>none) λz2=>(appI 97 z1.2.2.2.2.2.2.2.1 [⟨z2.1,y12.Ae,z2.2,y12.Al⟩]).bind λy23=>(Ajl ⟨z1.1,⟨z1.2.1,z1.2.2.1,z1.2.2.2.1,z1.2.2.2.2.1⟩,z1.2.2.2.2.2.1,z1.2.2.2.2.2.2.1⟩ a1 0).bind λy25=>some (.next (y25.Time,y25.Power.Ai,y25.Power.Ae,y25.Power.Ao,y25.Power.Al,y25.Be,y25.Bm,y23,z2.1,y12.Ae,z2.2,y12.Al))
def Apj(x0:Aa)(x1:As)(x2:A0):Option (As×(List Ad)×Int):=
 (F75 x0 x1.Power).bind λy1=>bif (y1 != 0)then none else andThen (Ay1 x0 x1 x2) (λ_=>none) λz0=>(Ajl x1 x2 z0.1).bind λy7=>bif (z0.1 != 0)then none else (A7p x0 ⟨z0.2.1,z0.2.2.1,z0.2.2.2.1,z0.2.2.2.2⟩).bind λy10=>andThen (foldI Ay2 y10.2.1 0 (y7.Time,y7.Power.Ai,y7.Power.Ae,y7.Power.Ao,y7.Power.Al,y7.Be,y7.Bm,[⟨z0.2.1,z0.2.2.1,z0.2.2.2.1,z0.2.2.2.2⟩],z0.2.1,z0.2.2.1,z0.2.2.2.1,z0.2.2.2.2)) (λ_=>none) λz1=>(F63 y10.1 ⟨z1.2.2.2.2.2.2.2.2.1,z1.2.2.2.2.2.2.2.2.2.1,z1.2.2.2.2.2.2.2.2.2.2.1,z1.2.2.2.2.2.2.2.2.2.2.2⟩).bind λy27=>bif !y27 then none else some (⟨z1.1,y10.1,z1.2.2.2.2.2.1,z1.2.2.2.2.2.2.1⟩,z1.2.2.2.2.2.2.2.1,0)
def A5s(x1:By)(y1:Aq×Bool):Bool:=(((!y1.2) || (!(J8 x1))) || (decide ((y1.1.Ae.length:Int)<2)))
def A5r(x1:By)(y14:Int)(y16:Int)(y18:B9):Bool:=decide ((w64 (100*y14))<=(w64 (x1.Stop*(w64 (y16-y18.Rating)))))
def A2l(x0:Aa)(x1:By)(x2:Ad)(x3:Int)(y1:Aq×Bool)(z0:Int):Option (Ctl Int Unit):=
 bif decide (z0>=0)then (getI y1.1.Ae z0).bind λy5=>(Zy x0 2 y5).bind λy7=>(getI y7 0).bind λy9=>(Hw x2 2 y9).bind λy11=>bif y11 then none else (Ap3 x0 x2 x3).bind λy14=>(Ap2 x0 x2 x3).bind λy16=>(getI x0.Ae y5).bind λy18=>bif (A5r x1 y14 y16 y18)then none else some (.next (w64 (z0-1))) else some (.brk z0)
def A7d(x0:Aa)(x1:By)(x2:Ad)(x3:Int):Option (Int×Bool):=
 (Qd x0 x2 x3).bind λy1=>bif (A5s x1 y1)then none else andThen (whileN (A2l x0 x1 x2 x3 y1) 1152921504606846976 (w64 ((y1.1.Ae.length:Int)-1))) (λ_=>none) λz0=>some (0,false)
def A7c(x0:Aa)(x1:By)(x2:Ad)(x3:Int):Option Bool:=
 (Au [(J8 x1,true)] (F74 x0 x2 x3) default).bind λy1=>(Au [(((J8 x1)&&y1),true)] (Ap3 x0 x2 x3) default).bind λy3=>(Au [(((J8 x1)&&y1),true)] (Ap2 x0 x2 x3) default).bind λy5=>some (((J8 x1)&&y1)&&(decide ((w64 (100*y3))>(w64 (x1.Start*y5)))))
def Ay8(x0:Bool)(x1:Int)(x2:Int):Option Int:=
 bif !x0 then some (-1) else none
def A5q(x1:Ad)(z0:Int):Bool:=decide (z0<(x1.Ae.length:Int))
def A5p(y5:Aj)(y13:Int×Bool)(y15:Bool)(y17:Bool)(y19:Bool)(y21:Bool):Bool:=((((((y5.State==2)&&(!y13.2))&&(!y15))&&(!y17))&&(!y19))&&y21)
def A2k(x0:Aa)(x1:Ad)(y1:Aq×Bool)(z0:Int):Option (Ctl Int Unit):=
 bif (A5q x1 z0)then (getI x1.Ae z0).bind λy5=>(Zy x0 2 z0).bind λy7=>(getI y7 0).bind λy9=>(getI x0.Ah y9).bind λy11=>(Zw x0 x1 z0).bind λy13=>(Au [(((y5.State==2)&&(!y13.2)),true)] (Hw x1 1 z0) default).bind λy15=>(Au [((((y5.State==2)&&(!y13.2))&&(!y15)),true)] (Hw x1 2 y9) default).bind λy17=>(Au [(((((y5.State==2)&&(!y13.2))&&(!y15))&&(!y17)),true)] (Hw x1 3 y11.A) default).bind λy19=>(Au [((((((y5.State==2)&&(!y13.2))&&(!y15))&&(!y17))&&(!y19)),true)] (Qa y1.1.Am y11.A) default).bind λy21=>bif (A5p y5 y13 y15 y17 y19 y21)then none else some (.next (w64 (z0+1))) else some (.brk z0)
def A5o(x1:Ad)(z1:Int):Bool:=decide (z1<(x1.Ae.length:Int))
def A5n(y25:Aj)(y33:Int×Bool)(y35:Bool)(y37:Bool)(y39:Bool)(y41:Bool):Bool:=((((((y25.State==1)&&(!y33.2))&&(!y35))&&(!y37))&&(!y39))&&y41)
def A2j(x0:Aa)(x1:Ad)(y1:Aq×Bool)(z1:Int):Option (Ctl Int Unit):=
 bif (A5o x1 z1)then (getI x1.Ae z1).bind λy25=>(Zy x0 2 z1).bind λy27=>(getI y27 0).bind λy29=>(getI x0.Ah y29).bind λy31=>(Zw x0 x1 z1).bind λy33=>(Au [(((y25.State==1)&&(!y33.2)),true)] (Hw x1 1 z1) default).bind λy35=>(Au [((((y25.State==1)&&(!y33.2))&&(!y35)),true)] (Hw x1 2 y29) default).bind λy37=>(Au [(((((y25.State==1)&&(!y33.2))&&(!y35))&&(!y37)),true)] (Hw x1 3 y31.A) default).bind λy39=>(Au [((((((y25.State==1)&&(!y33.2))&&(!y35))&&(!y37))&&(!y39)),true)] (Qa y1.1.Am y31.A) default).bind λy41=>bif (A5n y25 y33 y35 y37 y39 y41)then none else some (.next (w64 (z1+1))) else some (.brk z1)
def A1z(x1:Ad)(z2:Int):Bool:=decide (z2<(x1.Ae.length:Int))
def A1y(y45:Aj)(y53:Int×Bool)(y55:Bool)(y57:Bool)(y59:Bool)(y61:Bool):Bool:=((((((y45.State==0)&&(!y53.2))&&(!y55))&&(!y57))&&(!y59))&&y61)
def A2i(x0:Aa)(x1:Ad)(y1:Aq×Bool)(z2:Int):Option (Ctl Int Unit):=
 bif (A1z x1 z2)then (getI x1.Ae z2).bind λy45=>(Zy x0 2 z2).bind λy47=>(getI y47 0).bind λy49=>(getI x0.Ah y49).bind λy51=>(Zw x0 x1 z2).bind λy53=>(Au [(((y45.State==0)&&(!y53.2)),true)] (Hw x1 1 z2) default).bind λy55=>(Au [((((y45.State==0)&&(!y53.2))&&(!y55)),true)] (Hw x1 2 y49) default).bind λy57=>(Au [(((((y45.State==0)&&(!y53.2))&&(!y55))&&(!y57)),true)] (Hw x1 3 y51.A) default).bind λy59=>(Au [((((((y45.State==0)&&(!y53.2))&&(!y55))&&(!y57))&&(!y59)),true)] (Qa y1.1.Am y51.A) default).bind λy61=>bif (A1y y45 y53 y55 y57 y59 y61)then none else some (.next (w64 (z2+1))) else some (.brk z2)
def A7b(x0:Aa)(x1:Ad)(x2:Int):Option (Int×Bool):=
 (Qd x0 x1 x2).bind λy1=>bif !y1.2 then none else andThen (whileN (A2k x0 x1 y1) 1152921504606846976 0) (λ_=>none) λz0=>andThen (whileN (A2j x0 x1 y1) 1152921504606846976 0) (λ_=>none) λz1=>andThen (whileN (A2i x0 x1 y1) 1152921504606846976 0) (λ_=>none) λz2=>some (0,false)
def A56(x1:By)(x4:Int)(x5:Bb):Bool:=(((((((!(J8 x1)) || (decide (x4<0))) || (decide (x4>2147483648))) || (decide (x5.High<(-1)))) || (decide (x5.High>x4))) || (decide (x5.Low<(-1)))) || (decide (x5.Low>x4)))
def A55(x0:Aa)(x3:Int):Bool:=((decide (x3<0)) || (decide (x3>=x0.Am)))
def A54(x1:By)(x4:Int)(y10:Int)(y14:Int×Bool):Bool:=(((decide (y10>=0))&&(decide ((w64 (x4-y10))>=x1.Delay)))&&y14.2)
def A53(x1:By)(x4:Int)(y12:Int):Bool:=((decide (y12>=0))&&(decide ((w64 (x4-y12))>=x1.Delay)))
def A7i(x0:Aa)(x1:By)(x2:Ad)(x3:Int)(x4:Int)(x5:Bb):Option (Bb×(List A0)×Int):=
 (F75 x0 x2).bind λy1=>bif (y1 != 0)then none else bif (A56 x1 x4 x5)then none else bif (A55 x0 x3)then none else (A7d x0 x1 x2 x3).bind λy6=>(A7c x0 x1 x2 x3).bind λy8=>(Ay8 y8 x5.High x4).bind λy10=>(Ay8 y6.2 x5.Low x4).bind λy12=>(A7b x0 x2 x3).bind λy14=>bif (A54 x1 x4 y10 y14)then none else bif (A53 x1 x4 y12)then none else some (⟨y10,y12⟩,[],0)
def Avt(x0:Aa)(n0:Nat)(a0:A0)(z0:Sg2):Option (Ctl (Sg2) Unit):=
 (Apj x0 ⟨z0.1,⟨z0.2.1,z0.2.2.1,z0.2.2.2.1,z0.2.2.2.2.1⟩,z0.2.2.2.2.2.1,z0.2.2.2.2.2.2.2⟩ a0).bind λy6=>(appI 97 z0.2.2.2.2.2.2.1 y6.2.1).bind λy8=>some (.next (y6.1.Time,y6.1.Power.Ai,y6.1.Power.Ae,y6.1.Power.Ao,y6.1.Power.Al,y6.1.Be,y8,y6.1.Bm))
def Avs(n1:Nat)(a1:Bb)(z1:(List Bb)):Option (Ctl ((List Bb)) Unit):=
 (getI z1 (cnt 0 n1)).bind λy12=>(setI z1 (cnt 0 n1) ⟨(-1),(-1)⟩).bind λy14=>some (.next y14)
def Ax8(a2:Aq)(y20:Bool):Bool:=(((a2.Ae.length:Int)==0) || (!y20))
def Avq(x0:Aa)(n3:Nat)(a3:A0)(z3:Sg2):Option (Ctl (Sg2) Unit):=
 (Apj x0 ⟨z3.1,⟨z3.2.1,z3.2.2.1,z3.2.2.2.1,z3.2.2.2.2.1⟩,z3.2.2.2.2.2.1,z3.2.2.2.2.2.2.2⟩ a3).bind λy31=>(appI 97 z3.2.2.2.2.2.2.1 y31.2.1).bind λy33=>some (.next (y31.1.Time,y31.1.Power.Ai,y31.1.Power.Ae,y31.1.Power.Ao,y31.1.Power.Al,y31.1.Be,y33,y31.1.Bm))
def Avr(x0:Aa)(x1:By)(n2:Nat)(a2:Aq)(z2:Int×(List Bool)×(List Aj)×(List Int)×(List Ab)×(List Bb)×(List Ad)×(List B1)×(List Bb)):Option (Ctl (Int×(List Bool)×(List Aj)×(List Int)×(List Ab)×(List Bb)×(List Ad)×(List B1)×(List Bb)) Unit):=
 (getI a2.Am 0).bind λy18=>(Au [(((a2.Ae.length:Int)==0),false)] (F74 x0 ⟨z2.2.1,z2.2.2.1,z2.2.2.2.1,z2.2.2.2.2.1⟩ y18) default).bind λy20=>bif (Ax8 a2 y20)then none else (getI z2.2.2.2.2.2.1 y18).bind λy23=>(A7i x0 x1 ⟨z2.2.1,z2.2.2.1,z2.2.2.2.1,z2.2.2.2.2.1⟩ y18 z2.1 y23).bind λy25=>(getI z2.2.2.2.2.2.2.2.2 y18).bind λy27=>(setI z2.2.2.2.2.2.2.2.2 y18 y25.1).bind λy29=>andThen (foldI (Avq x0) y25.2.1 0 (z2.1,z2.2.1,z2.2.2.1,z2.2.2.2.1,z2.2.2.2.2.1,z2.2.2.2.2.2.1,z2.2.2.2.2.2.2.1,z2.2.2.2.2.2.2.2.1)) (λ_=>none) λz3=>some (.next (z3.1,z3.2.1,z3.2.2.1,z3.2.2.2.1,z3.2.2.2.2.1,z3.2.2.2.2.2.1,z3.2.2.2.2.2.2.1,z3.2.2.2.2.2.2.2,y29))
def Avu(x0:Aa)(x1:By)(x2:As)(x3:List A0):Option (As×(List B1)×(List Ad)×Int):=
 (F58 x0 x1 x2).bind λy1=>bif (y1 != 0)then none else bif decide ((x3.length:Int)>200)then none else bif decide (x2.Time>=2147483648)then none else andThen (foldI (Avt x0) x3 0 (x2.Time,x2.Power.Ai,x2.Power.Ae,x2.Power.Ao,x2.Power.Al,x2.Be,[x2.Power],[])) (λ_=>none) λz0=>(mkI 17 x0.Am ⟨0,0⟩).bind λy10=>andThen (foldI Avs y10 0 y10) (λ_=>none) λz1=>(Aa4 x0 ⟨z0.2.1,z0.2.2.1,z0.2.2.2.1,z0.2.2.2.2.1⟩).bind λy16=>andThen (foldI (Avr x0 x1) y16 0 (z0.1,z0.2.1,z0.2.2.1,z0.2.2.2.1,z0.2.2.2.2.1,z0.2.2.2.2.2.1,z0.2.2.2.2.2.2.1,z0.2.2.2.2.2.2.2,z1)) (λ_=>none) λz2=>(Azf x0 ⟨z2.2.1,z2.2.2.1,z2.2.2.2.1,z2.2.2.2.2.1⟩ z2.1 ⟨7,0,0⟩).bind λy35=>(appI 97 z2.2.2.2.2.2.2.1 [y35.1]).bind λy37=>(appI 41 [] x2.Bm).bind λy39=>(appI 41 y39 z2.2.2.2.2.2.2.2.1).bind λy41=>bif decide ((y41.length:Int)>200)then none else some (⟨w64 (z2.1+1),y35.1,z2.2.2.2.2.2.2.2.2,y41⟩,z2.2.2.2.2.2.2.2.1,y37,0)
def A0h(x0:Aa)(x1:By)(x2:As)(x3:List A0):Option (As×(List B1)×Int):=
 (Avu x0 x1 x2 x3).bind λy1=>some (y1.1,y1.2.1,y1.2.2.2)
def F42:Option (Ba×As):=
 (F80 ⟨1,[⟨2,0,0⟩,⟨2,0,1⟩,⟨3,0,0⟩,⟨3,0,1⟩],[⟨100,0,0⟩,⟨100,0,0⟩],[⟨40,0,0,0,[]⟩,⟨40,0,0,1,[]⟩],1800,0⟩ ⟨100,1,9⟩).bind λy1=>(A0h ⟨1,[⟨2,0,0⟩,⟨2,0,1⟩,⟨3,0,0⟩,⟨3,0,1⟩],[⟨100,0,0⟩,⟨100,0,0⟩],[⟨40,0,0,0,[]⟩,⟨40,0,0,1,[]⟩],1800,0⟩ ⟨100,1,9⟩ y1.1 [⟨3,0,0⟩,⟨3,1,0⟩,⟨1,0,0⟩,⟨1,1,0⟩,⟨1,2,0⟩,⟨1,3,0⟩]).bind λy3=>some (⟨⟨⟨[],[],[]⟩,⟨[],[],[]⟩,⟨[],[],[]⟩,0,0,0,0⟩,⟨0,1,[⟨2,0,100,0,1,[]⟩,⟨2,0,100,0,1,[]⟩]⟩,⟨1,[⟨2,0,0⟩,⟨2,0,1⟩,⟨3,0,0⟩,⟨3,0,1⟩],[⟨100,0,0⟩,⟨100,0,0⟩],[⟨40,0,0,0,[]⟩,⟨40,0,0,1,[]⟩],1800,0⟩,⟨100,1,9⟩,⟨[⟨1,0⟩,⟨1,1⟩,⟨3,0⟩],[],[]⟩,[],⟨0,0,0,0,0,0,0,0,0⟩,⟨⟨0,0⟩,0⟩,0,⟨ByteArray.empty,0,⟨⟨0,0⟩,0,0⟩,0⟩,⟨[]⟩⟩,y3.1)
def Br(x0:Int)(x1:Int)(x2:Int):Bool:=
 ((decide (x0>=x1))&&(decide (x0<=x2)))
def A2g(x1:Int)(n0:Nat)(a0:Int)(z0:Unit):Option (Ctl Unit Int):=
 bif (x1==a0)then some (.ret (cnt 0 n0)) else some (.next ())
def Ay4(x0:List Int)(x1:Int):Option Int:=
 andThen (foldI (A2g x1) x0 0 ()) some λz0=>some (-1)
def Wq(x0:List Int)(x1:Int):Option Bool:=
 (Ay4 x0 x1).bind λy1=>some (decide (y1>=0))
def Ay7(x0:List Int):Bool:=
 ((x0.length:Int)==0)
def Ave(n0:Nat)(a0:List Int)(z0:Unit):Option (Ctl Unit Int):=
 bif Ay7 a0 then some (.ret (cnt 0 n0)) else some (.next ())
def Aim(x0:List (List Int)):Option Int:=
 andThen (foldI Ave x0 0 ()) some λz0=>some (-1)
def vD(x0:List (List Int)):Option Bool:=
 (Aim x0).bind λy1=>some (decide (y1>=0))
def Ag6(x0:Aa)(a0:Ak):Bool:=((a0.Kind==1)&&(Br a0.B (w64 (a0.A+1)) (w64 (x0.Am-1))))
def Ag5(z0:(List Int)×(List (List Int)))(a0:Ak)(y7:Int):Bool:=(((a0.Kind==2)&&(Br a0.B 0 (w64 ((z0.1.length:Int)-1))))&&(y7==0))
def Ats(z0:(List Int)×(List (List Int)))(a0:Ak)(y16:Bool):Bool:=(((a0.Kind==3)&&(Br a0.B 0 (w64 ((z0.2.length:Int)-1))))&&(!y16))
def Al7(x0:Aa)(n0:Nat)(a0:Ak)(z0:(List Int)×(List (List Int))):Option (Ctl ((List Int)×(List (List Int))) Bool):=
 bif !(Br a0.A 0 (w64 (x0.Am-1)))then some (.ret false) else bif (Ag6 x0 a0)then some (.next (z0.1,z0.2)) else (Au [(((a0.Kind==2)&&(Br a0.B 0 (w64 ((z0.1.length:Int)-1)))),true)] (getI z0.1 a0.B) default).bind λy7=>bif (Ag5 z0 a0 y7)then (getI z0.1 a0.B).bind λy10=>(setI z0.1 a0.B (w64 (y10+1))).bind λy12=>some (.next (y12,z0.2)) else (Au [(((a0.Kind==3)&&(Br a0.B 0 (w64 ((z0.2.length:Int)-1)))),true)] (getI z0.2 a0.B) default).bind λy14=>(Au [(((a0.Kind==3)&&(Br a0.B 0 (w64 ((z0.2.length:Int)-1)))),true)] (Wq y14 a0.A) default).bind λy16=>bif (Ats z0 a0 y16)then (getI z0.2 a0.B).bind λy19=>(appI 9 y19 [a0.A]).bind λy21=>(setI z0.2 a0.B y21).bind λy23=>some (.next (z0.1,y23)) else some (.ret false)
def Ap7(x0:Aa):Option Bool:=
 (mkI 9 (x0.Ae.length:Int) 0).bind λy1=>(mkI 25 (x0.Ag.length:Int) ([]:List Int)).bind λy3=>andThen (foldI (Al7 x0) x0.Ah 0 (y1,y3)) some λz0=>(Wq z0.1 0).bind λy27=>(Au [(!y27,true)] (vD z0.2) default).bind λy29=>some ((!y27)&&(!y29))
def Ai2(x0:B9):Bool:=
 (((Br x0.Rating 1 50000)&&(Br x0.Least 0 x0.Rating))&&(Br x0.Start 0 600))
def Atr(x1:Int)(n0:Nat)(a0:Int)(y1:Int):Bool:=((!(Br a0 0 (w64 (x1-1)))) || ((decide ((cnt 0 n0)>0))&&(decide (y1>=a0))))
def Aaz(x0:A_)(x1:Int)(n0:Nat)(a0:Int)(z0:Unit):Option (Ctl Unit Bool):=
 (Au [(!(Br a0 0 (w64 (x1-1))),false),(decide ((cnt 0 n0)>0),true)] (getI x0.Needs (w64 ((cnt 0 n0)-1))) default).bind λy1=>bif (Atr x1 n0 a0 y1)then some (.ret false) else some (.next ())
def Ai1(x0:A_)(x1:Int):Option Bool:=
 andThen (foldI (Aaz x0 x1) x0.Needs 0 ()) some λz0=>some (((((Br x0.Load 0 50000)&&(Br x0.Least 0 x0.Load))&&(Br x0.B6 0 15))&&(Br x0.Thruster (-1) 7))&&(decide ((x0.Needs.length:Int)<=4)))
def Aud(x0:Aa):Bool:=((((!(Br x0.Am 1 6)) || (decide ((x0.Ah.length:Int)>24))) || (decide ((x0.Ae.length:Int)>8))) || (decide ((x0.Ag.length:Int)>16)))
def A2z(n0:Nat)(a0:B9)(z0:Bool):Option (Ctl Bool Unit):=
 some (.next (z0&&(Ai2 a0)))
def Amv(n1:Nat)(a1:A_)(z1:Bool):Option (Ctl Bool Unit):=
 (Au [(z1,true)] (Ai1 a1 (cnt 0 n1)) default).bind λy4=>some (.next (z1&&y4))
def Aje(x0:Aa):Option Int:=
 bif (Aud x0)then some 2 else (Ap7 x0).bind λy2=>andThen (foldI A2z x0.Ae 0 ((y2&&(Br x0.Phase 0 1800))&&(Br x0.Ar 0 6000))) (λ_=>none) λz0=>andThen (foldI Amv x0.Ag 0 z0) (λ_=>none) λz1=>bif !z1 then some 14 else some 0
def M_(x0:Aa)(x1:Int):Int:=
 bif (x1==1)then (x0.Ae.length:Int) else bif (x1==2)then (x0.Ah.length:Int) else bif (x1==3)then x0.Am else bif (x1==4)then (x0.Ag.length:Int) else 0
def Tz(x0:Int):Bool:=
 (x0 != x0)
def I5(x0:Int)(x1:Int):Int:=
 bif Tz x0 then bif Tz x1 then 0 else (-1) else bif Tz x1 then 1 else bif decide (x0<x1)then (-1) else bif decide (x0>x1)then 1 else 0
def X5(n0:Nat)(a0:Int)(z0:Unit):Option (Ctl Unit Int):=
 bif (a0 != 0)then some (.ret a0) else some (.next ())
def W5(x0:List Int):Option Int:=
 andThen (foldI X5 x0 0 ()) some λz0=>some 0
def Auc(x0:Aa)(n0:Nat)(a0:Ab)(y5:Int):Bool:=((!(Br a0.Number 0 (w64 ((M_ x0 a0.Kind)-1)))) || ((decide ((cnt 0 n0)>0))&&(decide (y5>=0))))
def Abb(x0:Aa)(x1:List Ab)(n0:Nat)(a0:Ab)(z0:Unit):Option (Ctl Unit Bool):=
 (Au [(!(Br a0.Number 0 (w64 ((M_ x0 a0.Kind)-1))),false),(decide ((cnt 0 n0)>0),true)] (getI x1 (w64 ((cnt 0 n0)-1))) default).bind λy1=>(Au [(!(Br a0.Number 0 (w64 ((M_ x0 a0.Kind)-1))),false),(decide ((cnt 0 n0)>0),true)] (getI x1 (w64 ((cnt 0 n0)-1))) default).bind λy3=>(Au [(!(Br a0.Number 0 (w64 ((M_ x0 a0.Kind)-1))),false),(decide ((cnt 0 n0)>0),true)] (W5 [I5 y1.Kind a0.Kind,I5 y3.Number a0.Number]) default).bind λy5=>bif (Auc x0 n0 a0 y5)then some (.ret false) else some (.next ())
def Aqn(x0:Aa)(x1:List Ab):Option Bool:=
 andThen (foldI (Abb x0 x1) x1 0 ()) some λz0=>some (decide ((x1.length:Int)<=32))
def Wz(x0:Aj):Bool:=
 ((((Br x0.State 0 3)&&(Br x0.Since 0 2147483648))&&(Br x0.Ar 0 6000))&&(Br x0.Phase 0 3599))
def Azc(x0:Aj):Bool:=
 !(Wz x0)
def Avi(n0:Nat)(a0:Aj)(z0:Unit):Option (Ctl Unit Int):=
 bif Azc a0 then some (.ret (cnt 0 n0)) else some (.next ())
def Ai0(x0:List Aj):Option Int:=
 andThen (foldI Avi x0 0 ()) some λz0=>some (-1)
def W0(x0:List Aj):Option Bool:=
 (Ai0 x0).bind λy1=>some (decide (y1>=0))
def Aub(x2:Int)(a0:Ak)(y1:Bool):Bool:=(((a0.Kind==3)&&(a0.B==x2))&&y1)
def Amu(x1:Ad)(x2:Int)(n0:Nat)(a0:Ak)(z0:Int):Option (Ctl Int Unit):=
 (Au [(((a0.Kind==3)&&(a0.B==x2)),true)] (getI x1.Ai (cnt 0 n0)) default).bind λy1=>bif (Aub x2 a0 y1)then some (.next (w64 (z0+1))) else some (.next z0)
def Aqm(x0:Aa)(x1:Ad)(x2:Int):Option Int:=
 andThen (foldI (Amu x1 x2) x0.Ah 0 0) (λ_=>none) λz0=>some z0
def Ahl(x0:Aa)(x1:Ad):Bool:=((((x1.Ai.length:Int) != (x0.Ah.length:Int)) || ((x1.Ae.length:Int) != (x0.Ae.length:Int))) || ((x1.Ao.length:Int) != (x0.Ag.length:Int)))
def Am6(x0:Aa)(x1:Ad)(n0:Nat)(a0:Int)(z0:Bool):Option (Ctl Bool Unit):=
 (Au [(z0,true)] (getI x0.Ag (cnt 0 n0)) default).bind λy9=>(Au [((z0&&(Br a0 0 y9.Load)),true)] (Aqm x0 x1 (cnt 0 n0)) default).bind λy11=>some (.next ((z0&&(Br a0 0 y9.Load))&&(decide (y11<=1))))
def Jh(x0:Aa)(x1:Ad):Option Int:=
 (Aje x0).bind λy1=>bif (y1 != 0)then some y1 else bif (Ahl x0 x1)then some 8 else (Aqn x0 x1.Al).bind λy5=>(Au [(y5,true)] (W0 x1.Ae) default).bind λy7=>andThen (foldI (Am6 x0 x1) x1.Ao 0 (y5&&(!y7))) (λ_=>none) λz0=>bif !z0 then some 11 else some 0
def Abr(x0:List Bool):Option (List Bool):=appI 2 [] x0
def Abq(x0:List Aj):Option (List Aj):=appI 33 [] x0
def Qe(x0:List Int):Option (List Int):=appI 9 [] x0
def T5(x0:List Ab):Option (List Ab):=appI 17 [] x0
def Nb(x0:Ad):Option Ad:=
 (Abr x0.Ai).bind λy1=>(Abq x0.Ae).bind λy3=>(Qe x0.Ao).bind λy5=>(T5 x0.Al).bind λy7=>some ⟨y1,y3,y5,y7⟩
def Al9(n0:Nat)(a0:Int)(z0:(List Int)):Option (Ctl ((List Int)) Unit):=
 (getI z0 (cnt 0 n0)).bind λy3=>(setI z0 (cnt 0 n0) (cnt 0 n0)).bind λy5=>some (.next y5)
def Aa2(x1:Ad)(n2:Nat)(a2:Ak)(z2:(List Int)):Option (Ctl ((List Int)) Unit):=
 (Au [((a2.Kind==1),true)] (getI x1.Ai (cnt 0 n2)) default).bind λy7=>bif ((a2.Kind==1)&&y7)then (getI z2 a2.A).bind λy10=>(getI z2 a2.B).bind λy12=>(setI z2 a2.A (min y10 y12)).bind λy14=>(getI y14 a2.B).bind λy16=>(setI y14 a2.B (min y10 y12)).bind λy18=>some (.next y18) else some (.next z2)
def Al8(x0:Aa)(x1:Ad)(n1:Nat)(a1:Int)(z1:(List Int)):Option (Ctl ((List Int)) Unit):=
 andThen (foldI (Aa2 x1) x0.Ah 0 z1) (λ_=>none) λz2=>some (.next z2)
def Ai7(x0:Aa)(x1:Ad):Option ((List Int)):=
 (mkI 9 x0.Am 0).bind λy1=>andThen (foldI Al9 y1 0 y1) (λ_=>none) λz0=>andThen (foldI (Al8 x0 x1) z0 0 z0) (λ_=>none) λz1=>some z1
def Atp(x2:Int)(x3:Int)(a0:Ak)(y1:Bool):Bool:=(((a0.Kind==x2)&&(a0.B==x3))&&y1)
def Aao(x1:Ad)(x2:Int)(x3:Int)(n0:Nat)(a0:Ak)(z0:Unit):Option (Ctl Unit (Int×Bool)):=
 (Au [(((a0.Kind==x2)&&(a0.B==x3)),true)] (getI x1.Ai (cnt 0 n0)) default).bind λy1=>bif (Atp x2 x3 a0 y1)then some (.ret (a0.A,true)) else some (.next ())
def Aiq(x0:Aa)(x1:Ad)(x2:Int)(x3:Int):Option (Int×Bool):=
 andThen (foldI (Aao x1 x2 x3) x0.Ah 0 ()) some λz0=>some (0,false)
def uC(x1:Ad)(x2:Int)(y1:Aj):Bool:=((!(Br x2 0 (w64 ((x1.Ae.length:Int)-1)))) || (y1.State != 2))
def Aa1(x0:Aa)(x1:Ad)(x2:Int):Option (Int×Bool):=
 (Au [(!(Br x2 0 (w64 ((x1.Ae.length:Int)-1))),false)] (getI x1.Ae x2) default).bind λy1=>bif (uC x1 x2 y1)then some (0,false) else (Aiq x0 x1 2 x2).bind λy4=>some (y4.1,y4.2)
def Aa0(x0:Aa)(x1:Ad)(x2:Int):Option (Int×Bool):=
 (Aiq x0 x1 3 x2).bind λy1=>some (y1.1,y1.2)
def Ap8(x0:Aq):Bool:=
 ((x0.Am.length:Int)==0)
def Avh(n0:Nat)(a0:Aq)(z0:Unit):Option (Ctl Unit Int):=
 bif Ap8 a0 then some (.ret (cnt 0 n0)) else some (.next ())
def vE(x0:List Aq):Option Int:=
 andThen (foldI Avh x0 0 ()) some λz0=>some (-1)
def Ag7(z0:Int×Int×(List Aq)):Bool:=decide (z0.2.1<(z0.2.2.length:Int))
def Wx(z0:Int×Int×(List Aq)):Option (Ctl (Int×Int×(List Aq)) Unit):=
 bif (Ag7 z0)then (getI z0.2.2 z0.2.1).bind λy5=>bif !(Ap8 y5)then (getI z0.2.2 z0.1).bind λy8=>(setI z0.2.2 z0.1 y5).bind λy10=>some (.next (w64 (z0.1+1),w64 (z0.2.1+1),y10)) else some (.next (z0.1,w64 (z0.2.1+1),z0.2.2)) else some (.brk (z0.1,z0.2.1,z0.2.2))
def Rt(x0:List Aq):Option ((List Aq)):=
 (vE x0).bind λy1=>bif (y1==(-1))then some x0 else andThen (whileN Wx 1152921504606846976 (y1,w64 (y1+1),x0)) (λ_=>none) λz0=>(bndI z0.2.2.length z0.1 (z0.2.2.length:Int)).bind λu13=>(bndI (Ht z0.2.2 (Int.toNat z0.1) ((Int.toNat (z0.2.2.length:Int))-(Int.toNat z0.1)) ⟨[],[],[]⟩).length 0 z0.1).bind λu15=>some ((Ht z0.2.2 (Int.toNat z0.1) ((Int.toNat (z0.2.2.length:Int))-(Int.toNat z0.1)) ⟨[],[],[]⟩).take ((Int.toNat z0.1)-0))
def Amy(n0:Nat)(a0:Int)(z0:(List Aq)):Option (Ctl ((List Aq)) Unit):=
 (getI z0 a0).bind λy8=>(appI 9 y8.Am [cnt 0 n0]).bind λy10=>(setI z0 a0 ⟨y10,y8.Ae,y8.Ag⟩).bind λy12=>some (.next y12)
def Auh(x0:Aa)(z1:Int×(List Aq)):Bool:=decide (z1.1<(x0.Ae.length:Int))
def Amx(x0:Aa)(x1:Ad)(y4:(List Int))(z1:Int×(List Aq)):Option (Ctl (Int×(List Aq)) Unit):=
 bif (Auh x0 z1)then (Aa1 x0 x1 z1.1).bind λy15=>bif y15.2 then (getI y4 y15.1).bind λy18=>(getI z1.2 y18).bind λy20=>(appI 9 y20.Ae [z1.1]).bind λy22=>(setI z1.2 y18 ⟨y20.Am,y22,y20.Ag⟩).bind λy24=>some (.next (w64 (z1.1+1),y24)) else some (.next (w64 (z1.1+1),z1.2)) else some (.brk (z1.1,z1.2))
def Aug(x0:Aa)(z2:Int×(List Aq)):Bool:=decide (z2.1<(x0.Ag.length:Int))
def Amw(x0:Aa)(x1:Ad)(y4:(List Int))(z2:Int×(List Aq)):Option (Ctl (Int×(List Aq)) Unit):=
 bif (Aug x0 z2)then (Aa0 x0 x1 z2.1).bind λy27=>bif y27.2 then (getI y4 y27.1).bind λy30=>(getI z2.2 y30).bind λy32=>(appI 9 y32.Ag [z2.1]).bind λy34=>(setI z2.2 y30 ⟨y32.Am,y32.Ae,y34⟩).bind λy36=>some (.next (w64 (z2.1+1),y36)) else some (.next (w64 (z2.1+1),z2.2)) else some (.brk (z2.1,z2.2))
def Abk(x0:Aa)(x1:Ad):Option ((List Aq)):=
 (Jh x0 x1).bind λy1=>bif (y1 != 0)then some [] else (Ai7 x0 x1).bind λy4=>(mkI 73 x0.Am ⟨[],[],[]⟩).bind λy6=>andThen (foldI Amy y4 0 y6) (λ_=>none) λz0=>andThen (whileN (Amx x0 x1 y4) 1152921504606846976 (0,z0)) (λ_=>none) λz1=>andThen (whileN (Amw x0 x1 y4) 1152921504606846976 (0,z1.2)) (λ_=>none) λz2=>(Rt z2.2).bind λy38=>some y38
def Adr(x2:Aj)(n0:Nat)(a0:Int)(z0:(List Aj)):Option (Ctl ((List Aj)) Unit):=
 (getI z0 a0).bind λy1=>(setI z0 a0 ⟨y1.State,y1.Since,x2.Ar,y1.Phase⟩).bind λy3=>(getI y3 a0).bind λy5=>(setI y3 a0 ⟨y5.State,y5.Since,y5.Ar,x2.Phase⟩).bind λy7=>some (.next y7)
def Ru(x0:Ad)(x1:List Int)(x2:Aj):Option ((List Aj)):=
 andThen (foldI (Adr x2) x1 0 x0.Ae) (λ_=>none) λz0=>some z0
def Az0(a0:Aq):Bool:=decide ((a0.Ae.length:Int)>0)
def Auy(x1:Ad)(y4:Ad)(n0:Nat)(a0:Aq)(z0:(List Aj)):Option (Ctl ((List Aj)) Unit):=
 bif (Az0 a0)then (getI a0.Ae 0).bind λy9=>(getI x1.Ae y9).bind λy11=>(Ru ⟨y4.Ai,z0,y4.Ao,y4.Al⟩ a0.Ae y11).bind λy13=>some (.next y13) else some (.next z0)
def F96(x0:Aa)(x1:Ad):Option (Ad×Int):=
 (Jh x0 x1).bind λy1=>bif (y1 != 0)then some (⟨[],[],[],[]⟩,y1) else (Nb x1).bind λy4=>(Abk x0 x1).bind λy6=>andThen (foldI (Auy x1 y4) y6 0 y4.Ae) (λ_=>none) λz0=>some (⟨y4.Ai,z0,y4.Ao,y4.Al⟩,0)
def F98(x0:By):Bool:=
 ((((((decide (x0.Stop>=1))&&(decide (x0.Stop<=99)))&&(decide (x0.Start>x0.Stop)))&&(decide (x0.Start<=100)))&&(decide (x0.Delay>=0)))&&(decide (x0.Delay<=600)))
def Abi(x1:List Bool)(n0:Nat)(a0:Bool)(z0:Unit):Option (Ctl Unit Bool):=
 (getI x1 (cnt 0 n0)).bind λy2=>bif !(a0==y2)then some (.ret false) else some (.next ())
def Abj(x0:List Bool)(x1:List Bool):Option Bool:=
 bif ((x0.length:Int) != (x1.length:Int))then some false else andThen (foldI (Abi x1) x0 0 ()) some λz0=>some true
def Auf(a0:Aj)(y2:Aj):Bool:=!((a0.State==y2.State)&&((a0.Since==y2.Since)&&((a0.Ar==y2.Ar)&&((a0.Phase==y2.Phase)&&true))))
def Abg(x1:List Aj)(n0:Nat)(a0:Aj)(z0:Unit):Option (Ctl Unit Bool):=
 (getI x1 (cnt 0 n0)).bind λy2=>bif (Auf a0 y2)then some (.ret false) else some (.next ())
def Abh(x0:List Aj)(x1:List Aj):Option Bool:=
 bif ((x0.length:Int) != (x1.length:Int))then some false else andThen (foldI (Abg x1) x0 0 ()) some λz0=>some true
def Abe(x1:List Int)(n0:Nat)(a0:Int)(z0:Unit):Option (Ctl Unit Bool):=
 (getI x1 (cnt 0 n0)).bind λy2=>bif (a0 != y2)then some (.ret false) else some (.next ())
def Abf(x0:List Int)(x1:List Int):Option Bool:=
 bif ((x0.length:Int) != (x1.length:Int))then some false else andThen (foldI (Abe x1) x0 0 ()) some λz0=>some true
def Aue(a0:Ab)(y2:Ab):Bool:=!((a0.Kind==y2.Kind)&&((a0.Number==y2.Number)&&true))
def Abc(x1:List Ab)(n0:Nat)(a0:Ab)(z0:Unit):Option (Ctl Unit Bool):=
 (getI x1 (cnt 0 n0)).bind λy2=>bif (Aue a0 y2)then some (.ret false) else some (.next ())
def Abd(x0:List Ab)(x1:List Ab):Option Bool:=
 bif ((x0.length:Int) != (x1.length:Int))then some false else andThen (foldI (Abc x1) x0 0 ()) some λz0=>some true
def F99(x0:Ad)(x1:Ad):Option Bool:=
 (Abj x0.Ai x1.Ai).bind λy1=>(Au [(y1,true)] (Abh x0.Ae x1.Ae) default).bind λy3=>(Au [((y1&&y3),true)] (Abf x0.Ao x1.Ao) default).bind λy5=>(Au [(((y1&&y3)&&y5),true)] (Abd x0.Al x1.Al) default).bind λy7=>some (((y1&&y3)&&y5)&&y7)
def uK(x0:Int)(x1:As):Bool:=
 ((decide (x0>=(-1)))&&(decide (x0<=x1.Time)))
def Gr(x0:Bb)(x1c0:As):Bool×As:=
 (((!(uK x0.High x1c0)) || (!(uK x0.Low x1c0))),x1c0)
def Ahc(z0:Sg1)(a0:Bb):Bool:=(Gr a0 (⟨z0.1,(⟨z0.2.1,z0.2.2.1,z0.2.2.2.1,z0.2.2.2.2.1⟩:Ad),z0.2.2.2.2.2.1,z0.2.2.2.2.2.2⟩:As)).1
def W7(n0:Nat)(a0:Bb)(z0:Sg1):Option (Ctl (Sg1) (Int×As)):=
 bif (Ahc z0 a0)then some (.ret (cnt 0 n0,⟨((Gr a0 ⟨z0.1,⟨z0.2.1,z0.2.2.1,z0.2.2.2.1,z0.2.2.2.2.1⟩,z0.2.2.2.2.2.1,z0.2.2.2.2.2.2⟩).2).Time,(((Gr a0 ⟨z0.1,⟨z0.2.1,z0.2.2.1,z0.2.2.2.1,z0.2.2.2.2.1⟩,z0.2.2.2.2.2.1,z0.2.2.2.2.2.2⟩).2).Power),((Gr a0 ⟨z0.1,⟨z0.2.1,z0.2.2.1,z0.2.2.2.1,z0.2.2.2.2.1⟩,z0.2.2.2.2.2.1,z0.2.2.2.2.2.2⟩).2).Be,((Gr a0 ⟨z0.1,⟨z0.2.1,z0.2.2.1,z0.2.2.2.1,z0.2.2.2.2.1⟩,z0.2.2.2.2.2.1,z0.2.2.2.2.2.2⟩).2).Bm⟩)) else some (.next (((Gr a0 ⟨z0.1,⟨z0.2.1,z0.2.2.1,z0.2.2.2.1,z0.2.2.2.2.1⟩,z0.2.2.2.2.2.1,z0.2.2.2.2.2.2⟩).2).Time,(((Gr a0 ⟨z0.1,⟨z0.2.1,z0.2.2.1,z0.2.2.2.1,z0.2.2.2.2.1⟩,z0.2.2.2.2.2.1,z0.2.2.2.2.2.2⟩).2).Power).Ai,(((Gr a0 ⟨z0.1,⟨z0.2.1,z0.2.2.1,z0.2.2.2.1,z0.2.2.2.2.1⟩,z0.2.2.2.2.2.1,z0.2.2.2.2.2.2⟩).2).Power).Ae,(((Gr a0 ⟨z0.1,⟨z0.2.1,z0.2.2.1,z0.2.2.2.1,z0.2.2.2.2.1⟩,z0.2.2.2.2.2.1,z0.2.2.2.2.2.2⟩).2).Power).Ao,(((Gr a0 ⟨z0.1,⟨z0.2.1,z0.2.2.1,z0.2.2.2.1,z0.2.2.2.2.1⟩,z0.2.2.2.2.2.1,z0.2.2.2.2.2.2⟩).2).Power).Al,((Gr a0 ⟨z0.1,⟨z0.2.1,z0.2.2.1,z0.2.2.2.1,z0.2.2.2.2.1⟩,z0.2.2.2.2.2.1,z0.2.2.2.2.2.2⟩).2).Be,((Gr a0 ⟨z0.1,⟨z0.2.1,z0.2.2.1,z0.2.2.2.1,z0.2.2.2.2.1⟩,z0.2.2.2.2.2.1,z0.2.2.2.2.2.2⟩).2).Bm))
def vQ(x0:List Bb)(x1c0c0:As):Option (Int×As):=
 andThen (foldI W7 x0 0 (x1c0c0.Time,x1c0c0.Power.Ai,x1c0c0.Power.Ae,x1c0c0.Power.Ao,x1c0c0.Power.Al,x1c0c0.Be,x1c0c0.Bm)) some λz0=>some ((-1),⟨z0.1,⟨z0.2.1,z0.2.2.1,z0.2.2.2.1,z0.2.2.2.2.1⟩,z0.2.2.2.2.2.1,z0.2.2.2.2.2.2⟩)
def Rw(x0:List Bb)(x1c0c0:As):Option (Bool×As):=
 (vQ x0 x1c0c0).bind λy1=>some (decide (y1.1>=0),y1.2)
def A0a(x1:By)(x2:As):Bool:=(((!(F98 x1)) || (decide (x2.Time<0))) || (decide (x2.Time>2147483648)))
def F49(x0:Aa)(x1:By)(x2:As):Option Int:=
 (F96 x0 x2.Power).bind λy1=>bif (y1.2 != 0)then some y1.2 else bif (A0a x1 x2)then some 1 else bif ((x2.Be.length:Int) != x0.Am)then some 8 else (F99 x2.Power y1.1).bind λy6=>(Au [(!y6,false)] (Rw x2.Be x2) (default,x2)).bind λy8=>bif ((!y6) || y8.1)then some 11 else some 0
def Ajh(x0:Ab):Bool:=
 ((((decide (x0.Kind>=1))&&(decide (x0.Kind<=9)))&&(decide (x0.Number>=0)))&&(decide (x0.Number<=63)))
def Aji(x0:Ab):Bool:=
 !(Ajh x0)
def Avj(n0:Nat)(a0:Ab)(z0:Unit):Option (Ctl Unit Int):=
 bif Aji a0 then some (.ret (cnt 0 n0)) else some (.next ())
def Ai6(x0:List Ab):Option Int:=
 andThen (foldI Avj x0 0 ()) some λz0=>some (-1)
def vP(x0:List Ab):Option Bool:=
 (Ai6 x0).bind λy1=>some (decide (y1>=0))
def Nc(x0:Ab)(x1:Ab):Option Int:=
 (W5 [I5 x0.Kind x1.Kind,I5 x0.Number x1.Number]).bind λy1=>some y1
def Adq(x0:List Ab)(z0:Int):Option (Ctl Int Bool):=
 bif decide (z0<(x0.length:Int))then (getI x0 (w64 (z0-1))).bind λy2=>(getI x0 z0).bind λy4=>(Nc y2 y4).bind λy6=>bif decide (y6>=0)then some (.ret false) else some (.next (w64 (z0+1))) else some (.brk z0)
def W6(x0:List Ab):Option Bool:=
 andThen (whileN (Adq x0) 1152921504606846976 1) some λz0=>some true
def Aqx(x0:List Ab):Option Bool:=
 (vP x0).bind λy1=>(Au [(!y1,true)] (W6 x0) default).bind λy3=>some ((!y1)&&y3)
def A6c(x1:Ab)(a0:Ab):Bool:=((x1.Kind==a0.Kind)&&((x1.Number==a0.Number)&&true))
def A20(x1:Ab)(n0:Nat)(a0:Ab)(z0:Unit):Option (Ctl Unit Int):=
 bif (A6c x1 a0)then some (.ret (cnt 0 n0)) else some (.next ())
def Aqo(x0:List Ab)(x1:Ab):Option Int:=
 andThen (foldI (A20 x1) x0 0 ()) some λz0=>some (-1)
def Ajn(x0:List Ab)(x1:Ab):Option Bool:=
 (Aqo x0 x1).bind λy1=>some (decide (y1>=0))
def F53(x0:List Ab)(x1:Ab):Option Bool:=
 (Ajn x0 x1).bind λy1=>some y1
def Aqp(x0:Bh)(x1:Bh):Option Int:=
 (Nc x0.From x1.From).bind λy1=>(Nc x0.To x1.To).bind λy3=>(W5 [y1,y3]).bind λy5=>some y5
def Adp(x0:List Bh)(z0:Int):Option (Ctl Int Bool):=
 bif decide (z0<(x0.length:Int))then (getI x0 (w64 (z0-1))).bind λy2=>(getI x0 z0).bind λy4=>(Aqp y2 y4).bind λy6=>bif decide (y6>=0)then some (.ret false) else some (.next (w64 (z0+1))) else some (.brk z0)
def vN(x0:List Bh):Option Bool:=
 andThen (whileN (Adp x0) 1152921504606846976 1) some λz0=>some true
def Aun(a0:Bh)(y1:Bool)(y3:Bool):Bool:=(((!y1) || (!y3)) || ((a0.From.Kind==a0.To.Kind)&&((a0.From.Number==a0.To.Number)&&true)))
def Am8(x0:Bf)(n0:Nat)(a0:Bh)(z0:Unit):Option (Ctl Unit Bool):=
 (F53 x0.Parts a0.From).bind λy1=>(Au [(!y1,false)] (F53 x0.Parts a0.To) default).bind λy3=>bif (Aun a0 y1 y3)then some (.ret false) else some (.next ())
def Aqw(x0:Bf):Option Bool:=
 andThen (foldI (Am8 x0) x0.Links 0 ()) some λz0=>(vN x0.Links).bind λy6=>some y6
def A6e(x0:ByteArray):Bool:=((decide ((x0.size:Int)<1)) || (decide ((x0.size:Int)>12)))
def A6d(n0:Nat)(a0:Int):Bool:=((!((decide (a0>=97))&&(decide (a0<=122))))&&(((cnt 0 n0)==0) || ((a0 != 45)&&((decide (a0<48)) || (decide (a0>57))))))
def A21(n0:Nat)(a0:Int)(z0:Unit):Option (Ctl Unit Bool):=
 bif (A6d n0 a0)then some (.ret false) else some (.next ())
def Azd(x0:ByteArray):Option Bool:=
 bif (A6e x0)then some false else (Ahm x0).bind λy2=>andThen (foldI A21 y2 0 ()) some λz0=>some true
def Ajg(x0:Bz)(x1:Bz):Bool:=
 (x0.Name.toList==x1.Name.toList)
def Adn(x1c0:Bz)(n0:Nat)(a0:Bz)(z0:Unit):Option (Ctl Unit (Int×Bz)):=
 bif Ajg a0 x1c0 then some (.ret (cnt 0 n0,x1c0)) else some (.next ())
def Ai4(x0:List Bz)(x1c0:Bz):Option (Int×Bz):=
 andThen (foldI (Adn x1c0) x0 0 ()) some λz0=>some ((-1),x1c0)
def vM(x0:List Bz)(x1c0:Bz):Option (Bool×Bz):=
 (Ai4 x0 x1c0).bind λy1=>some (decide (y1.1>=0),y1.2)
def Ajf(x0:Ab)(x1:Bf):Option Bool:=
 (F53 x1.Parts x0).bind λy1=>some (!y1)
def Ado(x1c0:Bf)(n0:Nat)(a0:Ab)(z0:Unit):Option (Ctl Unit (Int×Bf)):=
 (Ajf a0 x1c0).bind λy1=>bif y1 then some (.ret (cnt 0 n0,x1c0)) else some (.next ())
def Ai5(x0:List Ab)(x1c0:Bf):Option (Int×Bf):=
 andThen (foldI (Ado x1c0) x0 0 ()) some λz0=>some ((-1),x1c0)
def vO(x0:List Ab)(x1c0:Bf):Option (Bool×Bf):=
 (Ai5 x0 x1c0).bind λy1=>some (decide (y1.1>=0),y1.2)
def Aum(y1:Bool)(y5:Bool×Bz)(y7:Bool×Bf)(y9:Bool):Bool:=(((((!y1) || y5.1) || ((y5.2.Parts.length:Int)==0)) || y7.1) || (!y9))
def Am7(n0:Nat)(a0:Bz)(z0:(List Ab)×(List Bh)×(List Bz)):Option (Ctl ((List Ab)×(List Bh)×(List Bz)) Bool):=
 (Azd a0.Name).bind λy1=>(Au [(!y1,false)] (cutI z0.2.2 0 (cnt 0 n0)) default).bind λy4=>(Au [(!y1,false)] (vM y4 a0) (default,a0)).bind λy5=>(Au [((((!y1) || y5.1) || ((y5.2.Parts.length:Int)==0)),false)] (vO y5.2.Parts ⟨z0.1,z0.2.1,z0.2.2⟩) (default,⟨z0.1,z0.2.1,z0.2.2⟩)).bind λy7=>(Au [(((((!y1) || y5.1) || ((y5.2.Parts.length:Int)==0)) || y7.1),false)] (W6 y5.2.Parts) default).bind λy9=>bif (Aum y1 y5 y7 y9)then some (.ret false) else some (.next (y7.2.Parts,y7.2.Links,y7.2.Groups))
def Aqv(x0:Bf):Option Bool:=
 andThen (foldI Am7 x0.Groups 0 (x0.Parts,x0.Links,x0.Groups)) some λz0=>some true
def Ao8(x0:Bf):Bool:=(((decide ((x0.Parts.length:Int)>40)) || (decide ((x0.Links.length:Int)>60))) || (decide ((x0.Groups.length:Int)>6)))
def F50(x0:Bf):Option Int:=
 bif (Ao8 x0)then some 2 else (Aqx x0.Parts).bind λy2=>(Au [(!y2,false)] (Aqw x0) default).bind λy4=>(Au [(((!y2) || (!y4)),false)] (Aqv x0) default).bind λy6=>bif (((!y2) || (!y4)) || (!y6))then some 63 else some 0
def F52(x0:List (List Ab)):Option (List Ab):=Jc 16 x0
def F51(x0:Bf)(x1:List Ab):Option (List Ab):=qH F50 T5 x0 x1
def Abt(x0:List Bb):Option (List Bb):=appI 17 [] x0
def Abs(x0:List B1):Option (List B1):=appI 41 [] x0
def Aqu(x0:Aa)(x1:As):Option Co:=
 (Nb x1.Power).bind λy1=>(Abt x1.Be).bind λy3=>(Abs x1.Bm).bind λy5=>some ⟨⟨x1.Time,y1,y3,y5⟩,x0,[],[]⟩
def H8(x0:Aa)(x1:Int)(x2:Int):Bool:=
 bif (x1==1)then ((decide (x2>=0))&&(decide (x2<(x0.Ae.length:Int)))) else bif (x1==2)then ((decide (x2>=0))&&(decide (x2<(x0.Ah.length:Int)))) else bif (x1==3)then ((decide (x2>=0))&&(decide (x2<x0.Am))) else bif (x1==4)then ((decide (x2>=0))&&(decide (x2<(x0.Ag.length:Int)))) else ((decide (x2>=0))&&(decide (x2<0)))
def Al6(x1:A0):Option (Ctl Bool Unit):=
 bif (x1.Kind==1)then some (.next (x1.Kind==1)) else some (.next (x1.Kind==2))
def Al5(x1:A0):Option (Ctl Bool Unit):=
 bif (x1.Kind==3)then some (.next (x1.Kind==3)) else some (.next (x1.Kind==4))
def Ap6(x0:Aa)(x1:A0):Option Bool:=
 andThen (Al6 x1) (λ_=>none) λz0=>bif z0 then some (H8 x0 2 x1.Unit) else andThen (Al5 x1) (λ_=>none) λz1=>bif z1 then some (H8 x0 1 x1.Unit) else bif (x1.Kind==5)then some (H8 x0 4 x1.Unit) else bif (x1.Kind==6)then some ((H8 x0 1 x1.Unit)&&(H8 x0 3 x1.Value)) else bif (x1.Kind==8)then some (H8 x0 x1.Value x1.Unit) else bif (x1.Kind==9)then some (H8 x0 x1.Value x1.Unit) else some true
def Na(x0:Ad)(x1:Int)(x2:Int):Option Bool:=
 (Ajn x0.Al ⟨x1,x2⟩).bind λy1=>some y1
def Ajd(x0:Aa)(x1:Ad)(x2:Int):Option (Int×Bool):=
 (Jh x0 x1).bind λy1=>bif (y1 != 0)then some (0,false) else (Aa0 x0 x1 x2).bind λy4=>some (y4.1,y4.2)
def Apq(x0:Aa)(x1:Ad)(x2:Int):Option Bool:=
 (getI x0.Ah x2).bind λy1=>(getI x1.Ai x2).bind λy3=>(Au [(y3,false)] (Na x1 2 x2) default).bind λy5=>(Au [((y3 || y5),false)] (Na x1 3 y1.A) default).bind λy7=>bif ((y3 || y5) || y7)then some false else bif (y1.Kind==1)then (Na x1 3 y1.B).bind λy11=>some (!y11) else bif (y1.Kind==2)then (Na x1 1 y1.B).bind λy14=>(Au [(!y14,true)] (getI x1.Ae y1.B) default).bind λy16=>some ((!y14)&&(y16.State==2)) else (Ajd x0 x1 y1.B).bind λy18=>(Na x1 4 y1.B).bind λy20=>some ((!y20)&&(!y18.2))
def Ro(x2:Int)(n0:Nat)(a0:Aq)(z0:Unit):Option (Ctl Unit (Aq×Bool)):=
 (Wq a0.Am x2).bind λy3=>bif y3 then some (.ret (a0,true)) else some (.next ())
def J7(x0:Aa)(x1:Ad)(x2:Int):Option (Aq×Bool):=
 (Abk x0 x1).bind λy1=>andThen (foldI (Ro x2) y1 0 ()) some λz0=>some (⟨[],[],[]⟩,false)
def Aae(x0:Aa)(x1:Ad)(x2:Int):Option (Int×Bool):=
 (J7 x0 x1 x2).bind λy1=>bif ((y1.1.Ae.length:Int)==0)then some (0,false) else (getI y1.1.Ae 0).bind λy4=>some (y4,true)
def C6(x0:Int):Int:=
 bif decide ((Int.tmod x0 3600)<0)then w64 ((Int.tmod x0 3600)+3600) else Int.tmod x0 3600
def A5h(x0:Int)(x1:Int):Bool:=decide ((C6 (w64 ((C6 x1)-(C6 x0))))>1800)
def Apk(x0:Int)(x1:Int):Int:=
 bif (A5h x0 x1)then w64 ((C6 (w64 ((C6 x1)-(C6 x0))))-3600) else C6 (w64 ((C6 x1)-(C6 x0)))
def A5i(x1:Aj)(x2:Aj):Bool:=((decide ((min x1.Ar x2.Ar)<0)) || (decide ((max x1.Ar x2.Ar)>6000)))
def Aid(x0:Aa)(x1:Aj)(x2:Aj):Bool:=
 bif (A5i x1 x2)then false else ((decide ((max (w64 (x1.Ar-x2.Ar)) (w64 (x2.Ar-x1.Ar)))<=x0.Ar))&&(decide ((max (Apk x1.Phase x2.Phase) (w64 (0-Apk x1.Phase x2.Phase)))<=x0.Phase)))
def App(x0:Aa)(x1:Ad)(x2:Ak):Option Bool:=
 (Aae x0 x1 x2.A).bind λy1=>bif !y1.2 then some true else bif (x2.Kind==1)then (Aae x0 x1 x2.B).bind λy5=>(Au [(!y5.2,false)] (getI x1.Ae y1.1) default).bind λy7=>(Au [(!y5.2,false)] (getI x1.Ae y5.1) default).bind λy9=>some ((!y5.2) || (Aid x0 y7 y9)) else bif (x2.Kind==2)then (getI x1.Ae y1.1).bind λy12=>(getI x1.Ae x2.B).bind λy14=>some (Aid x0 y12 y14) else some true
def Atk(x0:Aa)(x2:Int):Bool:=((decide (x2<0)) || (decide (x2>=(x0.Ah.length:Int))))
def Apv(x0:Aa)(x1:Ad)(x2:Int):Option Int:=
 (Jh x0 x1).bind λy1=>bif (y1 != 0)then some y1 else bif (Atk x0 x2)then some 10 else (Apq x0 x1 x2).bind λy5=>bif !y5 then some 11 else (getI x0.Ah x2).bind λy8=>(J7 x0 x1 y8.A).bind λy10=>(Au [((y8.Kind==1),true)] (Wq y10.1.Am y8.B) default).bind λy12=>(Au [(!((y8.Kind==1)&&y12),true)] (App x0 x1 y8) default).bind λy14=>bif ((!((y8.Kind==1)&&y12))&&(!y14))then some 12 else some 0
def Ap1(x0:Aa)(x1:Ad)(x2:Int):Option (Ad×Int):=
 (Apv x0 x1 x2).bind λy1=>bif (y1 != 0)then some (⟨[],[],[],[]⟩,y1) else (Nb x1).bind λy4=>(getI y4.Ai x2).bind λy6=>(setI y4.Ai x2 true).bind λy8=>(F96 x0 ⟨y8,y4.Ae,y4.Ao,y4.Al⟩).bind λy10=>some (y10.1,y10.2)
def Ato(x0:Aa)(x2:Int):Bool:=((decide (x2<0)) || (decide (x2>=(x0.Ah.length:Int))))
def Ap0(x0:Aa)(x1:Ad)(x2:Int):Option (Ad×Int):=
 (Jh x0 x1).bind λy1=>bif (y1 != 0)then some (⟨[],[],[],[]⟩,y1) else bif (Ato x0 x2)then some (⟨[],[],[],[]⟩,10) else (getI x1.Ai x2).bind λy5=>(Au [(!y5,false)] (Na x1 2 x2) default).bind λy7=>bif ((!y5) || y7)then some (⟨[],[],[],[]⟩,11) else (Nb x1).bind λy10=>(getI y10.Ai x2).bind λy12=>(setI y10.Ai x2 false).bind λy14=>some (⟨y14,y10.Ae,y10.Ao,y10.Al⟩,0)
def Ay3(x0:Aa)(x1:Ad)(x2:Int):Option (Int×Bool):=
 (Jh x0 x1).bind λy1=>bif (y1 != 0)then some (0,false) else (Aa1 x0 x1 x2).bind λy4=>some (y4.1,y4.2)
def Atn(x0:Aa)(x2:Int)(x3:Int):Bool:=((((decide (x2<0)) || (decide (x2>=(x0.Ae.length:Int)))) || (decide (x3<0))) || (decide (x3>=x0.Am)))
def Apz(x0:Aa)(x1:Ad)(x2:Int)(x3:Int):Option (Ad×Int):=
 (Jh x0 x1).bind λy1=>bif (y1 != 0)then some (⟨[],[],[],[]⟩,y1) else bif (Atn x0 x2 x3)then some (⟨[],[],[],[]⟩,10) else (Aae x0 x1 x3).bind λy5=>(Au [(!y5.2,false)] (getI x1.Ae x2) default).bind λy7=>bif ((!y5.2) || (y7.State != 2))then some (⟨[],[],[],[]⟩,11) else (Nb x1).bind λy10=>(Ay3 x0 x1 x2).bind λy12=>bif y12.2 then (J7 x0 x1 y12.1).bind λy15=>(getI x1.Ae y5.1).bind λy17=>(Ru y10 y15.1.Ae y17).bind λy19=>some (⟨y10.Ai,y19,y10.Ao,y10.Al⟩,0) else (getI x1.Ae y5.1).bind λy21=>(Ru y10 [x2] y21).bind λy23=>some (⟨y10.Ai,y23,y10.Ao,y10.Al⟩,0)
def Aib(x0:Ak)(x1:Int):Bool:=
 ((x0.Kind==2)&&(x0.B==x1))
def V9(x1c0:Int)(n0:Nat)(a0:Ak)(z0:Unit):Option (Ctl Unit (Int×Int)):=
 bif Aib a0 x1c0 then some (.ret (cnt 0 n0,x1c0)) else some (.next ())
def Aic(x0:List Ak)(x1c0:Int):Option (Int×Int):=
 andThen (foldI (V9 x1c0) x0 0 ()) some λz0=>some ((-1),x1c0)
def Apo(x0:Aa)(x1:Int):Option Int:=
 (Aic x0.Ah x1).bind λy1=>some y1.1
def Rn(x0:Bg)(x1:Int):Option Bool:=
 (Apo x0.Ap x1).bind λy1=>(getI x0.Aw.Ai y1).bind λy3=>some (!y3)
def vC(x0:Bg)(x1:Int):Option (Int×Bg):=
 (getI x0.Aw.Ae x1).bind λy1=>(Au [((y1.State != 0),false)] (Na x0.Aw 1 x1) default).bind λy3=>bif ((y1.State != 0) || y3)then some (11,x0) else (getI x0.Ap.Ae x1).bind λy6=>(Au [((y6.Start==0),true)] (Rn x0 x1) default).bind λy8=>bif ((y6.Start==0)&&y8)then (setI x0.Aw.Ae x1 ⟨2,x0.time,5000,0⟩).bind λy11=>some (0,⟨x0.Ap,⟨x0.Aw.Ai,y11,x0.Aw.Ao,x0.Aw.Al⟩,x0.time⟩) else (setI x0.Aw.Ae x1 ⟨1,x0.time,5000,0⟩).bind λy13=>some (0,⟨x0.Ap,⟨x0.Aw.Ai,y13,x0.Aw.Ao,x0.Aw.Al⟩,x0.time⟩)
def Ax5(y1:Aj)(y3:Bool):Bool:=(((y1.State != 1)&&(y1.State != 2)) || (!y3))
def vB(x0:Bg)(x1:Int):Option (Int×Bg):=
 (getI x0.Aw.Ae x1).bind λy1=>(Au [(((y1.State != 1)&&(y1.State != 2)),false)] (Rn x0 x1) default).bind λy3=>bif (Ax5 y1 y3)then some (11,x0) else (setI x0.Aw.Ae x1 ⟨0,y1.Since,y1.Ar,y1.Phase⟩).bind λy6=>some (0,⟨x0.Ap,⟨x0.Aw.Ai,y6,x0.Aw.Ao,x0.Aw.Al⟩,x0.time⟩)
def Ag3(x2:Int)(y1:A_):Bool:=((decide (x2<0)) || (decide (x2>y1.Load)))
def vA(x0:Bg)(x1:Int)(x2:Int):Option (Int×Bg):=
 (Au [(decide (x2<0),false)] (getI x0.Ap.Ag x1) default).bind λy1=>bif (Ag3 x2 y1)then some (1,x0) else (getI x0.Aw.Ao x1).bind λy4=>(setI x0.Aw.Ao x1 x2).bind λy6=>some (0,⟨x0.Ap,⟨x0.Aw.Ai,x0.Aw.Ae,y6,x0.Aw.Al⟩,x0.time⟩)
def Al1(n0:Nat)(a0:Aj)(z0:(List Aj)):Option (Ctl ((List Aj)) Unit):=
 bif (a0.State==2)then (getI z0 (cnt 0 n0)).bind λy7=>(setI z0 (cnt 0 n0) ⟨y7.State,y7.Since,y7.Ar,C6 (w64 (a0.Phase+(w64 (36*(w64 (a0.Ar-5000))))))⟩).bind λy9=>some (.next y9) else some (.next z0)
def Apu(x0:Aa)(x1:Ad):Option (Ad×Int):=
 (Jh x0 x1).bind λy1=>bif (y1 != 0)then some (⟨[],[],[],[]⟩,y1) else (Nb x1).bind λy4=>andThen (foldI Al1 x1.Ae 0 y4.Ae) (λ_=>none) λz0=>some (⟨y4.Ai,z0,y4.Ao,y4.Al⟩,0)
def Ag2(y1:Ad×Int)(z0:Int×(List Aj)):Bool:=decide (z0.1<(y1.1.Ae.length:Int))
def Ax4(x0:Bg)(y4:Aj)(y6:Bool)(y8:B9):Bool:=(((y4.State==1)&&y6)&&(decide ((w64 (y4.Since+y8.Start))<=(w64 (x0.time+1)))))
def Adk(x0:Bg)(y1:Ad×Int)(z0:Int×(List Aj)):Option (Ctl (Int×(List Aj)) Unit):=
 bif (Ag2 y1 z0)then (getI z0.2 z0.1).bind λy4=>(Au [((y4.State==1),true)] (Rn ⟨x0.Ap,⟨y1.1.Ai,z0.2,y1.1.Ao,y1.1.Al⟩,x0.time⟩ z0.1) default).bind λy6=>(Au [(((y4.State==1)&&y6),true)] (getI x0.Ap.Ae z0.1) default).bind λy8=>bif (Ax4 x0 y4 y6 y8)then (setI z0.2 z0.1 ⟨2,y4.Since,y4.Ar,y4.Phase⟩).bind λy11=>some (.next (w64 (z0.1+1),y11)) else some (.next (w64 (z0.1+1),z0.2)) else some (.brk (z0.1,z0.2))
def uZ(x0:Bg):Option Bg:=
 (Apu x0.Ap x0.Aw).bind λy1=>andThen (whileN (Adk x0 y1) 1152921504606846976 (0,y1.1.Ae)) (λ_=>none) λz0=>some ⟨x0.Ap,⟨y1.1.Ai,z0.2,y1.1.Ao,y1.1.Al⟩,x0.time⟩
def Tv(x0:Ab)(x1:Ab):Int:=
 bif (x0.Kind != x1.Kind)then w64 (x0.Kind-x1.Kind) else w64 (x0.Number-x1.Number)
def Adc(x0:List Ab)(x1:Ab)(z0:Int×Int):Option (Ctl (Int×Int) Unit):=
 bif decide (z0.1<z0.2)then (getI x0 (w64 (Un .u64 (IntKind.wrap .u64 (w64 (z0.1+z0.2))) 1))).bind λy2=>bif decide ((Tv y2 x1)<0)then some (.next (w64 ((w64 (Un .u64 (IntKind.wrap .u64 (w64 (z0.1+z0.2))) 1))+1),z0.2)) else some (.next (z0.1,w64 (Un .u64 (IntKind.wrap .u64 (w64 (z0.1+z0.2))) 1))) else some (.brk (z0.1,z0.2))
def uR(x0:List Ab)(x1:Ab):Option (Int×Bool):=
 andThen (whileN (Adc x0 x1) 1152921504606846976 (0,(x0.length:Int))) (λ_=>none) λz0=>(Au [(decide (z0.1<(x0.length:Int)),true)] (getI x0 z0.1) default).bind λy5=>some (z0.1,((decide (z0.1<(x0.length:Int)))&&((Tv y5 x1)==0)))
def Rm(x0:List Ab)(x1:Int)(x2:List Ab):Option ((List Ab)):=
 (bndI x0.length x1 (x0.length:Int)).bind λu2=>bif ((x2.length:Int)==0)then some x0 else bif (x1==(x0.length:Int))then (appI 17 x0 x2).bind λy5=>some y5 else insI 17 x0 x1 x2
def We(x0:List Ab)(x1:Int)(x2:Int):Option ((List Ab)):=
 (bnd3I x0.length x1 x2 (x0.length:Int)).bind λu2=>bif (x1==x2)then some x0 else (bndI x0.length 0 x1).bind λu5=>(bndI x0.length x2 (x0.length:Int)).bind λu7=>(appPI x0 ((Int.toNat x1)-0) ((x0.drop (Int.toNat x2)).take ((Int.toNat (x0.length:Int))-(Int.toNat x2)))).bind λy8=>(bndI (y8.length-0) (((((Int.toNat x1)-0)+((x0.drop (Int.toNat x2)).take ((Int.toNat (x0.length:Int))-(Int.toNat x2))).length):Nat):Int) (x0.length:Int)).bind λu11=>some ((Ht y8 (0+(Int.toNat (((((Int.toNat x1)-0)+((x0.drop (Int.toNat x2)).take ((Int.toNat (x0.length:Int))-(Int.toNat x2))).length):Nat):Int))) ((Int.toNat (x0.length:Int))-(Int.toNat (((((Int.toNat x1)-0)+((x0.drop (Int.toNat x2)).take ((Int.toNat (x0.length:Int))-(Int.toNat x2))).length):Nat):Int))) ⟨0,0⟩).take (((Int.toNat x1)-0)+((x0.drop (Int.toNat x2)).take ((Int.toNat (x0.length:Int))-(Int.toNat x2))).length))
def Te(x0:Bg)(x2:Bool):Bool:=(x2&&(decide ((x0.Aw.Al.length:Int)>=32)))
def Wp(x0:Bg)(x1:Ab)(x2:Bool)(y1:Int×Bool):Option (Ctl ((List Ab)) Unit):=
 bif x2 then (Rm x0.Aw.Al y1.1 [x1]).bind λy6=>some (.next y6) else (We x0.Aw.Al y1.1 (w64 (y1.1+1))).bind λy8=>some (.next y8)
def Jl(x0:Bg)(x1:Ab)(x2:Bool):Option (Int×Bg):=
 (uR x0.Aw.Al x1).bind λy1=>bif (y1.2==x2)then some (11,x0) else bif (Te x0 x2)then some (2,x0) else andThen (Wp x0 x1 x2 y1) (λ_=>none) λz0=>bif (x1.Kind==1)then (getI x0.Aw.Ae x1.Number).bind λy11=>(setI x0.Aw.Ae x1.Number ⟨0,y11.Since,y11.Ar,y11.Phase⟩).bind λy13=>bif x2 then (getI y13 x1.Number).bind λy16=>(setI y13 x1.Number ⟨3,y16.Since,y16.Ar,y16.Phase⟩).bind λy18=>some (0,⟨x0.Ap,⟨x0.Aw.Ai,y18,x0.Aw.Ao,z0⟩,x0.time⟩) else some (0,⟨x0.Ap,⟨x0.Aw.Ai,y13,x0.Aw.Ao,z0⟩,x0.time⟩) else some (0,⟨x0.Ap,⟨x0.Aw.Ai,x0.Aw.Ae,x0.Aw.Ao,z0⟩,x0.time⟩)
def vI(x0:Bg)(x1:A0):Option (Int×Bg):=
 bif (x1.Kind==1)then (Ap1 x0.Ap x0.Aw x1.Unit).bind λy2=>some (y2.2,⟨x0.Ap,y2.1,x0.time⟩) else bif (x1.Kind==2)then (Ap0 x0.Ap x0.Aw x1.Unit).bind λy5=>some (y5.2,⟨x0.Ap,y5.1,x0.time⟩) else bif (x1.Kind==6)then (Apz x0.Ap x0.Aw x1.Unit x1.Value).bind λy8=>some (y8.2,⟨x0.Ap,y8.1,x0.time⟩) else bif (x1.Kind==3)then (vC x0 x1.Unit).bind λy11=>some (y11.1,y11.2) else bif (x1.Kind==4)then (vB x0 x1.Unit).bind λy14=>some (y14.1,y14.2) else bif (x1.Kind==5)then (vA x0 x1.Unit x1.Value).bind λy17=>some (y17.1,y17.2) else bif (x1.Kind==7)then (uZ x0).bind λy20=>some (0,y20) else (Jl x0 ⟨x1.Value,x1.Unit⟩ (x1.Kind==8)).bind λy22=>some (y22.1,y22.2)
def Aua(x2:Int)(x3:A0):Bool:=((((decide (x2<0)) || (decide (x2>2147483648))) || (decide (x3.Kind<1))) || (decide (x3.Kind>9)))
def Aba(x0:Aa)(x1:Ad)(x2:Int)(x3:A0):Option (Ad×Int):=
 (Jh x0 x1).bind λy1=>bif (y1 != 0)then some (⟨[],[],[],[]⟩,y1) else bif (Aua x2 x3)then some (⟨[],[],[],[]⟩,1) else (Ap6 x0 x3).bind λy5=>bif !y5 then some (⟨[],[],[],[]⟩,10) else (Nb x1).bind λy8=>(vI ⟨x0,y8,x2⟩ x3).bind λy10=>bif (y10.1 != 0)then some (⟨[],[],[],[]⟩,y10.1) else some (y10.2.Aw,0)
def Wy(x0:Co)(x1:A0)(x2:Int):Option Co:=
 (appI 41 x0.events [⟨x0.Bq.Time,x1,x2⟩]).bind λy1=>some ⟨x0.Bq,x0.Ap,y1,x0.states⟩
def Oy(x0:Co)(x1:Ad):Option Co:=
 (Nb x1).bind λy3=>(appI 97 x0.states [y3]).bind λy5=>some ⟨x0.Bq,x0.Ap,x0.events,y5⟩
def Ox(x0:Int)(x1:Int)(x2:A7):Option (Bool×A7):=
 (Na x2.Aw x0 x1).bind λy1=>some (y1,x2)
def uV(x0:A7)(x1:Ak):Option (Bool×A7):=
 (Ox 3 x1.A x0).bind λy1=>bif y1.1 then some (true,y1.2) else bif (x1.Kind==1)then (Ox 3 x1.B y1.2).bind λy5=>some (y5.1,y5.2) else bif (x1.Kind==2)then (Ox 1 x1.B y1.2).bind λy8=>(Au [(y8.1,false)] (getI y8.2.Aw.Ae x1.B) default).bind λy10=>some ((y8.1 || (y10.State != 2)),y8.2) else (Ox 4 x1.B y1.2).bind λy12=>some (y12.1,y12.2)
def Rl(x0:A7)(x1:Int):Option A7:=
 (getI x0.Aw.Ai x1).bind λy1=>(setI x0.Aw.Ai x1 false).bind λy3=>(appI 25 x0.acts [⟨2,x1,0⟩]).bind λy5=>some ⟨x0.Ap,⟨y3,x0.Aw.Ae,x0.Aw.Ao,x0.Aw.Al⟩,y5⟩
def Adi(n0:Nat)(a0:Ak)(z0:Ape):Option (Ctl (Ape) Unit):=
 (getI z0.2.2.2.2.2.2.2.1 (cnt 0 n0)).bind λy1=>(Au [(y1,true)] (uV ⟨⟨z0.1,z0.2.1,z0.2.2.1,z0.2.2.2.1,z0.2.2.2.2.1,z0.2.2.2.2.2.1⟩,⟨z0.2.2.2.2.2.2.2.1,z0.2.2.2.2.2.2.2.2.1,z0.2.2.2.2.2.2.2.2.2.1,z0.2.2.2.2.2.2.2.2.2.2.1⟩,z0.2.2.2.2.2.2.2.2.2.2.2⟩ a0) (default,⟨⟨z0.1,z0.2.1,z0.2.2.1,z0.2.2.2.1,z0.2.2.2.2.1,z0.2.2.2.2.2.1⟩,⟨z0.2.2.2.2.2.2.2.1,z0.2.2.2.2.2.2.2.2.1,z0.2.2.2.2.2.2.2.2.2.1,z0.2.2.2.2.2.2.2.2.2.2.1⟩,z0.2.2.2.2.2.2.2.2.2.2.2⟩)).bind λy3=>bif (y1&&y3.1)then (appI 9 z0.2.2.2.2.2.2.1 [cnt 0 n0]).bind λy6=>some (.next (y3.2.Ap.Am,y3.2.Ap.Ah,y3.2.Ap.Ae,y3.2.Ap.Ag,y3.2.Ap.Phase,y3.2.Ap.Ar,y6,y3.2.Aw.Ai,y3.2.Aw.Ae,y3.2.Aw.Ao,y3.2.Aw.Al,y3.2.acts)) else some (.next (y3.2.Ap.Am,y3.2.Ap.Ah,y3.2.Ap.Ae,y3.2.Ap.Ag,y3.2.Ap.Phase,y3.2.Ap.Ar,z0.2.2.2.2.2.2.1,y3.2.Aw.Ai,y3.2.Aw.Ae,y3.2.Aw.Ao,y3.2.Aw.Al,y3.2.acts))
def Wo(n1:Nat)(a1:Int)(z1:Sg9):Option (Ctl (Sg9) Unit):=
 (Rl ⟨⟨z1.1,z1.2.1,z1.2.2.1,z1.2.2.2.1,z1.2.2.2.2.1,z1.2.2.2.2.2.1⟩,⟨z1.2.2.2.2.2.2.1,z1.2.2.2.2.2.2.2.1,z1.2.2.2.2.2.2.2.2.1,z1.2.2.2.2.2.2.2.2.2.1⟩,z1.2.2.2.2.2.2.2.2.2.2⟩ a1).bind λy8=>some (.next (y8.Ap.Am,y8.Ap.Ah,y8.Ap.Ae,y8.Ap.Ag,y8.Ap.Phase,y8.Ap.Ar,y8.Aw.Ai,y8.Aw.Ae,y8.Aw.Ao,y8.Aw.Al,y8.acts))
def uY(x0:A7):Option A7:=
 andThen (foldI Adi x0.Ap.Ah 0 (x0.Ap.Am,x0.Ap.Ah,x0.Ap.Ae,x0.Ap.Ag,x0.Ap.Phase,x0.Ap.Ar,[],x0.Aw.Ai,x0.Aw.Ae,x0.Aw.Ao,x0.Aw.Al,x0.acts)) (λ_=>none) λz0=>andThen (foldI Wo z0.2.2.2.2.2.2.1 0 (z0.1,z0.2.1,z0.2.2.1,z0.2.2.2.1,z0.2.2.2.2.1,z0.2.2.2.2.2.1,z0.2.2.2.2.2.2.2.1,z0.2.2.2.2.2.2.2.2.1,z0.2.2.2.2.2.2.2.2.2.1,z0.2.2.2.2.2.2.2.2.2.2.1,z0.2.2.2.2.2.2.2.2.2.2.2)) (λ_=>none) λz1=>some ⟨⟨z1.1,z1.2.1,z1.2.2.1,z1.2.2.2.1,z1.2.2.2.2.1,z1.2.2.2.2.2.1⟩,⟨z1.2.2.2.2.2.2.1,z1.2.2.2.2.2.2.2.1,z1.2.2.2.2.2.2.2.2.1,z1.2.2.2.2.2.2.2.2.2.1⟩,z1.2.2.2.2.2.2.2.2.2.2⟩
def Ajc(x0:Aa)(x1:Ad)(x2:Int):Option Bool:=
 (J7 x0 x1 x2).bind λy1=>some (decide ((y1.1.Ae.length:Int)>0))
def uU(x0:Ak)(x1:A7):Option (Bool×A7):=
 (Au [((x0.Kind==3),true)] (Ajc x1.Ap x1.Aw x0.A) default).bind λy1=>some (((x0.Kind==3)&&(!y1)),x1)
def Adh(n0:Nat)(a0:Ak)(z0:Ape):Option (Ctl (Ape) Unit):=
 (getI z0.2.2.2.2.2.2.2.1 (cnt 0 n0)).bind λy1=>(Au [(y1,true)] (uU a0 ⟨⟨z0.1,z0.2.1,z0.2.2.1,z0.2.2.2.1,z0.2.2.2.2.1,z0.2.2.2.2.2.1⟩,⟨z0.2.2.2.2.2.2.2.1,z0.2.2.2.2.2.2.2.2.1,z0.2.2.2.2.2.2.2.2.2.1,z0.2.2.2.2.2.2.2.2.2.2.1⟩,z0.2.2.2.2.2.2.2.2.2.2.2⟩) (default,⟨⟨z0.1,z0.2.1,z0.2.2.1,z0.2.2.2.1,z0.2.2.2.2.1,z0.2.2.2.2.2.1⟩,⟨z0.2.2.2.2.2.2.2.1,z0.2.2.2.2.2.2.2.2.1,z0.2.2.2.2.2.2.2.2.2.1,z0.2.2.2.2.2.2.2.2.2.2.1⟩,z0.2.2.2.2.2.2.2.2.2.2.2⟩)).bind λy3=>bif (y1&&y3.1)then (appI 9 z0.2.2.2.2.2.2.1 [cnt 0 n0]).bind λy6=>some (.next (y3.2.Ap.Am,y3.2.Ap.Ah,y3.2.Ap.Ae,y3.2.Ap.Ag,y3.2.Ap.Phase,y3.2.Ap.Ar,y6,y3.2.Aw.Ai,y3.2.Aw.Ae,y3.2.Aw.Ao,y3.2.Aw.Al,y3.2.acts)) else some (.next (y3.2.Ap.Am,y3.2.Ap.Ah,y3.2.Ap.Ae,y3.2.Ap.Ag,y3.2.Ap.Phase,y3.2.Ap.Ar,z0.2.2.2.2.2.2.1,y3.2.Aw.Ai,y3.2.Aw.Ae,y3.2.Aw.Ao,y3.2.Aw.Al,y3.2.acts))
def Avg(n1:Nat)(a1:Int)(z1:Sg9):Option (Ctl (Sg9) Unit):=
 (Rl ⟨⟨z1.1,z1.2.1,z1.2.2.1,z1.2.2.2.1,z1.2.2.2.2.1,z1.2.2.2.2.2.1⟩,⟨z1.2.2.2.2.2.2.1,z1.2.2.2.2.2.2.2.1,z1.2.2.2.2.2.2.2.2.1,z1.2.2.2.2.2.2.2.2.2.1⟩,z1.2.2.2.2.2.2.2.2.2.2⟩ a1).bind λy8=>some (.next (y8.Ap.Am,y8.Ap.Ah,y8.Ap.Ae,y8.Ap.Ag,y8.Ap.Phase,y8.Ap.Ar,y8.Aw.Ai,y8.Aw.Ae,y8.Aw.Ao,y8.Aw.Al,y8.acts))
def uX(x0:A7):Option A7:=
 andThen (foldI Adh x0.Ap.Ah 0 (x0.Ap.Am,x0.Ap.Ah,x0.Ap.Ae,x0.Ap.Ag,x0.Ap.Phase,x0.Ap.Ar,[],x0.Aw.Ai,x0.Aw.Ae,x0.Aw.Ao,x0.Aw.Al,x0.acts)) (λ_=>none) λz0=>andThen (foldI Avg z0.2.2.2.2.2.2.1 0 (z0.1,z0.2.1,z0.2.2.1,z0.2.2.2.1,z0.2.2.2.2.1,z0.2.2.2.2.2.1,z0.2.2.2.2.2.2.2.1,z0.2.2.2.2.2.2.2.2.1,z0.2.2.2.2.2.2.2.2.2.1,z0.2.2.2.2.2.2.2.2.2.2.1,z0.2.2.2.2.2.2.2.2.2.2.2)) (λ_=>none) λz1=>some ⟨⟨z1.1,z1.2.1,z1.2.2.1,z1.2.2.2.1,z1.2.2.2.2.1,z1.2.2.2.2.2.1⟩,⟨z1.2.2.2.2.2.2.1,z1.2.2.2.2.2.2.2.1,z1.2.2.2.2.2.2.2.2.1,z1.2.2.2.2.2.2.2.2.2.1⟩,z1.2.2.2.2.2.2.2.2.2.2⟩
def vH(x0:A7):Option A7:=
 (uY x0).bind λy1=>(uX y1).bind λy3=>(F96 y3.Ap y3.Aw).bind λy5=>some ⟨y3.Ap,y5.1,y3.acts⟩
def Rk(x0:Int)(x1:Int)(x2:Aa):Option Int:=
 (getI x2.Ag x0).bind λy1=>(getI x2.Ag x1).bind λy3=>some (I5 y1.B6 y3.B6)
def Ze(x1:Int)(z1:Int×(List Int))(y12:Int):Bool:=((decide (z1.1>x1))&&(decide (y12<0)))
def V8(x1:Int)(x3c0:Aa)(z1:Int×(List Int)):Option (Ctl (Int×(List Int)) Unit):=
 (Au [(decide (z1.1>x1),true)] (getI z1.2 z1.1) default).bind λy8=>(Au [(decide (z1.1>x1),true)] (getI z1.2 (w64 (z1.1-1))) default).bind λy10=>(Au [(decide (z1.1>x1),true)] (Rk y8 y10 x3c0) default).bind λy12=>bif (Ze x1 z1 y12)then (getI z1.2 (w64 (z1.1-1))).bind λy15=>(getI z1.2 z1.1).bind λy17=>(setI z1.2 z1.1 y15).bind λy19=>(getI y19 (w64 (z1.1-1))).bind λy21=>(setI y19 (w64 (z1.1-1)) y17).bind λy23=>some (.next (w64 (z1.1-1),y23)) else some (.brk (z1.1,z1.2))
def Ac8(x1:Int)(x2:Int)(x3c0:Aa)(z0:Int×(List Int)):Option (Ctl (Int×(List Int)) Unit):=
 bif decide (z0.1<x2)then andThen (whileN (V8 x1 x3c0) 1152921504606846976 (z0.1,z0.2)) (λ_=>none) λz1=>some (.next (w64 (z0.1+1),z1.2)) else some (.brk (z0.1,z0.2))
def uN(x0:List Int)(x1:Int)(x2:Int)(x3c0:Aa):Option ((List Int)×Aa):=
 andThen (whileN (Ac8 x1 x2 x3c0) 1152921504606846976 (w64 (x1+1),x0)) (λ_=>none) λz0=>some (z0.2,x3c0)
def Ada(x1:Int)(z0:Int×Int×(List Int)×Int×(List Ak)×(List B9)×(List A_)×Int×Int):Option (Ctl (Int×Int×(List Int)×Int×(List Ak)×(List B9)×(List A_)×Int×Int) Unit):=
 bif decide (z0.2.1<=x1)then (uN z0.2.2.1 z0.1 z0.2.1 ⟨z0.2.2.2.1,z0.2.2.2.2.1,z0.2.2.2.2.2.1,z0.2.2.2.2.2.2.1,z0.2.2.2.2.2.2.2.1,z0.2.2.2.2.2.2.2.2⟩).bind λy2=>some (.next (z0.2.1,w64 (z0.2.1+20),y2.1,y2.2.Am,y2.2.Ah,y2.2.Ae,y2.2.Ag,y2.2.Phase,y2.2.Ar)) else some (.brk (z0.1,z0.2.1,z0.2.2.1,z0.2.2.2.1,z0.2.2.2.2.1,z0.2.2.2.2.2.1,z0.2.2.2.2.2.2.1,z0.2.2.2.2.2.2.2.1,z0.2.2.2.2.2.2.2.2))
def A8o(x1:Int)(z2:Unit):Option (Ctl Unit Unit):=
 bif decide (40<=x1)then none else some (.brk ())
def Ac9(x1:Int)(z1:Unit):Option (Ctl Unit Unit):=
 bif decide (20<x1)then none else some (.brk ())
def Aij(x0:List Int)(x1:Int)(x2c0:Aa):Option ((List Int)×Aa):=
 andThen (whileN (Ada x1) 1152921504606846976 (0,20,x0,x2c0.Am,x2c0.Ah,x2c0.Ae,x2c0.Ag,x2c0.Phase,x2c0.Ar)) (λ_=>none) λz0=>(uN z0.2.2.1 z0.1 x1 ⟨z0.2.2.2.1,z0.2.2.2.2.1,z0.2.2.2.2.2.1,z0.2.2.2.2.2.2.1,z0.2.2.2.2.2.2.2.1,z0.2.2.2.2.2.2.2.2⟩).bind λy4=>andThen (whileN (Ac9 x1) 1152921504606846976 ()) (λ_=>none) λz1=>some (y4.1,y4.2)
def uQ(x0:List Int)(x1c0:Aa):Option ((List Int)×Aa):=
 (Aij x0 (x0.length:Int) x1c0).bind λy1=>some (y1.1,y1.2)
def Atm(x0:Aa)(z0:Int×(List Int)):Bool:=decide (z0.1<(x0.Ag.length:Int))
def Al3(x0:Aa)(z0:Int×(List Int)):Option (Ctl (Int×(List Int)) Unit):=
 bif (Atm x0 z0)then (appI 9 z0.2 [z0.1]).bind λy5=>some (.next (w64 (z0.1+1),y5)) else some (.brk (z0.1,z0.2))
def Aan(x0:Aa):Option ((List Int)):=
 (Aje x0).bind λy1=>bif (y1 != 0)then some [] else andThen (whileN (Al3 x0) 1152921504606846976 (0,[])) (λ_=>none) λz0=>(uQ z0.2 x0).bind λy7=>some y7.1
def Wl(x0:Int)(x1:Aq):Option Bool:=
 (Wq x1.Ag x0).bind λy1=>some (!y1)
def Wv(x1c0:Aq)(n0:Nat)(a0:Int)(z0:Unit):Option (Ctl Unit (Int×Aq)):=
 (Wl a0 x1c0).bind λy1=>bif y1 then some (.ret (cnt 0 n0,x1c0)) else some (.next ())
def Aiw(x0:List Int)(x1c0:Aq):Option (Int×Aq):=
 andThen (foldI (Wv x1c0) x0 0 ()) some λz0=>some ((-1),x1c0)
def Ag1(z0:Int×Int×(List Int)):Bool:=decide (z0.2.1<(z0.2.2.length:Int))
def Wm(y1:Int×Aq)(z0:Int×Int×(List Int)):Option (Ctl (Int×Int×(List Int)) Unit):=
 bif (Ag1 z0)then (getI z0.2.2 z0.2.1).bind λy5=>(Wl y5 y1.2).bind λy7=>bif !y7 then (getI z0.2.2 z0.1).bind λy10=>(setI z0.2.2 z0.1 y5).bind λy12=>some (.next (w64 (z0.1+1),w64 (z0.2.1+1),y12)) else some (.next (z0.1,w64 (z0.2.1+1),z0.2.2)) else some (.brk (z0.1,z0.2.1,z0.2.2))
def Wn(x0:List Int)(x1c0:Aq):Option ((List Int)×Aq):=
 (Aiw x0 x1c0).bind λy1=>bif (y1.1==(-1))then some (x0,y1.2) else andThen (whileN (Wm y1) 1152921504606846976 (y1.1,w64 (y1.1+1),x0)) (λ_=>none) λz0=>(bndI z0.2.2.length z0.1 (z0.2.2.length:Int)).bind λu15=>(bndI (Ht z0.2.2 (Int.toNat z0.1) ((Int.toNat (z0.2.2.length:Int))-(Int.toNat z0.1)) 0).length 0 z0.1).bind λu17=>some (((Ht z0.2.2 (Int.toNat z0.1) ((Int.toNat (z0.2.2.length:Int))-(Int.toNat z0.1)) 0).take ((Int.toNat z0.1)-0)),y1.2)
def zY(x1:Ad)(y1:Aq×Bool)(n0:Nat)(a0:Int)(z0:Int):Option (Ctl Int Unit):=
 bif decide ((y1.1.Ae.length:Int)>0)then (getI x1.Ao a0).bind λy4=>some (.next (w64 (z0+y4))) else some (.next z0)
def Aii(x0:Aa)(x1:Ad)(x2:Int):Option Int:=
 (J7 x0 x1 x2).bind λy1=>andThen (foldI (zY x1 y1) y1.1.Ag 0 0) (λ_=>none) λz0=>some z0
def Alz(x0:Aa)(n0:Nat)(a0:Int)(z0:Int):Option (Ctl Int Unit):=
 (getI x0.Ae a0).bind λy3=>some (.next (w64 (z0+y3.Rating)))
def Aih(x0:Aa)(x1:Ad)(x2:Int):Option Int:=
 (J7 x0 x1 x2).bind λy1=>andThen (foldI (Alz x0) y1.1.Ae 0 0) (λ_=>none) λz0=>some z0
def Wd(x0:A7)(x1:Int):Option Int:=
 (Aii x0.Ap x0.Aw x1).bind λy1=>(Aih x0.Ap x0.Aw x1).bind λy3=>some (max 0 (w64 (y1-y3)))
def Avm(n0:Nat)(a0:Int)(z0:(List Aq)):Option (Ctl ((List Aq)) Unit):=
 (getI z0 a0).bind λy8=>(appI 9 y8.Am [cnt 0 n0]).bind λy10=>(setI z0 a0 ⟨y10,y8.Ae,y8.Ag⟩).bind λy12=>some (.next y12)
def Ax7(x0:Aa)(z1:Int×(List Aq)):Bool:=decide (z1.1<(x0.Ae.length:Int))
def Avl(x0:Aa)(x1:Ad)(y4:(List Int))(z1:Int×(List Aq)):Option (Ctl (Int×(List Aq)) Unit):=
 bif (Ax7 x0 z1)then (Aa1 x0 x1 z1.1).bind λy15=>bif y15.2 then (getI y4 y15.1).bind λy18=>(getI z1.2 y18).bind λy20=>(appI 9 y20.Ae [z1.1]).bind λy22=>(setI z1.2 y18 ⟨y20.Am,y22,y20.Ag⟩).bind λy24=>some (.next (w64 (z1.1+1),y24)) else some (.next (w64 (z1.1+1),z1.2)) else some (.brk (z1.1,z1.2))
def Ax6(x0:Aa)(z2:Int×(List Aq)):Bool:=decide (z2.1<(x0.Ag.length:Int))
def Avk(x0:Aa)(x1:Ad)(y4:(List Int))(z2:Int×(List Aq)):Option (Ctl (Int×(List Aq)) Unit):=
 bif (Ax6 x0 z2)then (Aa0 x0 x1 z2.1).bind λy27=>bif y27.2 then (getI y4 y27.1).bind λy30=>(getI z2.2 y30).bind λy32=>(appI 9 y32.Ag [z2.1]).bind λy34=>(setI z2.2 y30 ⟨y32.Am,y32.Ae,y34⟩).bind λy36=>some (.next (w64 (z2.1+1),y36)) else some (.next (w64 (z2.1+1),z2.2)) else some (.brk (z2.1,z2.2))
def Avn(x0:Aa)(x1:Ad):Option ((List Aq)):=
 (Jh x0 x1).bind λy1=>bif (y1 != 0)then some [] else (Ai7 x0 x1).bind λy4=>(mkI 73 x0.Am ⟨[],[],[]⟩).bind λy6=>andThen (foldI Avm y4 0 y6) (λ_=>none) λz0=>andThen (whileN (Avl x0 x1 y4) 1152921504606846976 (0,z0)) (λ_=>none) λz1=>andThen (whileN (Avk x0 x1 y4) 1152921504606846976 (0,z1.2)) (λ_=>none) λz2=>(Rt z2.2).bind λy38=>some y38
def Zh(y1:Int)(y3:Int)(y5:A_):Bool:=decide ((min y1 (w64 (y3-y5.Least)))>0)
def Adf(x0:A7)(x2:Int)(n0:Nat)(a0:Int)(z0:(List Int)×(List A0)):Option (Ctl ((List Int)×(List A0)) Unit):=
 (Wd ⟨x0.Ap,⟨x0.Aw.Ai,x0.Aw.Ae,z0.1,x0.Aw.Al⟩,z0.2⟩ x2).bind λy1=>(getI z0.1 a0).bind λy3=>(getI x0.Ap.Ag a0).bind λy5=>bif (Zh y1 y3 y5)then (setI z0.1 a0 (w64 (y3-(min y1 (w64 (y3-y5.Least)))))).bind λy8=>(getI y8 a0).bind λy10=>(appI 25 z0.2 [⟨5,a0,y10⟩]).bind λy12=>some (.next (y8,y12)) else some (.next (z0.1,z0.2))
def Wk(x0:A7)(x1:List Int)(x2:Int):Option A7:=
 andThen (foldI (Adf x0 x2) x1 0 (x0.Aw.Ao,x0.acts)) (λ_=>none) λz0=>some ⟨x0.Ap,⟨x0.Aw.Ai,x0.Aw.Ae,z0.1,x0.Aw.Al⟩,z0.2⟩
def Ail(x0:Ak)(x1:Int):Bool:=
 ((x0.Kind==3)&&(x0.B==x1))
def Adg(x0:A7)(x1c0:Int)(n0:Nat)(a0:Ak)(z0:(List Int)):Option (Ctl ((List Int)) Unit):=
 (getI x0.Aw.Ai (cnt 0 n0)).bind λy1=>bif (y1&&(Ail a0 x1c0))then (appI 9 z0 [cnt 0 n0]).bind λy4=>some (.next y4) else some (.next z0)
def Avf(n1:Nat)(a1:Int)(z1:Sg9):Option (Ctl (Sg9) Unit):=
 (Rl ⟨⟨z1.1,z1.2.1,z1.2.2.1,z1.2.2.2.1,z1.2.2.2.2.1,z1.2.2.2.2.2.1⟩,⟨z1.2.2.2.2.2.2.1,z1.2.2.2.2.2.2.2.1,z1.2.2.2.2.2.2.2.2.1,z1.2.2.2.2.2.2.2.2.2.1⟩,z1.2.2.2.2.2.2.2.2.2.2⟩ a1).bind λy6=>some (.next (y6.Ap.Am,y6.Ap.Ah,y6.Ap.Ae,y6.Ap.Ag,y6.Ap.Phase,y6.Ap.Ar,y6.Aw.Ai,y6.Aw.Ae,y6.Aw.Ao,y6.Aw.Al,y6.acts))
def uW(x0:A7)(x1c0:Int):Option (A7×Int):=
 andThen (foldI (Adg x0 x1c0) x0.Ap.Ah 0 []) (λ_=>none) λz0=>andThen (foldI Avf z0 0 (x0.Ap.Am,x0.Ap.Ah,x0.Ap.Ae,x0.Ap.Ag,x0.Ap.Phase,x0.Ap.Ar,x0.Aw.Ai,x0.Aw.Ae,x0.Aw.Ao,x0.Aw.Al,x0.acts)) (λ_=>none) λz1=>some (⟨⟨z1.1,z1.2.1,z1.2.2.1,z1.2.2.2.1,z1.2.2.2.2.1,z1.2.2.2.2.2.1⟩,⟨z1.2.2.2.2.2.2.1,z1.2.2.2.2.2.2.2.1,z1.2.2.2.2.2.2.2.2.1,z1.2.2.2.2.2.2.2.2.2.1⟩,z1.2.2.2.2.2.2.2.2.2.2⟩,x1c0)
def Ade(x2:Int)(n0:Nat)(a0:Int)(z0:Sg9):Option (Ctl (Sg9) Unit):=
 (getI z0.2.2.2.2.2.2.2.2.1 a0).bind λy1=>(Au [(decide (y1>0),true)] (Wd ⟨⟨z0.1,z0.2.1,z0.2.2.1,z0.2.2.2.1,z0.2.2.2.2.1,z0.2.2.2.2.2.1⟩,⟨z0.2.2.2.2.2.2.1,z0.2.2.2.2.2.2.2.1,z0.2.2.2.2.2.2.2.2.1,z0.2.2.2.2.2.2.2.2.2.1⟩,z0.2.2.2.2.2.2.2.2.2.2⟩ x2) default).bind λy3=>bif ((decide (y1>0))&&(decide (y3>0)))then (uW ⟨⟨z0.1,z0.2.1,z0.2.2.1,z0.2.2.2.1,z0.2.2.2.2.1,z0.2.2.2.2.2.1⟩,⟨z0.2.2.2.2.2.2.1,z0.2.2.2.2.2.2.2.1,z0.2.2.2.2.2.2.2.2.1,z0.2.2.2.2.2.2.2.2.2.1⟩,z0.2.2.2.2.2.2.2.2.2.2⟩ a0).bind λy6=>some (.next (y6.1.Ap.Am,y6.1.Ap.Ah,y6.1.Ap.Ae,y6.1.Ap.Ag,y6.1.Ap.Phase,y6.1.Ap.Ar,y6.1.Aw.Ai,y6.1.Aw.Ae,y6.1.Aw.Ao,y6.1.Aw.Al,y6.1.acts)) else some (.next (z0.1,z0.2.1,z0.2.2.1,z0.2.2.2.1,z0.2.2.2.2.1,z0.2.2.2.2.2.1,z0.2.2.2.2.2.2.1,z0.2.2.2.2.2.2.2.1,z0.2.2.2.2.2.2.2.2.1,z0.2.2.2.2.2.2.2.2.2.1,z0.2.2.2.2.2.2.2.2.2.2))
def Wj(x0:A7)(x1:List Int)(x2:Int):Option A7:=
 andThen (foldI (Ade x2) x1 0 (x0.Ap.Am,x0.Ap.Ah,x0.Ap.Ae,x0.Ap.Ag,x0.Ap.Phase,x0.Ap.Ar,x0.Aw.Ai,x0.Aw.Ae,x0.Aw.Ao,x0.Aw.Al,x0.acts)) (λ_=>none) λz0=>some ⟨⟨z0.1,z0.2.1,z0.2.2.1,z0.2.2.2.1,z0.2.2.2.2.1,z0.2.2.2.2.2.1⟩,⟨z0.2.2.2.2.2.2.1,z0.2.2.2.2.2.2.2.1,z0.2.2.2.2.2.2.2.2.1,z0.2.2.2.2.2.2.2.2.2.1⟩,z0.2.2.2.2.2.2.2.2.2.2⟩
def Adm(y1:(List Int))(n0:Nat)(a0:Aq)(z0:Sg9):Option (Ctl (Sg9) Unit):=
 (Qe y1).bind λy5=>(Wn y5 a0).bind λy7=>bif decide ((y7.2.Ae.length:Int)>0)then (getI y7.2.Am 0).bind λy10=>(Wk ⟨⟨z0.1,z0.2.1,z0.2.2.1,z0.2.2.2.1,z0.2.2.2.2.1,z0.2.2.2.2.2.1⟩,⟨z0.2.2.2.2.2.2.1,z0.2.2.2.2.2.2.2.1,z0.2.2.2.2.2.2.2.2.1,z0.2.2.2.2.2.2.2.2.2.1⟩,z0.2.2.2.2.2.2.2.2.2.2⟩ y7.1 y10).bind λy12=>(getI y7.2.Am 0).bind λy14=>(Wj y12 y7.1 y14).bind λy16=>some (.next (y16.Ap.Am,y16.Ap.Ah,y16.Ap.Ae,y16.Ap.Ag,y16.Ap.Phase,y16.Ap.Ar,y16.Aw.Ai,y16.Aw.Ae,y16.Aw.Ao,y16.Aw.Al,y16.acts)) else some (.next (z0.1,z0.2.1,z0.2.2.1,z0.2.2.2.1,z0.2.2.2.2.1,z0.2.2.2.2.2.1,z0.2.2.2.2.2.2.1,z0.2.2.2.2.2.2.2.1,z0.2.2.2.2.2.2.2.2.1,z0.2.2.2.2.2.2.2.2.2.1,z0.2.2.2.2.2.2.2.2.2.2))
def Ww(x0:A7):Option A7:=
 (Aan x0.Ap).bind λy1=>(Avn x0.Ap x0.Aw).bind λy3=>andThen (foldI (Adm y1) y3 0 (x0.Ap.Am,x0.Ap.Ah,x0.Ap.Ae,x0.Ap.Ag,x0.Ap.Phase,x0.Ap.Ar,x0.Aw.Ai,x0.Aw.Ae,x0.Aw.Ao,x0.Aw.Al,x0.acts)) (λ_=>none) λz0=>some ⟨⟨z0.1,z0.2.1,z0.2.2.1,z0.2.2.2.1,z0.2.2.2.2.1,z0.2.2.2.2.2.1⟩,⟨z0.2.2.2.2.2.2.1,z0.2.2.2.2.2.2.2.1,z0.2.2.2.2.2.2.2.2.1,z0.2.2.2.2.2.2.2.2.2.1⟩,z0.2.2.2.2.2.2.2.2.2.2⟩
def Aiy(x0:A7):Option A7:=
 (vH x0).bind λy1=>(Ww y1).bind λy3=>some y3
def Aiz(x0:Aa)(x1:Ad):Option (Ad×(List A0)×Int):=
 (Jh x0 x1).bind λy1=>bif (y1 != 0)then some (⟨[],[],[],[]⟩,[],y1) else (Nb x1).bind λy4=>(Aiy ⟨x0,y4,[]⟩).bind λy6=>some (y6.Aw,y6.acts,0)
def Aql(x0:Aa)(x1:Ad):Option (Ad×(List A0)×Int):=
 (Aiz x0 x1).bind λy1=>some (y1.1,y1.2.1,y1.2.2)
def Adt(x1:A0)(y1:Ad×Int):Option (Ctl Int Unit):=
 bif (x1.Kind==7)then some (.next 1) else some (.next y1.2)
def Adu(y1:Ad×Int)(n1:Nat)(a1:A0)(z1:Int×Int×(List Ak)×(List B9)×(List A_)×Int×Int×(List Bool)×(List Aj)×(List Int)×(List Ab)×(List Bb)×(List B1)×(List Bool)×(List B1)×(List Ad)×(List Int)):Option (Ctl (Int×Int×(List Ak)×(List B9)×(List A_)×Int×Int×(List Bool)×(List Aj)×(List Int)×(List Ab)×(List Bb)×(List B1)×(List Bool)×(List B1)×(List Ad)×(List Int)) Unit):=
 (Wy ⟨⟨z1.1,⟨z1.2.2.2.2.2.2.2.1,z1.2.2.2.2.2.2.2.2.1,z1.2.2.2.2.2.2.2.2.2.1,z1.2.2.2.2.2.2.2.2.2.2.1⟩,z1.2.2.2.2.2.2.2.2.2.2.2.1,z1.2.2.2.2.2.2.2.2.2.2.2.2.1⟩,⟨z1.2.1,z1.2.2.1,z1.2.2.2.1,z1.2.2.2.2.1,z1.2.2.2.2.2.1,z1.2.2.2.2.2.2.1⟩,z1.2.2.2.2.2.2.2.2.2.2.2.2.2.2.1,z1.2.2.2.2.2.2.2.2.2.2.2.2.2.2.2.1⟩ a1 0).bind λy11=>bif (a1.Kind==2)then (getI z1.2.2.2.2.2.2.2.2.2.2.2.2.2.1 a1.Unit).bind λy14=>(setI z1.2.2.2.2.2.2.2.2.2.2.2.2.2.1 a1.Unit false).bind λy16=>(Oy y11 ⟨y16,y1.1.Ae,z1.2.2.2.2.2.2.2.2.2.2.2.2.2.2.2.2,y1.1.Al⟩).bind λy18=>some (.next (y18.Bq.Time,y18.Ap.Am,y18.Ap.Ah,y18.Ap.Ae,y18.Ap.Ag,y18.Ap.Phase,y18.Ap.Ar,y18.Bq.Power.Ai,y18.Bq.Power.Ae,y18.Bq.Power.Ao,y18.Bq.Power.Al,y18.Bq.Be,y18.Bq.Bm,y16,y18.events,y18.states,z1.2.2.2.2.2.2.2.2.2.2.2.2.2.2.2.2)) else (getI z1.2.2.2.2.2.2.2.2.2.2.2.2.2.2.2.2 a1.Unit).bind λy20=>(setI z1.2.2.2.2.2.2.2.2.2.2.2.2.2.2.2.2 a1.Unit a1.Value).bind λy22=>(Oy y11 ⟨z1.2.2.2.2.2.2.2.2.2.2.2.2.2.1,y1.1.Ae,y22,y1.1.Al⟩).bind λy24=>some (.next (y24.Bq.Time,y24.Ap.Am,y24.Ap.Ah,y24.Ap.Ae,y24.Ap.Ag,y24.Ap.Phase,y24.Ap.Ar,y24.Bq.Power.Ai,y24.Bq.Power.Ae,y24.Bq.Power.Ao,y24.Bq.Power.Al,y24.Bq.Be,y24.Bq.Bm,z1.2.2.2.2.2.2.2.2.2.2.2.2.2.1,y24.events,y24.states,y22))
def vU(x0:Co)(x1:A0):Option Co:=
 (Aba x0.Ap x0.Bq.Power x0.Bq.Time x1).bind λy1=>andThen (Adt x1 y1) (λ_=>none) λz0=>(Wy x0 x1 z0).bind λy4=>bif (z0 != 0)then some y4 else (Oy y4 y1.1).bind λy7=>(Aql y7.Ap y1.1).bind λy9=>andThen (foldI (Adu y1) y9.2.1 0 (y7.Bq.Time,y7.Ap.Am,y7.Ap.Ah,y7.Ap.Ae,y7.Ap.Ag,y7.Ap.Phase,y7.Ap.Ar,y7.Bq.Power.Ai,y7.Bq.Power.Ae,y7.Bq.Power.Ao,y7.Bq.Power.Al,y7.Bq.Be,y7.Bq.Bm,y1.1.Ai,y7.events,y7.states,y1.1.Ao)) (λ_=>none) λz1=>(F99 ⟨z1.2.2.2.2.2.2.2.2.2.2.2.2.2.1,y1.1.Ae,z1.2.2.2.2.2.2.2.2.2.2.2.2.2.2.2.2,y1.1.Al⟩ y9.1).bind λy26=>bif !y26 then (Oy ⟨⟨z1.1,⟨z1.2.2.2.2.2.2.2.1,z1.2.2.2.2.2.2.2.2.1,z1.2.2.2.2.2.2.2.2.2.1,z1.2.2.2.2.2.2.2.2.2.2.1⟩,z1.2.2.2.2.2.2.2.2.2.2.2.1,z1.2.2.2.2.2.2.2.2.2.2.2.2.1⟩,⟨z1.2.1,z1.2.2.1,z1.2.2.2.1,z1.2.2.2.2.1,z1.2.2.2.2.2.1,z1.2.2.2.2.2.2.1⟩,z1.2.2.2.2.2.2.2.2.2.2.2.2.2.2.1,z1.2.2.2.2.2.2.2.2.2.2.2.2.2.2.2.1⟩ y9.1).bind λy29=>some ⟨⟨y29.Bq.Time,y9.1,y29.Bq.Be,y29.Bq.Bm⟩,y29.Ap,y29.events,y29.states⟩ else some ⟨⟨z1.1,y9.1,z1.2.2.2.2.2.2.2.2.2.2.2.1,z1.2.2.2.2.2.2.2.2.2.2.2.2.1⟩,⟨z1.2.1,z1.2.2.1,z1.2.2.2.1,z1.2.2.2.2.1,z1.2.2.2.2.2.1,z1.2.2.2.2.2.2.1⟩,z1.2.2.2.2.2.2.2.2.2.2.2.2.2.2.1,z1.2.2.2.2.2.2.2.2.2.2.2.2.2.2.2.1⟩
def F54(x0:Aa)(x1:As)(x2:A0):Option (As×(List Ad)×Int):=
 (Jh x0 x1.Power).bind λy1=>bif (y1 != 0)then some (⟨0,⟨[],[],[],[]⟩,[],[]⟩,[],y1) else (Aqu x0 x1).bind λy4=>(vU y4 x2).bind λy6=>(appI 41 y6.Bq.Bm y6.events).bind λy8=>some (⟨y6.Bq.Time,y6.Bq.Power,y6.Bq.Be,y8⟩,y6.states,0)
def Dt(x0:Int)(x1:Int)(x2:Int):Bool:=
 ((decide (x0>=x1))&&(decide (x0<=x2)))
def Tx(x0:Int):Bool:=
 ((decide (x0>=0))&&(decide (x0<3600)))
def Apy(x0:Bu):Int:=
 C6 (w64 (x0.To-x0.From))
def P_(x0:Bu):Bool:=
 (((Tx x0.From)&&(Tx x0.To))&&(decide ((Apy x0)<1800)))
def Ap5(x0:Bu):Bool:=
 !(P_ x0)
def Add(n0:Nat)(a0:Bu)(z0:Unit):Option (Ctl Unit Int):=
 bif Ap5 a0 then some (.ret (cnt 0 n0)) else some (.next ())
def Aip(x0:List Bu):Option Int:=
 andThen (foldI Add x0 0 ()) some λz0=>some (-1)
def vG(x0:List Bu):Option Bool:=
 (Aip x0).bind λy1=>some (decide (y1>=0))
def Qc(x0:An):Option Bool:=
 (Au [(((((((Dt x0.Kind 1 3)&&(Dt x0.Station 0 1))&&(Dt x0.Max 0 5000))&&(Dt x0.Rate 0 5000))&&(Dt x0.Cost 1 100))&&(decide ((x0.B5.length:Int)<=4))),true)] (vG x0.B5) default).bind λy1=>some (((((((Dt x0.Kind 1 3)&&(Dt x0.Station 0 1))&&(Dt x0.Max 0 5000))&&(Dt x0.Rate 0 5000))&&(Dt x0.Cost 1 100))&&(decide ((x0.B5.length:Int)<=4)))&&(!y1))
def Azb(x0:An):Option Bool:=
 (Qc x0).bind λy1=>some (!y1)
def Adl(n0:Nat)(a0:An)(z0:Unit):Option (Ctl Unit Int):=
 (Azb a0).bind λy1=>bif y1 then some (.ret (cnt 0 n0)) else some (.next ())
def Aix(x0:List An):Option Int:=
 andThen (foldI Adl x0 0 ()) some λz0=>some (-1)
def vL(x0:List An):Option Bool:=
 (Aix x0).bind λy1=>some (decide (y1>=0))
def Ahk(x0:A3):Bool:=(((decide ((min x0.Bow x0.Stern)<0)) || (decide ((max x0.Bow x0.Stern)>200))) || ((x0.Bow==0)&&(x0.Stern==0)))
def Qf(x0:A3):Option Int:=
 bif decide ((x0.Av.length:Int)>8)then some 2 else bif (Ahk x0)then some 1 else (vL x0.Av).bind λy3=>bif y3 then some 14 else some 0
def Ajm(x0:A_)(x1:Int):Bool:=
 (x0.Thruster==x1)
def Xf(x1c0:Int)(n0:Nat)(a0:A_)(z0:Unit):Option (Ctl Unit (Int×Int)):=
 bif Ajm a0 x1c0 then some (.ret (cnt 0 n0,x1c0)) else some (.next ())
def vT(x0:List A_)(x1c0:Int):Option (Int×Int):=
 andThen (foldI (Xf x1c0) x0 0 ()) some λz0=>some ((-1),x1c0)
def Ajb(rec116:Aa->Ad->Int->Option Bool)(x0:Int)(x1:Aa)(x2:Ad):Option Bool:=
 (rec116 x1 x2 x0).bind λy1=>some (!y1)
def Wu(x1c0:Aa)(x1c1:Ad)(rec116:Aa->Ad->Int->Option Bool)(n0:Nat)(a0:Int)(z0:Unit):Option (Ctl Unit (Int×Aa×Ad)):=
 (Ajb rec116 a0 x1c0 x1c1).bind λy1=>bif y1 then some (.ret (cnt 0 n0,x1c0,x1c1)) else some (.next ())
def Aiv(rec116:Aa->Ad->Int->Option Bool)(x0:List Int)(x1c0:Aa)(x1c1:Ad):Option (Int×Aa×Ad):=
 andThen (foldI (Wu x1c0 x1c1 rec116) x0 0 ()) some λz0=>some ((-1),x1c0,x1c1)
def vK(rec116:Aa->Ad->Int->Option Bool)(x0:List Int)(x1c0:Aa)(x1c1:Ad):Option (Bool×Aa×Ad):=
 (Aiv rec116 x0 x1c0 x1c1).bind λy1=>some (decide (y1.1>=0),y1.2.1,y1.2.2)
def Q8(y1:Int×Bool)(y3:Bool)(y5:Bool)(y7:Int)(y9:A_):Bool:=((((!y1.2) || (!y3)) || y5) || (decide (y7<y9.Least)))
def vS(rec116:Aa->Ad->Int->Option Bool)(x0:Aa)(x1:Ad)(x2:Int):Option Bool:=
 (Ajd x0 x1 x2).bind λy1=>(Au [(!y1.2,false)] (Ajc x0 x1 y1.1) default).bind λy3=>(Au [(((!y1.2) || (!y3)),false)] (Na x1 4 x2) default).bind λy5=>(Au [((((!y1.2) || (!y3)) || y5),false)] (getI x1.Ao x2) default).bind λy7=>(Au [((((!y1.2) || (!y3)) || y5),false)] (getI x0.Ag x2) default).bind λy9=>bif (Q8 y1 y3 y5 y7 y9)then some false else (getI x0.Ag x2).bind λy12=>(vK rec116 y12.Needs x0 x1).bind λy14=>some (!y14.1)
def vR:Nat->Aa->Ad->Int->Option Bool
 |0=>λ_ _ _=>none
 |n+1=>vS (vR n)
def Azg(x0:Aa)(x1:Ad)(x2:Int):Option Bool:=vR 1000 x0 x1 x2
def Ty(x0:A6):Bool:=
 ((decide ((max x0.X x0.Y)<=5000))&&(decide ((min x0.X x0.Y)>=(-5000))))
def M9(x0:Int)(x1:Int):Option Int:=
 (nzI x1).bind λu2=>(nzI x1).bind λu4=>bif decide ((Int.tmod x0 x1)<0)then some (w64 ((w64 (Int.tdiv x0 x1))-1)) else some (w64 (Int.tdiv x0 x1))
def Ay6(x0:Int)(x1:Int):Option Int:=
 (M9 (w64 (0-x0)) x1).bind λy1=>some (w64 (0-y1))
def Zg(x0:Int)(x1:Int):Bool:=((((decide (x0<(-1000000000000000000))) || (decide (x0>1000000000000000000))) || (decide (x1<1))) || (decide (x1>1000000000)))
def Aio(x0:Int)(x1:Int):Option (Int×Int):=
 bif (Zg x0 x1)then some (0,1) else (Ay6 x0 x1).bind λy2=>some (y2,0)
def Ap4(x0:Int)(x1:Int):Option (Int×Int):=
 (Aio x0 x1).bind λy1=>some (y1.1,y1.2)
def Aqk(x0:An)(x1:A6):Option (Int×Int):=
 (Qc x0).bind λy1=>bif ((!y1) || (!(Ty x1)))then some (0,1) else (Ap4 (w64 ((w64 ((w64 (x1.X*x1.X))+(w64 (x1.Y*x1.Y))))*x0.Cost)) 1000).bind λy4=>some (y4.1,y4.2)
def At9(x0:Int):Bool:=((decide (x0<0)) || (decide (x0>1000000000000000000)))
def At8(x0:Int)(z0:Int×Int):Bool:=decide ((w64 ((w64 (Int.tdiv (w64 ((w64 (z0.1+z0.2))+1)) 2))*(w64 (Int.tdiv (w64 ((w64 (z0.1+z0.2))+1)) 2))))<=x0)
def Amt(x0:Int)(z0:Int×Int):Option (Ctl (Int×Int) Unit):=
 bif decide (z0.1<z0.2)then bif (At8 x0 z0)then some (.next (w64 (Int.tdiv (w64 ((w64 (z0.1+z0.2))+1)) 2),z0.2)) else some (.next (z0.1,w64 ((w64 (Int.tdiv (w64 ((w64 (z0.1+z0.2))+1)) 2))-1))) else some (.brk (z0.1,z0.2))
def Aqj(x0:Int):Option (Int×Int):=
 bif (At9 x0)then some (0,1) else andThen (whileN (Amt x0) 1152921504606846976 (0,1000000000)) (λ_=>none) λz0=>some (z0.1,0)
def Aqt(x0:An)(x1:Int):Option Int:=
 (Aqk x0 ⟨x0.Max,0⟩).bind λy1=>bif ((y1.2 != 0) || (decide (x1<0)))then some 0 else bif decide (x1>=y1.1)then some x0.Max else (nzI x0.Cost).bind λu6=>(Aqj (w64 (Int.tdiv (w64 (1000*x1)) x0.Cost))).bind λy7=>some y7.1
def Avb(x1:Aa)(x2:Ad)(n0:Nat)(a0:An)(z0:(List Int)):Option (Ctl ((List Int)) Unit):=
 (vT x1.Ag (cnt 0 n0)).bind λy9=>(Au [(decide (y9.1>=0),true)] (Azg x1 x2 y9.1) default).bind λy11=>bif ((decide (y9.1>=0))&&y11)then (getI x2.Ao y9.1).bind λy14=>(Aqt a0 y14).bind λy16=>(getI z0 y9.2).bind λy18=>(setI z0 y9.2 y16).bind λy20=>some (.next y20) else some (.next z0)
def F55(x0:A3)(x1:Aa)(x2:Ad):Option ((List Int)×Int):=
 (Qf x0).bind λy1=>bif (y1 != 0)then some ([],y1) else (Jh x1 x2).bind λy4=>bif (y4 != 0)then some ([],y4) else (mkI 9 (x0.Av.length:Int) 0).bind λy7=>andThen (foldI (Avb x1 x2) x0.Av 0 y7) (λ_=>none) λz0=>some (z0,0)
def F56(x0:As):Option As:=
 (Abt x0.Be).bind λy1=>(Abs x0.Bm).bind λy3=>(Abr x0.Power.Ai).bind λy5=>(Abq x0.Power.Ae).bind λy7=>(Qe x0.Power.Ao).bind λy9=>(T5 x0.Power.Al).bind λy11=>some ⟨x0.Time,⟨y5,y7,y9,y11⟩,y1,y3⟩
def Ao7(z0:(List Int))(a0:Int):Bool:=((decide (a0>=0))&&(decide (a0<(z0.length:Int))))
def Ava(n0:Nat)(a0:Int)(z0:(List Int)):Option (Ctl ((List Int)) Unit):=
 bif (Ao7 z0 a0)then (getI z0 a0).bind λy4=>(setI z0 a0 0).bind λy6=>some (.next y6) else some (.next z0)
def F57(x0:List Int)(x1:List Int):Option ((List Int)):=
 (Qe x0).bind λy1=>andThen (foldI Ava x1 0 y1) (λ_=>none) λz0=>some z0
def Avo(z0:Sg0)(a0:Ab):Option (Ctl ((List Int)) Unit):=
 bif (a0.Kind==5)then (appI 9 z0.1 [a0.Number]).bind λy12=>some (.next y12) else some (.next z0.1)
def Avp(x0:Ba)(x1:As)(n0:Nat)(a0:Ab)(z0:Sg0):Option (Ctl (Sg0) (As×(List Int)×Int)):=
 andThen (Avo z0 a0) (λ_=>none) λz1=>(Au [(decide (a0.Kind>4),false)] (F53 x1.Power.Al a0) default).bind λy14=>bif ((decide (a0.Kind>4)) || y14)then some (.next (z1,z0.2.1,z0.2.2.1,z0.2.2.2.1,z0.2.2.2.2.1,z0.2.2.2.2.2.1,z0.2.2.2.2.2.2.1,z0.2.2.2.2.2.2.2)) else (F54 x0.Board ⟨z0.2.1,⟨z0.2.2.1,z0.2.2.2.1,z0.2.2.2.2.1,z0.2.2.2.2.2.1⟩,z0.2.2.2.2.2.2.1,z0.2.2.2.2.2.2.2⟩ ⟨8,a0.Number,a0.Kind⟩).bind λy17=>bif (y17.2.2 != 0)then some (.ret (⟨0,⟨[],[],[],[]⟩,[],[]⟩,[],y17.2.2)) else some (.next (z1,y17.1.Time,y17.1.Power.Ai,y17.1.Power.Ae,y17.1.Power.Ao,y17.1.Power.Al,y17.1.Be,y17.1.Bm))
def F14(x0:Ba)(x1:As)(x2:List Ab)(x3:List Ab):Option (As×(List Int)×Int):=
 (F49 x0.Board x0.Table x1).bind λy1=>bif (y1 != 0)then some (⟨0,⟨[],[],[],[]⟩,[],[]⟩,[],y1) else (F50 x0.Design).bind λy4=>bif (y4 != 0)then some (⟨0,⟨[],[],[],[]⟩,[],[]⟩,[],y4) else (F52 [x2,x1.Power.Al,x3]).bind λy7=>(F51 x0.Design y7).bind λy9=>andThen (foldI (Avp x0 x1) y9 0 ([],x1.Time,x1.Power.Ai,x1.Power.Ae,x1.Power.Ao,x1.Power.Al,x1.Be,x1.Bm)) some λz0=>(F55 x0.Ship x0.Board ⟨z0.2.2.1,z0.2.2.2.1,z0.2.2.2.2.1,z0.2.2.2.2.2.1⟩).bind λy20=>bif (y20.2 != 0)then some (⟨0,⟨[],[],[],[]⟩,[],[]⟩,[],y20.2) else (F56 ⟨z0.2.1,⟨z0.2.2.1,z0.2.2.2.1,z0.2.2.2.2.1,z0.2.2.2.2.2.1⟩,z0.2.2.2.2.2.2.1,z0.2.2.2.2.2.2.2⟩).bind λy23=>(F57 y20.1 z0.1).bind λy25=>some (y23,y25,0)
def Ahj(y3:Ab)(y5:Ab):Bool:=((y3.Kind==y5.Kind)&&((y3.Number==y5.Number)&&true))
def Ads(x0:List Ab)(z0:Int):Option (Ctl Int Unit):=
 bif decide (z0<(x0.length:Int))then (getI x0 z0).bind λy3=>(getI x0 (w64 (z0-1))).bind λy5=>bif (Ahj y3 y5)then none else some (.next (w64 (z0+1))) else some (.brk z0)
def Rv(x0:List Ab):Option ((List Ab)):=
 bif decide ((x0.length:Int)<2)then some x0 else andThen (whileN (Ads x0) 1152921504606846976 1) (λ_=>none) λz0=>some x0
def F68(x0:List Ab)(x1:List Ab):Option (List Ab):=Aej Rv x0 x1
def F21(x0:Bf)(x1:As)(x2:List Ab):Option ((List Ab)):=
 (F68 x2 x1.Power.Al).bind λy1=>(F51 x0 y1).bind λy3=>some y3
def Agz(x0:Int)(a0:Int):Bool:=((decide (a0<(w64 (0-x0)))) || (decide (a0>x0)))
def Aad(x0:Int)(n0:Nat)(a0:Int)(z0:Unit):Option (Ctl Unit Bool):=
 bif (Agz x0 a0)then some (.ret false) else some (.next ())
def Aps(x0:Int)(x1:List Int):Option Bool:=
 andThen (foldI (Aad x0) x1 0 ()) some λz0=>some true
def Ain(x0:A4):Option Bool:=
 (Aps 1000000 [x0.Surge,x0.Sway,x0.Yaw]).bind λy1=>some y1
def Zu(x0:Int):Int:=
 w64 (0-x0)
def uS(x0:A4):A4:=
 ⟨Zu x0.Surge,Zu x0.Sway,Zu x0.Yaw⟩
def V_(x0:Int)(x1:Int)(x2:Int):Bool:=
 ((decide (x0<x1)) || (decide (x0>x2)))
def Wt(x1c0:Int)(x1c1:Int)(n0:Nat)(a0:Int)(z0:Unit):Option (Ctl Unit (Int×Int×Int)):=
 bif V_ a0 x1c0 x1c1 then some (.ret (cnt 0 n0,x1c0,x1c1)) else some (.next ())
def vF(x0:List Int)(x1c0:Int)(x1c1:Int):Option (Int×Int×Int):=
 andThen (foldI (Wt x1c0 x1c1) x0 0 ()) some λz0=>some ((-1),x1c0,x1c1)
def vJ(x0:List Int)(x1c0:Int)(x1c1:Int):Option (Bool×Int×Int):=
 (vF x0 x1c0 x1c1).bind λy1=>some (decide (y1.1>=0),y1.2.1,y1.2.2)
def M8(x0:List Int)(x1:Int)(x2:Int):Option Bool:=
 (vJ x0 x1 x2).bind λy1=>some (!y1.1)
def Aig(x0:Int)(x1:Int):Option Int:=
 (M9 (w64 ((w64 (2*x0))+x1)) (w64 (2*x1))).bind λy1=>some y1
def Lo(x0:Int)(x1:Int):Bool:=((((decide (x0<(-1000000000000000000))) || (decide (x0>1000000000000000000))) || (decide (x1<1))) || (decide (x1>1000000000)))
def Wh(x0:Int)(x1:Int):Option (Int×Int):=
 bif (Lo x0 x1)then some (0,1) else (Aig x0 x1).bind λy2=>some (y2,0)
def M7(x0:Int)(x1:Int):Option (Int×Int):=
 (Wh x0 x1).bind λy1=>some (y1.1,y1.2)
def Aal(x0:A3)(x1:A4):Option (Bc×Int):=
 (Qf x0).bind λy1=>bif (y1 != 0)then (Qf x0).bind λy4=>some (⟨0,0,0⟩,y4) else (M8 [x1.Surge,x1.Sway] (-5000) 5000).bind λy6=>(Au [(!y6,false)] (M8 [x1.Yaw] (-500000) 500000) default).bind λy8=>bif ((!y6) || (!y8))then some (⟨0,0,0⟩,1) else (M7 (w64 (x1.Yaw+(w64 (x1.Sway*x0.Stern)))) (w64 (x0.Bow+x0.Stern))).bind λy11=>(M8 [y11.1,w64 (x1.Sway-y11.1)] (-500000) 500000).bind λy13=>bif !y13 then some (⟨0,0,0⟩,1) else some (⟨x1.Surge,y11.1,w64 (x1.Sway-y11.1)⟩,0)
def Aay(x0:A3)(x1:A4):Option (Bc×Int):=
 (Ain x1).bind λy1=>bif !y1 then some (⟨0,0,0⟩,1) else (Aal x0 (uS x1)).bind λy4=>some (y4.1,y4.2)
def Apl(x0:List Bu):Option (List Bu):=appI 17 [] x0
def Apn(x0:An)(x1:Int):Option An:=
 (Apl x0.B5).bind λy1=>some ⟨x0.Kind,x0.Station,min x0.Max (max x1 0),x0.Rate,x0.Cost,y1⟩
def Zf(x0:A3)(x1:List Int)(x2:List A6)(x3:List Int):Bool:=((((x1.length:Int) != (x0.Av.length:Int)) || ((decide ((x2.length:Int)>0))&&((x2.length:Int) != (x0.Av.length:Int)))) || ((x3.length:Int) != (x0.Av.length:Int)))
def Wc(x1:List Int)(n0:Nat)(a0:An)(z0:(List An)):Option (Ctl ((List An)) Unit):=
 (getI x1 (cnt 0 n0)).bind λy16=>(Apn a0 y16).bind λy18=>(appI 65 z0 [y18]).bind λy20=>some (.next y20)
def Adb(n1:Nat)(a1:A6)(z1:Unit):Option (Ctl Unit (B0×Int)):=
 (M8 [a1.X,a1.Y] (-5000) 5000).bind λy22=>bif !y22 then some (.ret (⟨[],[]⟩,1)) else some (.next ())
def Rj(x0:A3)(x1:List Int)(x2:List A6)(x3:List Int):Option (B0×Int):=
 (Qf x0).bind λy1=>bif (y1 != 0)then (Qf x0).bind λy4=>some (⟨[],[]⟩,y4) else bif (Zf x0 x1 x2 x3)then some (⟨[],[]⟩,8) else (M8 x1 0 5000).bind λy7=>(Au [(!y7,false)] (M8 x3 (-5000) 5000) default).bind λy9=>bif ((!y7) || (!y9))then some (⟨[],[]⟩,1) else andThen (foldI (Wc x1) x0.Av 0 []) (λ_=>none) λz0=>andThen (foldI Adb x2 0 ()) some λz1=>some (⟨z0,x2⟩,0)
def Aak(x0:A3)(x1:List Int)(x2:List A6)(x3:Bc):Option (B0×Int):=
 (mkI 9 (x0.Av.length:Int) 0).bind λy1=>(Rj x0 x1 x2 y1).bind λy3=>(Au [((y3.2==0),true)] (M8 [x3.Surge,x3.Bow,x3.Stern] (-500000) 500000) default).bind λy5=>bif ((y3.2==0)&&(!y5))then some (y3.1,1) else some (y3.1,y3.2)
def V7(x0:Int)(x1:Int):Bool:=
 ((decide ((max x0 x1)<=1000000000))&&(decide ((min x0 x1)>=(-1000000000))))
def zW(x0:Int):Option (Ctl (Int×Int) Unit):=
 bif decide ((C6 x0)>1800)then some (.next (w64 ((C6 x0)-1800),(-1))) else some (.next (C6 x0,1))
def V6(x0:Int):Option Int:=
 andThen (zW x0) (λ_=>none) λz0=>(M7 (w64 (40000*(w64 (z0.1*(w64 (1800-z0.1)))))) (w64 (4050000-(w64 (z0.1*(w64 (1800-z0.1))))))).bind λy2=>some (w64 (z0.2*y2.1))
def Zp(x0:Int):Option Int:=
 (V6 (w64 ((C6 x0)+900))).bind λy1=>some y1
def Zq(x0:Int)(x1:Int)(x2:Int):Option Int:=
 bif !(V7 x1 x2)then some 0 else (Zp x0).bind λy2=>(V6 x0).bind λy4=>some (w64 ((w64 (y2*x2))-(w64 (y4*x1))))
def Q6(x0:Bu)(x1:Int)(x2:Int):Bool:=(((!(P_ x0)) || ((x1==0)&&(x2==0))) || (!(V7 x1 x2)))
def P8(x0:Bu)(x1:Int)(x2:Int):Option Bool:=
 bif (Q6 x0 x1 x2)then some false else (Zq x0.From x1 x2).bind λy2=>(Au [(decide (y2>0),false)] (Zp x0.From) default).bind λy4=>(Au [(decide (y2>0),false)] (V6 x0.From) default).bind λy6=>(Au [(decide (y2>=0),true)] (Zq x0.To x1 x2) default).bind λy8=>some (((decide (y2>=0))&&(decide (y8<=0)))&&((decide (y2>0)) || (decide ((w64 ((w64 (y4*x1))+(w64 (y6*x2))))>0))))
def uM(x0:Bu)(x1:Int)(x2:Int):Option Bool:=
 (P8 x0 x1 x2).bind λy1=>some y1
def Wi(x1c0:Int)(x1c1:Int)(n0:Nat)(a0:Bu)(z0:Unit):Option (Ctl Unit (Int×Int×Int)):=
 (uM a0 x1c0 x1c1).bind λy1=>bif y1 then some (.ret (cnt 0 n0,x1c0,x1c1)) else some (.next ())
def uT(x0:List Bu)(x1c0:Int)(x1c1:Int):Option (Int×Int×Int):=
 andThen (foldI (Wi x1c0 x1c1) x0 0 ()) some λz0=>some ((-1),x1c0,x1c1)
def Rs(x0:List Bu)(x1c0:Int)(x1c1:Int):Option (Bool×Int×Int):=
 (uT x0 x1c0 x1c1).bind λy1=>some (decide (y1.1>=0),y1.2.1,y1.2.2)
def Q7(x0:An)(x1:Int)(x2:Int):Bool:=(((((decide ((max x1 x2)>x0.Max)) || (decide ((min x1 x2)<(w64 (0-x0.Max))))) || (decide ((w64 ((w64 (x1*x1))+(w64 (x2*x2))))>(w64 (x0.Max*x0.Max))))) || ((x0.Kind==1)&&(x1 != 0))) || ((x0.Kind==2)&&(x2 != 0)))
def P9(x0:An)(x1:Int)(x2:Int):Option Bool:=
 bif (Q7 x0 x1 x2)then some false else (Rs x0.B5 x1 x2).bind λy2=>some (!y2.1)
def K_(x0:Int)(x1:An):Option Bool:=
 (P9 x1 0 x0).bind λy1=>some y1
def Ms(x0c0:An)(z0:Int):Option (Ctl Int Unit):=
 (K_ (w64 (z0-1)) x0c0).bind λy6=>bif y6 then some (.next (w64 (z0-1))) else some (.brk z0)
def Mr(x0c0:An)(z1:Int):Option (Ctl Int Unit):=
 (K_ (w64 (z1+1)) x0c0).bind λy11=>bif y11 then some (.next (w64 (z1+1))) else some (.brk z1)
def uP(x0c0:An):Option (Int×Int×An):=
 (K_ 0 x0c0).bind λy1=>bif !y1 then some (0,0,x0c0) else andThen (whileN (Ms x0c0) 1152921504606846976 0) (λ_=>none) λz0=>andThen (whileN (Mr x0c0) 1152921504606846976 0) (λ_=>none) λz1=>some (z0,z1,x0c0)
def Tt(x0:An):Option (Int×Int):=
 (Qc x0).bind λy1=>bif !y1 then some (0,0) else (uP x0).bind λy4=>some (y4.1,y4.2.1)
def Aaa(x0:A6):Int:=
 x0.Y
def Ati(x0:Int)(x1:Int)(x2:Int)(x3:Int):Bool:=((((decide ((max (max (max x0 x1) x2) x3)>1000000000)) || (decide ((min (min x0 x1) x2)<(-1000000000)))) || (decide (x0>x1))) || (decide (x3<0)))
def Agx(x0:Int)(x1:Int)(x2:Int)(x3:Int):Bool:=decide ((max x0 (w64 (x2-x3)))<=(min x1 (w64 (x2+x3))))
def M6(x0:Int)(x1:Int)(x2:Int)(x3:Int):Int×Int:=
 bif (Ati x0 x1 x2 x3)then (x0,x1) else bif (Agx x0 x1 x2 x3)then (max x0 (w64 (x2-x3)),min x1 (w64 (x2+x3))) else bif decide (x2<x0)then (x0,x0) else (x1,x1)
def Wb(x0:B0)(x1:Int)(x2:Int)(x3:Int):Option Ay:=
 (getI x0.thrusters x1).bind λy1=>bif decide ((x0.last.length:Int)>0)then (getI x0.last x1).bind λy4=>some ⟨(M6 x2 x3 (Aaa y4) y1.Rate).1,(M6 x2 x3 (Aaa y4) y1.Rate).2,y1.Cost⟩ else some ⟨x2,x3,y1.Cost⟩
def Aai(x0:B0)(x1:Int)(n0:Nat)(a0:An)(z0:(List Ay)):Option (Ctl ((List Ay)) Unit):=
 bif (a0.Station != x1)then (appI 25 z0 [⟨0,0,a0.Cost⟩]).bind λy2=>some (.next y2) else (Tt a0).bind λy4=>(Wb x0 (cnt 0 n0) y4.1 y4.2).bind λy6=>(appI 25 z0 [y6]).bind λy8=>some (.next y8)
def Zt(x0:B0)(x1:Int):Option ((List Ay)):=
 andThen (foldI (Aai x0 x1) x0.thrusters 0 []) (λ_=>none) λz0=>some z0
def Atj(a0:Ay):Bool:=(((((decide (a0.Low<(-5000))) || (decide (a0.Low>a0.High))) || (decide (a0.High>5000))) || (decide (a0.Cost<1))) || (decide (a0.Cost>100)))
def Aly(n0:Nat)(a0:Ay)(z0:Unit):Option (Ctl Unit Int):=
 bif (Atj a0)then some (.ret 1) else some (.next ())
def Apm(x0:List Ay):Option Int:=
 bif decide ((x0.length:Int)>8)then some 2 else andThen (foldI Aly x0 0 ()) some λz0=>some 0
def Al0(n0:Nat)(a0:Ay)(z0:Int×Int):Option (Ctl (Int×Int) Unit):=
 some (.next (w64 (z0.1+a0.Low),w64 (z0.2+a0.High)))
def Aac(x0:List Ay):Option (Int×Int×Int):=
 (Apm x0).bind λy1=>bif (y1 != 0)then some (0,0,y1) else andThen (foldI Al0 x0 0 (0,0)) (λ_=>none) λz0=>some (z0.1,z0.2,0)
def Ga(x0:Int)(x1:Int)(x2:Int):Int:=
 max x1 (min x0 x2)
def Oo(x0:Int)(x1:Int):Bool:=((((decide (x0<(-1000000000000000000))) || (decide (x0>1000000000000000000))) || (decide (x1<1))) || (decide (x1>1000000000)))
def Wg(x0:Int)(x1:Int):Option (Int×Int):=
 bif (Oo x0 x1)then some (0,1) else (M9 x0 x1).bind λy2=>some (y2,0)
def Tu(x0:Int)(x1:Int):Option (Int×Int):=
 (Wg x0 x1).bind λy1=>some (y1.1,y1.2)
def Aab(x1:Int)(n0:Nat)(a0:Ay)(z0:Int×(List Int)):Option (Ctl (Int×(List Int)) Unit):=
 (Tu (w64 (x1+a0.Cost)) (w64 (2*a0.Cost))).bind λy1=>(appI 9 z0.2 [Ga y1.1 a0.Low a0.High]).bind λy3=>some (.next (w64 (z0.1+(Ga y1.1 a0.Low a0.High)),y3))
def Zs(x0:List Ay)(x1:Int):Option ((List Int)×Int):=
 andThen (foldI (Aab x1) x0 0 (0,[])) (λ_=>none) λz0=>some (z0.2,z0.1)
def Aik(x0:Ay)(x1:Int):Int:=
 w64 (x0.Cost*(w64 ((w64 (2*x1))+1)))
def Ag0(x1:Int):Bool:=((decide (x1<(-500000))) || (decide (x1>500000)))
def Aaj(x0:List Ay)(x1:Int)(y1:Int×Int×Int)(z0:Int×Int):Option (Ctl (Int×Int) Unit):=
 bif decide (z0.2<z0.1)then (Tu (w64 (z0.2+z0.1)) 2).bind λy6=>(Zs x0 y6.1).bind λy8=>bif decide (y8.2>=(Ga x1 y1.1 y1.2.1))then some (.next (y6.1,z0.2)) else some (.next (z0.1,w64 (y6.1+1))) else some (.brk (z0.1,z0.2))
def uB(x1:Int)(y1:Int×Int×Int)(z0:Int×Int)(z1:Int×(List Int))(a1:Ay)(y13:Int)(y15:Int):Bool:=(((decide (z1.1<(Ga x1 y1.1 y1.2.1)))&&(decide (y13<a1.High)))&&((Aik a1 y15)==z0.2))
def X4(x1:Int)(y1:Int×Int×Int)(z0:Int×Int)(n1:Nat)(a1:Ay)(z1:Int×(List Int)):Option (Ctl (Int×(List Int)) Unit):=
 (Au [(decide (z1.1<(Ga x1 y1.1 y1.2.1)),true)] (getI z1.2 (cnt 0 n1)) default).bind λy13=>(Au [(((decide (z1.1<(Ga x1 y1.1 y1.2.1)))&&(decide (y13<a1.High))),true)] (getI z1.2 (cnt 0 n1)) default).bind λy15=>bif (uB x1 y1 z0 z1 a1 y13 y15)then (getI z1.2 (cnt 0 n1)).bind λy18=>(setI z1.2 (cnt 0 n1) (w64 (y18+1))).bind λy20=>some (.next (w64 (z1.1+1),y20)) else some (.next (z1.1,z1.2))
def Tw(x0:List Ay)(x1:Int):Option ((List Int)×Int×Int):=
 (Aac x0).bind λy1=>bif (y1.2.2 != 0)then some ([],0,y1.2.2) else bif (Ag0 x1)then some ([],0,1) else andThen (whileN (Aaj x0 x1 y1) 1152921504606846976 (1000200,(-1000200))) (λ_=>none) λz0=>(Zs x0 (w64 (z0.2-1))).bind λy11=>andThen (foldI (X4 x1 y1 z0) x0 0 (y11.2,y11.1)) (λ_=>none) λz1=>some (z1.2,w64 (x1-(Ga x1 y1.1 y1.2.1)),0)
def K9(x0:Int)(x1:An)(x2:Int):Option Bool:=
 (P9 x1 x0 x2).bind λy1=>some y1
def Mq(x0c0:An)(x0c1:Int)(z0:Int):Option (Ctl Int Unit):=
 (K9 (w64 (z0-1)) x0c0 x0c1).bind λy6=>bif y6 then some (.next (w64 (z0-1))) else some (.brk z0)
def Mp(x0c0:An)(x0c1:Int)(z1:Int):Option (Ctl Int Unit):=
 (K9 (w64 (z1+1)) x0c0 x0c1).bind λy11=>bif y11 then some (.next (w64 (z1+1))) else some (.brk z1)
def uO(x0c0:An)(x0c1:Int):Option (Int×Int×An×Int):=
 (K9 0 x0c0 x0c1).bind λy1=>bif !y1 then some (0,0,x0c0,x0c1) else andThen (whileN (Mq x0c0 x0c1) 1152921504606846976 0) (λ_=>none) λz0=>andThen (whileN (Mp x0c0 x0c1) 1152921504606846976 0) (λ_=>none) λz1=>some (z0,z1,x0c0,x0c1)
def Ts(x0:An)(x1:Int):Option (Int×Int):=
 (Qc x0).bind λy1=>bif !y1 then some (0,0) else (uO x0 x1).bind λy4=>some (y4.1,y4.2.1)
def zZ(x0:A6):Int:=
 x0.X
def Wa(x0:B0)(x1:Int)(x2:Int)(x3:Int):Option Ay:=
 (getI x0.thrusters x1).bind λy1=>bif decide ((x0.last.length:Int)>0)then (getI x0.last x1).bind λy4=>some ⟨(M6 x2 x3 (zZ y4) y1.Rate).1,(M6 x2 x3 (zZ y4) y1.Rate).2,y1.Cost⟩ else some ⟨x2,x3,y1.Cost⟩
def Aag(x0:B0)(x1:List Int)(n0:Nat)(a0:An)(z0:(List Ay)):Option (Ctl ((List Ay)) Unit):=
 (getI x1 (cnt 0 n0)).bind λy1=>(Ts a0 y1).bind λy3=>(Wa x0 (cnt 0 n0) y3.1 y3.2).bind λy5=>(appI 25 z0 [y5]).bind λy7=>some (.next y7)
def Aah(x0:B0)(x1:List Int):Option ((List Ay)):=
 andThen (foldI (Aag x0 x1) x0.thrusters 0 []) (λ_=>none) λz0=>some z0
def Atl(x0:A3)(x1:List A6):Bool:=((x1.length:Int) != (x0.Av.length:Int))
def X3(x0:A3)(n0:Nat)(a0:A6)(z0:Int×Int×Int):Option (Ctl (Int×Int×Int) (Bc×Int)):=
 bif !(Ty a0)then some (.ret (⟨0,0,0⟩,1)) else (getI x0.Av (cnt 0 n0)).bind λy8=>bif (y8.Station==0)then some (.next (w64 (z0.1+a0.X),w64 (z0.2.1+a0.Y),z0.2.2)) else some (.next (w64 (z0.1+a0.X),z0.2.1,w64 (z0.2.2+a0.Y)))
def Aaf(x0:A3)(x1:List A6):Option (Bc×Int):=
 (Qf x0).bind λy1=>bif (y1 != 0)then (Qf x0).bind λy4=>some (⟨0,0,0⟩,y4) else bif (Atl x0 x1)then some (⟨0,0,0⟩,8) else andThen (foldI (X3 x0) x1 0 (0,0,0)) some λz0=>some (⟨z0.1,z0.2.1,z0.2.2⟩,0)
def Apw(x0:Bc)(x1:Bc):Bc:=
 ⟨w64 (x0.Surge-x1.Surge),w64 (x0.Bow-x1.Bow),w64 (x0.Stern-x1.Stern)⟩
def Aax(y6:(List Int)×Int×Int)(n0:Nat)(a0:Int)(z0:(List Int)):Option (Ctl ((List Int)) Unit):=
 (getI z0 (cnt 0 n0)).bind λy12=>(getI y6.1 (cnt 0 n0)).bind λy14=>(setI z0 (cnt 0 n0) (w64 (y12+y14))).bind λy16=>some (.next y16)
def Aaw(y20:(List Int)×Int×Int)(n1:Nat)(a1:Int)(z1:(List A6)):Option (Ctl ((List A6)) Unit):=
 (getI y20.1 (cnt 0 n1)).bind λy22=>(appI 17 z1 [⟨y22,a1⟩]).bind λy24=>some (.next y24)
def Wr(x0:A3)(x1:List Int)(x2:List A6)(x3:Bc):Option (Gf×Int):=
 (Aak x0 x1 x2 x3).bind λy1=>bif (y1.2 != 0)then some (⟨[],⟨0,0,0⟩,⟨0,0,0⟩⟩,y1.2) else (Zt y1.1 0).bind λy4=>(Tw y4 x3.Bow).bind λy6=>(Zt y1.1 1).bind λy8=>(Tw y8 x3.Stern).bind λy10=>andThen (foldI (Aax y6) y10.1 0 y10.1) (λ_=>none) λz0=>(Aah y1.1 z0).bind λy18=>(Tw y18 x3.Surge).bind λy20=>andThen (foldI (Aaw y20) z0 0 []) (λ_=>none) λz1=>(Aaf x0 z1).bind λy26=>some (⟨z1,y26.1,(Apw x3 y26.1)⟩,0)
def Aqh(x0:A3)(x1:List Int)(x2:A4):Option (Bc×Int):=
 (Aay x0 x2).bind λy1=>bif (y1.2 != 0)then some (⟨0,0,0⟩,y1.2) else (Wr x0 x1 [] y1.1).bind λy4=>bif (y4.2 != 0)then some (⟨0,0,0⟩,y4.2) else some (y4.1.Missing,0)
def Abn(x0:A3)(x1:List Int)(x2:A4):Option Bool:=
 (Aqh x0 x1 x2).bind λy1=>some ((y1.2==0)&&((y1.1.Surge==0)&&((y1.1.Bow==0)&&((y1.1.Stern==0)&&true))))
def F69(x0:Ba)(x1:As)(x2:List Ab)(x3:List Ab)(x4:A4):Option Bool:=
 (F14 x0 x1 x2 x3).bind λy1=>(Au [((y1.2.2==0),true)] (Abn x0.Ship y1.2.1 x4) default).bind λy3=>some ((y1.2.2==0)&&y3)
def F26(x0:Ba)(x1:As)(x2:List Ab)(x3:A4):Option (List Bi×Int):=Zj F14 F21 F53 F69 x0 x1 x2 x3
def A8j(a0:Bi)(y2:Bi):Bool:=!(((a0.Part.Kind==y2.Part.Kind)&&((a0.Part.Number==y2.Part.Number)&&true))&&((a0.Holds==y2.Holds)&&true))
def A67(x1:List Bi)(n0:Nat)(a0:Bi)(z0:Unit):Option (Ctl Unit Unit):=
 (getI x1 (cnt 0 n0)).bind λy2=>bif (A8j a0 y2)then none else some (.next ())
def F37(x0:List Bi)(x1:List Bi):Option Bool:=
 bif ((x0.length:Int) != (x1.length:Int))then none else andThen (foldI (A67 x1) x0 0 ()) (λ_=>none) λz0=>some true
def F22(x0:Ba)(x1:As)(x2:List Ab)(x3:A4):Option Bool:=
 (F69 x0 x1 x2 [] x3).bind λy1=>some y1
def F71(x0:Ba)(x1:As)(x2:List Ab)(x3:A4):Option (Ab×Bool):=qE F21 F53 F69 x0 x1 x2 x3
def F25(x0:Ba)(x1:As)(x2:List Ab)(x3:A4):Option Bool:=
 (F22 x0 x1 x2 x3).bind λy1=>bif !y1 then some false else (F71 x0 x1 x2 x3).bind λy4=>some (!y4.2)
def F9:Option Bool:=
 (F42).bind λy1=>(F26 y1.1 y1.2 [] ⟨(-150),0,0⟩).bind λy3=>(Au [((y3.2==0),true)] (getI y1.1.Design.Parts 0) default).bind λy5=>(Au [((y3.2==0),true)] (getI y1.1.Design.Parts 1) default).bind λy7=>(Au [((y3.2==0),true)] (getI y1.1.Design.Parts 2) default).bind λy9=>(Au [((y3.2==0),true)] (F37 y3.1 [⟨y5,true⟩,⟨y7,true⟩,⟨y9,false⟩]) default).bind λy11=>(Au [(((y3.2==0)&&y11),true)] (F22 y1.1 y1.2 [] ⟨(-150),0,0⟩) default).bind λy13=>(Au [((((y3.2==0)&&y11)&&y13),true)] (F25 y1.1 y1.2 [] ⟨(-150),0,0⟩) default).bind λy15=>(Au [(((((y3.2==0)&&y11)&&y13)&&(!y15)),true)] (F22 y1.1 y1.2 [] ⟨(-201),0,0⟩) default).bind λy17=>some (((((y3.2==0)&&y11)&&y13)&&(!y15))&&(!y17))
def F10(x0:List Int):Option Af:=
 (cutI x0 0 (min (x0.length:Int) 600)).bind λy2=>some ⟨y2,0⟩
def F94(x0:Int)(x1:Int):Option Int:=
 bif decide (x1<1)then some 0 else (nzI x1).bind λu3=>(nzI x1).bind λu5=>some (Int.tmod (w64 ((Int.tmod x0 x1)+x1)) x1)
def F44(x0:Af)(x1:Int):Option (Int×Af):=
 bif decide (x0.At>=(x0.L.length:Int))then some (0,x0) else (getI x0.L (w64 ((w64 (x0.At+1))-1))).bind λy2=>(F94 y2 x1).bind λy4=>some (y4,⟨x0.L,w64 (x0.At+1)⟩)
def F20(x0:Af)(x1:List Int):Option (Int×Af):=
 (F44 x0 (x1.length:Int)).bind λy1=>(getI x1 y1.1).bind λy3=>some (y3,y1.2)
def Ama(n0:Nat)(a0:Int)(z0:(List Int)×Int×(List Int)):Option (Ctl ((List Int)×Int×(List Int)) Unit):=
 (F20 ⟨z0.1,z0.2.1⟩ [0,100,(-300),700,(-1000),1000]).bind λy3=>(getI z0.2.2 (cnt 0 n0)).bind λy5=>(setI z0.2.2 (cnt 0 n0) y3.1).bind λy7=>some (.next (y3.2.L,y3.2.At,y7))
def Aa3(x0:Af):Option ((List Int)×Af):=
 (mkI 9 12 0).bind λy1=>andThen (foldI Ama y1 0 (x0.L,x0.At,y1)) (λ_=>none) λz0=>some (z0.2.2,⟨z0.1,z0.2.1⟩)
def Abm(x0:Af):Option (Hm×Af):=
 (Aa3 x0).bind λy1=>(Aa3 y1.2).bind λy3=>(Aa3 y3.2).bind λy5=>some (⟨y1.1,y3.1,y5.1⟩,y5.2)
def F82(x0:Af):Option (Lq×Af):=
 (Abm x0).bind λy1=>(Abm y1.2).bind λy3=>(Abm y3.2).bind λy5=>(F20 y5.2 [1000,1,30,5000,1000000]).bind λy7=>(F20 y7.2 [100000,1,500,1073741824]).bind λy9=>(F20 y9.2 [0,1,w64 (Int.tdiv y7.1 10),y7.1]).bind λy11=>(F20 y11.2 [0,1,w64 (Int.tdiv y9.1 10),y9.1]).bind λy13=>some (⟨y1.1,y3.1,y5.1,y7.1,y9.1,min y11.1 y7.1,min y13.1 y9.1⟩,y13.2)
def F67(x0:Af)(x1:Int)(x2:Int):Option (Int×Af):=
 (F44 x0 (w64 ((w64 (x2-x1))+1))).bind λy1=>some (w64 (x1+y1.1),y1.2)
def Ap9(x0:Af):Option (Bu×Af):=
 (F20 x0 [0,450,800,1350,1800,2600,3500]).bind λy1=>(F20 y1.2 [0,100,300,900,1799]).bind λy3=>some (⟨y1.1,Int.tmod (w64 (y1.1+y3.1)) 3600⟩,y3.2)
def Amz(z0:Int×(List Int)×Int×(List Bu)):Option (Ctl (Int×(List Int)×Int×(List Bu)) Unit):=
 bif decide (z0.1>0)then (Ap9 ⟨z0.2.1,z0.2.2.1⟩).bind λy14=>(appI 17 z0.2.2.2 [y14.1]).bind λy16=>some (.next (w64 (z0.1-1),y14.2.L,y14.2.At,y16)) else some (.brk (z0.1,z0.2.1,z0.2.2.1,z0.2.2.2))
def Aqr(x0:Af):Option (An×Af):=
 (F67 x0 1 3).bind λy1=>(F44 y1.2 2).bind λy3=>(F20 y3.2 [0,1,7,20,40]).bind λy5=>(F20 y5.2 [0,1,5,50]).bind λy7=>(F20 y7.2 [1,2,3,100]).bind λy9=>(F44 y9.2 3).bind λy11=>andThen (whileN Amz 1152921504606846976 (y11.1,y11.2.L,y11.2.At,[])) (λ_=>none) λz0=>some (⟨y1.1,y3.1,y5.1,y7.1,y9.1,z0.2.2.2⟩,⟨z0.2.1,z0.2.2.1⟩)
def Au4(z0:Int×(List Int)×Int×(List An)):Option (Ctl (Int×(List Int)×Int×(List An)) Unit):=
 bif decide (z0.1>0)then (Aqr ⟨z0.2.1,z0.2.2.1⟩).bind λy10=>(appI 65 z0.2.2.2 [y10.1]).bind λy12=>some (.next (w64 (z0.1-1),y10.2.L,y10.2.At,y12)) else some (.brk (z0.1,z0.2.1,z0.2.2.1,z0.2.2.2))
def F83(x0:Af)(x1:Int):Option (A3×Af):=
 (F20 x0 [0,1,30,60]).bind λy1=>(F20 y1.2 [1,25,40]).bind λy3=>(F44 y3.2 (w64 (x1+1))).bind λy5=>andThen (whileN Au4 1152921504606846976 (y5.1,y5.2.L,y5.2.At,[])) (λ_=>none) λz0=>some (⟨y1.1,y3.1,z0.2.2.2⟩,⟨z0.2.1,z0.2.2.1⟩)
def Ah6(y1:Int×Af)(z0:Sg3):Option (Ctl (Sg3) Unit):=
 bif decide (z0.1<y1.1)then (F44 ⟨z0.2.1,z0.2.2.1⟩ 6).bind λy8=>bif decide (y8.1<5)then (F44 y8.2 z0.1).bind λy11=>(appI 25 z0.2.2.2 [⟨1,y11.1,z0.1⟩]).bind λy13=>some (.next (w64 (z0.1+1),y11.2.L,y11.2.At,y13)) else some (.next (w64 (z0.1+1),y8.2.L,y8.2.At,z0.2.2.2)) else some (.brk (z0.1,z0.2.1,z0.2.2.1,z0.2.2.2))
def Au3(y1:Int×Af)(z0:Sg3)(y15:Int×Af):Option (Ctl ((List Ak)) Unit):=
 bif ((decide (y1.1>2))&&(y15.1==1))then (appI 25 z0.2.2.2 [⟨1,0,w64 (y1.1-1)⟩]).bind λy18=>some (.next y18) else some (.next z0.2.2.2)
def Ah5(y1:Int×Af)(z2:Int×(List Int)×Int×(List Ak)×(List B9)):Option (Ctl (Int×(List Int)×Int×(List Ak)×(List B9)) Unit):=
 bif decide (z2.1>0)then (F44 ⟨z2.2.1,z2.2.2.1⟩ y1.1).bind λy23=>(appI 25 z2.2.2.2.1 [⟨2,y23.1,(z2.2.2.2.2.length:Int)⟩]).bind λy25=>(F20 y23.2 [10,50,100]).bind λy27=>(F20 y27.2 [0,5,y27.1]).bind λy29=>(F20 y29.2 [0,1,3]).bind λy31=>(appI 25 z2.2.2.2.2 [⟨y27.1,y29.1,y31.1⟩]).bind λy33=>some (.next (w64 (z2.1-1),y31.2.L,y31.2.At,y25,y33)) else some (.brk (z2.1,z2.2.1,z2.2.2.1,z2.2.2.2.1,z2.2.2.2.2))
def Au2(y1:Int×Af)(z3:Sg4)(y38:Int×Af)(y40:List Ak)(y42:Int×Af):Option (Ctl ((List Ak)) Unit):=
 bif ((decide (y1.1>1))&&(y42.1==3))then (nzI y1.1).bind λu46=>(appI 25 y40 [⟨3,Int.tmod (w64 (y38.1+1)) y1.1,(z3.2.2.2.2.length:Int)⟩]).bind λy47=>some (.next y47) else some (.next y40)
def Az2(z3:Sg4)(y57:Int×Af):Bool:=((decide ((z3.2.2.2.2.length:Int)>0))&&(y57.1==3))
def Ah4(y1:Int×Af)(z3:Sg4):Option (Ctl (Sg4) Unit):=
 bif decide (z3.1>0)then (F44 ⟨z3.2.1,z3.2.2.1⟩ y1.1).bind λy38=>(appI 25 z3.2.2.2.1 [⟨3,y38.1,(z3.2.2.2.2.length:Int)⟩]).bind λy40=>(Au [(decide (y1.1>1),true)] (F44 y38.2 4) (default,y38.2)).bind λy42=>andThen (Au2 y1 z3 y38 y40 y42) (λ_=>none) λz4=>(F20 y42.2 [0,5,20,40]).bind λy49=>(F20 y49.2 [0,w64 (Int.tdiv y49.1 2),y49.1]).bind λy51=>(F44 y51.2 3).bind λy53=>(F67 y53.2 (-1) 2).bind λy55=>(Au [(decide ((z3.2.2.2.2.length:Int)>0),true)] (F44 y55.2 4) (default,y55.2)).bind λy57=>bif (Az2 z3 y57)then (F44 y57.2 (z3.2.2.2.2.length:Int)).bind λy60=>(appI 57 z3.2.2.2.2 [⟨y49.1,y51.1,y53.1,y55.1,[y60.1]⟩]).bind λy62=>some (.next (w64 (z3.1-1),y60.2.L,y60.2.At,z4,y62)) else (appI 57 z3.2.2.2.2 [⟨y49.1,y51.1,y53.1,y55.1,[]⟩]).bind λy64=>some (.next (w64 (z3.1-1),y57.2.L,y57.2.At,z4,y64)) else some (.brk (z3.1,z3.2.1,z3.2.2.1,z3.2.2.2.1,z3.2.2.2.2))
def F84(x0:Af):Option (Aa×Af):=
 (F67 x0 1 4).bind λy1=>(F20 y1.2 [0,50,200,1800]).bind λy3=>(F20 y3.2 [0,10,50]).bind λy5=>andThen (whileN (Ah6 y1) 1152921504606846976 (1,y5.2.L,y5.2.At,[])) (λ_=>none) λz0=>(Au [(decide (y1.1>2),true)] (F44 ⟨z0.2.1,z0.2.2.1⟩ 2) (default,⟨z0.2.1,z0.2.2.1⟩)).bind λy15=>andThen (Au3 y1 z0 y15) (λ_=>none) λz1=>(F44 y15.2 5).bind λy20=>andThen (whileN (Ah5 y1) 1152921504606846976 (y20.1,y20.2.L,y20.2.At,z1,[])) (λ_=>none) λz2=>(F44 ⟨z2.2.1,z2.2.2.1⟩ 6).bind λy35=>andThen (whileN (Ah4 y1) 1152921504606846976 (y35.1,y35.2.L,y35.2.At,z2.2.2.2.1,[])) (λ_=>none) λz3=>some (⟨y1.1,z3.2.2.2.1,z2.2.2.2.2,z3.2.2.2.2,y3.1,y5.1⟩,⟨z3.2.1,z3.2.2.1⟩)
def F85(x0:Af):Option (By×Af):=
 (F20 x0 [60,80,100]).bind λy1=>(F20 y1.2 [1,30,50]).bind λy3=>(F20 y3.2 [0,1,3]).bind λy5=>some (⟨y1.1,y3.1,y5.1⟩,y5.2)
def Aze(x0:Af):Option (Dq×Af):=
 (F44 x0 4).bind λy1=>(F20 y1.2 [0,10,100]).bind λy3=>(F20 y3.2 [1,3,10]).bind λy5=>(F20 y5.2 [0,0,2,4]).bind λy7=>some (⟨y1.1,y3.1,y5.1,y7.1⟩,y7.2)
def Au1(z0:Int×(List Int)×Int×(List Dq)):Option (Ctl (Int×(List Int)×Int×(List Dq)) Unit):=
 bif decide (z0.1>0)then (Aze ⟨z0.2.1,z0.2.2.1⟩).bind λy4=>(appI 33 z0.2.2.2 [y4.1]).bind λy6=>some (.next (w64 (z0.1-1),y4.2.L,y4.2.At,y6)) else some (.brk (z0.1,z0.2.1,z0.2.2.1,z0.2.2.2))
def F86(x0:Af)(x1:Int):Option ((List Dq)×Af):=
 (F44 x0 (w64 (x1+1))).bind λy1=>andThen (whileN Au1 1152921504606846976 (y1.1,y1.2.L,y1.2.At,[])) (λ_=>none) λz0=>some (z0.2.2.2,⟨z0.2.1,z0.2.2.1⟩)
def F87(x0:Af):Option (Mo×Af):=
 (F20 x0 [0,10,100,1000]).bind λy1=>(F20 y1.2 [0,1,5]).bind λy3=>(F20 y3.2 [0,50,500]).bind λy5=>(F20 y5.2 [0,100]).bind λy7=>(F20 y7.2 [0,3]).bind λy9=>(F20 y9.2 [0,70]).bind λy11=>(F20 y11.2 [0,500,10000]).bind λy13=>(F20 y13.2 [0,20,60]).bind λy15=>(F20 y15.2 [0,500,3000]).bind λy17=>some (⟨y1.1,y3.1,y5.1,y7.1,y9.1,y11.1,y13.1,y15.1,y17.1⟩,y17.2)
def F79(x0:Af)(x1:List ByteArray):Option (ByteArray×Af):=
 (F44 x0 (x1.length:Int)).bind λy1=>(getI x1 y1.1).bind λy3=>some (y3,y1.2)
def Aqq(x0:Af):Option (K6×Af):=
 (F20 x0 [0,300,500,2000]).bind λy1=>(F20 y1.2 [0,0,200]).bind λy3=>(F20 y3.2 [0,0,(-100)]).bind λy5=>(F20 y5.2 [0,500,3000]).bind λy7=>some (⟨⟨y3.1,y5.1⟩,y1.1,w64 (y1.1+y7.1)⟩,y7.2)
def F88(x0:Af):Option (H1×Af):=
 (F79 x0 [(⟨#[100,114,105,108,108]⟩:ByteArray),(⟨#[100,105,118,101]⟩:ByteArray),(⟨#[97,45,49]⟩:ByteArray)]).bind λy1=>(F67 y1.2 1 3).bind λy3=>(Aqq y3.2).bind λy5=>(F20 y5.2 [0,10,50,1000]).bind λy7=>some (⟨y1.1,y3.1,y5.1,y7.1⟩,y7.2)
def Auz(x1:Int)(x2:Int)(z0:Int×(List Int)×Int×(List Int)):Option (Ctl (Int×(List Int)×Int×(List Int)) Unit):=
 bif decide (z0.1<x1)then (F44 ⟨z0.2.1,z0.2.2.1⟩ x2).bind λy2=>bif (y2.1==(w64 (x2-1)))then (appI 9 z0.2.2.2 [z0.1]).bind λy5=>some (.next (w64 (z0.1+1),y2.2.L,y2.2.At,y5)) else some (.next (w64 (z0.1+1),y2.2.L,y2.2.At,z0.2.2.2)) else some (.brk (z0.1,z0.2.1,z0.2.2.1,z0.2.2.2))
def F91(x0:Af)(x1:Int)(x2:Int):Option ((List Int)×Af):=
 andThen (whileN (Auz x1 x2) 1152921504606846976 (0,x0.L,x0.At,[])) (λ_=>none) λz0=>some (z0.2.2.2,⟨z0.2.1,z0.2.2.1⟩)
def Az1(z0:Sg8)(y3:Int×Af):Bool:=((decide (z0.1<=y3.1)) || (z0.1==0))
def Au0(z0:Sg8):Option (Ctl (Sg8) Unit):=
 (F44 ⟨z0.2.1,z0.2.2.1⟩ 5).bind λy3=>bif (Az1 z0 y3)then bif (z0.1==12)then some (.brk (z0.1,y3.2.L,y3.2.At,z0.2.2.2)) else (Ane [IntKind.wrap .u8 (w64 (97+z0.1))]).bind λy17=>(nzI (Agv (⟨#[115]⟩:ByteArray) y17)).bind λu20=>(F20 y3.2 [1,2,3,7]).bind λy21=>(F67 y21.2 1 3).bind λy23=>(F91 y23.2 z0.1 2).bind λy25=>(appI 57 z0.2.2.2 [⟨((⟨#[115]⟩:ByteArray)++y17),y21.1,y23.1,y25.1⟩]).bind λy27=>some (.next (w64 (z0.1+1),y25.2.L,y25.2.At,y27)) else some (.brk (z0.1,y3.2.L,y3.2.At,z0.2.2.2))
def F89(x0:Af):Option (K5×Af):=
 andThen (whileN Au0 1152921504606846976 (0,x0.L,x0.At,[])) (λ_=>none) λz0=>some (⟨z0.2.2.2⟩,⟨z0.2.1,z0.2.2.1⟩)
def F90(x0:Af):Option (Int×Af):=
 (F20 x0 [0,1,299,300,450,900,1800,2701,3599]).bind λy1=>some (y1.1,y1.2)
def Alm(a0:Ab)(z1:(List Int)×Int×(List Bh))(a1:Ab)(y1:Int×Af):Bool:=(((!((a0.Kind==a1.Kind)&&((a0.Number==a1.Number)&&true)))&&(decide ((z1.2.2.length:Int)<20)))&&(y1.1==6))
def Ah2(a0:Ab)(n1:Nat)(a1:Ab)(z1:(List Int)×Int×(List Bh)):Option (Ctl ((List Int)×Int×(List Bh)) Unit):=
 (Au [(((!((a0.Kind==a1.Kind)&&((a0.Number==a1.Number)&&true)))&&(decide ((z1.2.2.length:Int)<20))),true)] (F44 ⟨z1.1,z1.2.1⟩ 7) (default,⟨z1.1,z1.2.1⟩)).bind λy1=>bif (Alm a0 z1 a1 y1)then (appI 33 z1.2.2 [⟨a0,a1⟩]).bind λy4=>some (.next (y1.2.L,y1.2.At,y4)) else some (.next (y1.2.L,y1.2.At,z1.2.2))
def Ah3(x1:List Ab)(n0:Nat)(a0:Ab)(z0:(List Int)×Int×(List Bh)):Option (Ctl ((List Int)×Int×(List Bh)) Unit):=
 andThen (foldI (Ah2 a0) x1 0 (z0.1,z0.2.1,z0.2.2)) (λ_=>none) λz1=>some (.next (z1.1,z1.2.1,z1.2.2))
def Aef(x0:Af)(x1:List Ab):Option ((List Bh)×Af):=
 andThen (foldI (Ah3 x1) x1 0 (x0.L,x0.At,[])) (λ_=>none) λz0=>some (z0.2.2,⟨z0.1,z0.2.1⟩)
def F29(x0:Ab)(x1:Ab):Bool:=
 ((decide (x0.Kind<x1.Kind)) || ((x0.Kind==x1.Kind)&&(decide (x0.Number<x1.Number))))
def zT(x0:List Ab)(x1:Ab)(z0:Int)(y3:Ab):Bool:=((decide (z0<(x0.length:Int)))&&(F29 y3 x1))
def Ah7(x0:List Ab)(x1:Ab)(z0:Int):Option (Ctl Int Unit):=
 (Au [(decide (z0<(x0.length:Int)),true)] (getI x0 z0) default).bind λy3=>bif (zT x0 x1 z0 y3)then some (.next (w64 (z0+1))) else some (.brk z0)
def zS(x0:List Ab)(x1:Ab)(z0:Int)(y6:Ab):Bool:=((decide (z0<(x0.length:Int)))&&((y6.Kind==x1.Kind)&&((y6.Number==x1.Number)&&true)))
def X2(x0:List Ab)(x1:Ab):Option ((List Ab)):=
 andThen (whileN (Ah7 x0 x1) 1152921504606846976 0) (λ_=>none) λz0=>(Au [(decide (z0<(x0.length:Int)),true)] (getI x0 z0) default).bind λy6=>bif (zS x0 x1 z0 y6)then some x0 else (bndI x0.length 0 z0).bind λu10=>(bndI x0.length z0 (x0.length:Int)).bind λu12=>(appI 17 [x1] ((x0.drop (Int.toNat z0)).take ((Int.toNat (x0.length:Int))-(Int.toNat z0)))).bind λy13=>(appI 17 (x0.take ((Int.toNat z0)-0)) y13).bind λy15=>some y15
def All(x1:List Ab)(z0:Sg6):Bool:=((decide (z0.1>0))&&(decide ((x1.length:Int)>0)))
def Ah0(n1:Nat)(a1:Ab)(z1:(List Int)×Int×(List Ab)):Option (Ctl ((List Int)×Int×(List Ab)) Unit):=
 (F44 ⟨z1.1,z1.2.1⟩ 4).bind λy10=>bif (y10.1==3)then (X2 z1.2.2 a1).bind λy13=>some (.next (y10.2.L,y10.2.At,y13)) else some (.next (y10.2.L,y10.2.At,z1.2.2))
def Ah1(x1:List Ab)(z0:Sg6):Option (Ctl (Sg6) Unit):=
 bif (All x1 z0)then (getI [(⟨#[111,110,101]⟩:ByteArray),(⟨#[116,119,111]⟩:ByteArray),(⟨#[103,45,51]⟩:ByteArray),(⟨#[120]⟩:ByteArray)] z0.1).bind λy4=>(F44 ⟨z0.2.1,z0.2.2.1⟩ (x1.length:Int)).bind λy6=>(getI x1 y6.1).bind λy8=>andThen (foldI Ah0 x1 0 (y6.2.L,y6.2.At,[y8])) (λ_=>none) λz1=>(appI 41 z0.2.2.2 [⟨y4,z1.2.2⟩]).bind λy15=>some (.next (w64 (z0.1-1),z1.1,z1.2.1,y15)) else some (.brk (z0.1,z0.2.1,z0.2.2.1,z0.2.2.2))
def Aee(x0:Af)(x1:List Ab):Option ((List Bz)×Af):=
 (F44 x0 4).bind λy1=>andThen (whileN (Ah1 x1) 1152921504606846976 (y1.1,y1.2.L,y1.2.At,[])) (λ_=>none) λz0=>some (z0.2.2.2,⟨z0.2.1,z0.2.2.1⟩)
def A0b(y5:Aa×Af)(z0:Sg5):Bool:=decide (z0.1<(y5.1.Ag.length:Int))
def Aia(y3:A3×Af)(y5:Aa×Af)(z0:Sg5):Option (Ctl (Sg5) Unit):=
 bif (A0b y5 z0)then (F67 ⟨z0.2.1,z0.2.2.1⟩ (-1) (w64 ((y3.1.Av.length:Int)-1))).bind λy26=>(getI z0.2.2.2 z0.1).bind λy28=>(setI z0.2.2.2 z0.1 ⟨y28.Load,y28.Least,y28.B6,y26.1,y28.Needs⟩).bind λy30=>some (.next (w64 (z0.1+1),y26.2.L,y26.2.At,y30)) else some (.brk (z0.1,z0.2.1,z0.2.2.1,z0.2.2.2))
def Avd(n1:Nat)(n2:Nat)(a2:Int)(z2:(List Ab)):Option (Ctl ((List Ab)) Unit):=
 (appI 17 z2 [⟨cnt 0 n1,a2⟩]).bind λy34=>some (.next y34)
def Ah9(n1:Nat)(a1:Int)(z1:(List Int)×Int×(List Ab)):Option (Ctl ((List Int)×Int×(List Ab)) Unit):=
 (F91 ⟨z1.1,z1.2.1⟩ (min a1 3) 2).bind λy32=>andThen (foldI (Avd n1) y32.1 0 z1.2.2) (λ_=>none) λz2=>some (.next (y32.2.L,y32.2.At,z2))
def F43(x0:Af):Option (Ba×Af):=
 (F82 x0).bind λy1=>(F83 y1.2 2).bind λy3=>(F84 y3.2).bind λy5=>(F85 y5.2).bind λy7=>(F86 y7.2 3).bind λy9=>(F87 y9.2).bind λy11=>(F20 y11.2 [0,1,3]).bind λy13=>(F88 y13.2).bind λy15=>(F89 y15.2).bind λy17=>(F67 y17.2 (-50) 50).bind λy19=>(F67 y19.2 (-50) 50).bind λy21=>(F90 y21.2).bind λy23=>andThen (whileN (Aia y3 y5) 1152921504606846976 (0,y23.2.L,y23.2.At,y5.1.Ag)) (λ_=>none) λz0=>andThen (foldI Ah9 [0,(y5.1.Ae.length:Int),(y5.1.Ah.length:Int),y5.1.Am,(z0.2.2.2.length:Int),(y3.1.Av.length:Int),(y9.1.length:Int),0,0,2] 0 (z0.2.1,z0.2.2.1,[])) (λ_=>none) λz1=>(Aef ⟨z1.1,z1.2.1⟩ z1.2.2).bind λy36=>(Aee y36.2 z1.2.2).bind λy38=>some (⟨y1.1,y3.1,⟨y5.1.Am,y5.1.Ah,y5.1.Ae,z0.2.2.2,y5.1.Phase,y5.1.Ar⟩,y7.1,⟨z1.2.2,y36.1,y38.1⟩,y9.1,y11.1,⟨⟨y19.1,y21.1⟩,y23.1⟩,y13.1,y15.1,y17.1⟩,y38.2)
def A8b(a0:Ab)(z1:(List Int)×Int×(List Bh))(a1:Ab)(y1:Int×Af):Bool:=(((!((a0.Kind==a1.Kind)&&((a0.Number==a1.Number)&&true)))&&(decide ((z1.2.2.length:Int)<20)))&&(y1.1==6))
def A6z(a0:Ab)(n1:Nat)(a1:Ab)(z1:(List Int)×Int×(List Bh)):Option (Ctl ((List Int)×Int×(List Bh)) Unit):=
 (Au [(((!((a0.Kind==a1.Kind)&&((a0.Number==a1.Number)&&true)))&&(decide ((z1.2.2.length:Int)<20))),true)] (F44 ⟨z1.1,z1.2.1⟩ 7) (default,⟨z1.1,z1.2.1⟩)).bind λy1=>bif (A8b a0 z1 a1 y1)then (appI 33 z1.2.2 [⟨a0,a1⟩]).bind λy4=>some (.next (y1.2.L,y1.2.At,y4)) else some (.next (y1.2.L,y1.2.At,z1.2.2))
def A60(x1:List Ab)(n0:Nat)(a0:Ab)(z0:(List Int)×Int×(List Bh)):Option (Ctl ((List Int)×Int×(List Bh)) Unit):=
 andThen (foldI (A6z a0) x1 0 (z0.1,z0.2.1,z0.2.2)) (λ_=>none) λz1=>some (.next (z1.1,z1.2.1,z1.2.2))
def F92(x0:Af)(x1:List Ab):Option ((List Bh)×Af):=
 andThen (foldI (A60 x1) x1 0 (x0.L,x0.At,[])) (λ_=>none) λz0=>some (z0.2.2,⟨z0.1,z0.2.1⟩)
def A8a(x1:List Ab)(z0:Sg6):Bool:=((decide (z0.1>0))&&(decide ((x1.length:Int)>0)))
def A6x(n1:Nat)(a1:Ab)(z1:(List Int)×Int×(List Ab)):Option (Ctl ((List Int)×Int×(List Ab)) Unit):=
 (F44 ⟨z1.1,z1.2.1⟩ 4).bind λy10=>bif (y10.1==3)then (X2 z1.2.2 a1).bind λy13=>some (.next (y10.2.L,y10.2.At,y13)) else some (.next (y10.2.L,y10.2.At,z1.2.2))
def A6y(x1:List Ab)(z0:Sg6):Option (Ctl (Sg6) Unit):=
 bif (A8a x1 z0)then (getI [(⟨#[111,110,101]⟩:ByteArray),(⟨#[116,119,111]⟩:ByteArray),(⟨#[103,45,51]⟩:ByteArray),(⟨#[120]⟩:ByteArray)] z0.1).bind λy4=>(F44 ⟨z0.2.1,z0.2.2.1⟩ (x1.length:Int)).bind λy6=>(getI x1 y6.1).bind λy8=>andThen (foldI A6x x1 0 (y6.2.L,y6.2.At,[y8])) (λ_=>none) λz1=>(appI 41 z0.2.2.2 [⟨y4,z1.2.2⟩]).bind λy15=>some (.next (w64 (z0.1-1),z1.1,z1.2.1,y15)) else some (.brk (z0.1,z0.2.1,z0.2.2.1,z0.2.2.2))
def F93(x0:Af)(x1:List Ab):Option ((List Bz)×Af):=
 (F44 x0 4).bind λy1=>andThen (whileN (A6y x1) 1152921504606846976 (y1.1,y1.2.L,y1.2.At,[])) (λ_=>none) λz0=>some (z0.2.2.2,⟨z0.2.1,z0.2.2.1⟩)
def Avc(z0:Int×(List Int)×Int×(List Ak)×(List An)×(List A_)):Option (Ctl (Int×(List Int)×Int×(List Ak)×(List An)×(List A_)) Unit):=
 bif decide (z0.1<4)then (appI 25 z0.2.2.2.1 [⟨3,Int.tmod z0.1 2,z0.1⟩]).bind λy16=>(F20 ⟨z0.2.1,z0.2.2.1⟩ [0,5,20]).bind λy18=>(F44 y18.2 3).bind λy20=>(appI 57 z0.2.2.2.2.2 [⟨20,y18.1,y20.1,z0.1,[]⟩]).bind λy22=>(F20 y20.2 [50,50,5]).bind λy24=>(F20 y24.2 [1,2]).bind λy26=>(appI 65 z0.2.2.2.2.1 [⟨3,w64 (Int.tdiv z0.1 2),40,y24.1,y26.1,[]⟩]).bind λy28=>some (.next (w64 (z0.1+1),y26.2.L,y26.2.At,y16,y28,y22)) else some (.brk (z0.1,z0.2.1,z0.2.2.1,z0.2.2.2.1,z0.2.2.2.2.1,z0.2.2.2.2.2))
def F45(x0:Af):Option (Ba×Af):=
 (F43 x0).bind λy1=>(appI 25 [⟨1,0,1⟩] [⟨2,0,0⟩]).bind λy3=>(F44 y1.2 3).bind λy5=>(appI 25 [] [⟨100,0,y5.1⟩]).bind λy7=>(appI 25 y3 [⟨2,1,1⟩]).bind λy9=>(F44 y5.2 3).bind λy11=>(appI 25 y7 [⟨100,0,y11.1⟩]).bind λy13=>andThen (whileN Avc 7 (0,y11.2.L,y11.2.At,y9,[],[])) (λ_=>none) λz0=>(F92 ⟨z0.2.1,z0.2.2.1⟩ [⟨1,0⟩,⟨1,1⟩,⟨5,0⟩,⟨5,1⟩,⟨6,0⟩,⟨9,0⟩]).bind λy30=>(F93 y30.2 [⟨1,0⟩,⟨1,1⟩,⟨5,0⟩,⟨5,1⟩,⟨6,0⟩,⟨9,0⟩]).bind λy32=>some (⟨y1.1.Hull,⟨30,30,z0.2.2.2.2.1⟩,⟨2,z0.2.2.2.1,y13,z0.2.2.2.2.2,1800,50⟩,y1.1.Table,⟨[⟨1,0⟩,⟨1,1⟩,⟨5,0⟩,⟨5,1⟩,⟨6,0⟩,⟨9,0⟩],y30.1,y32.1⟩,[⟨0,100,3,0⟩,⟨1,100,3,0⟩,⟨2,100,3,0⟩],⟨10,0,5,0,0,0,0,20,100⟩,y1.1.Target,y1.1.Delay,⟨y1.1.Operation.Name,y1.1.Operation.Class,⟨y1.1.Target.Place,1000,3000⟩,y1.1.Operation.Drift⟩,y1.1.Sequence⟩,y32.2)
def Ahe(x1:Aa)(z0:Int×(List Int)×Int×(List Bool)):Bool:=decide (z0.1<(x1.Ah.length:Int))
def Xc(x1:Aa)(z0:Int×(List Int)×Int×(List Bool)):Option (Ctl (Int×(List Int)×Int×(List Bool)) Unit):=
 bif (Ahe x1 z0)then (F44 ⟨z0.2.1,z0.2.2.1⟩ 2).bind λy2=>(appI 2 z0.2.2.2 [(y2.1==1)]).bind λy4=>some (.next (w64 (z0.1+1),y2.2.L,y2.2.At,y4)) else some (.brk (z0.1,z0.2.1,z0.2.2.1,z0.2.2.2))
def Ahd(x1:Aa)(z1:Int×(List Bool)):Bool:=decide (z1.1<(x1.Ag.length:Int))
def Ac0(z1:Int×(List Bool))(a2:Ak)(y7:Bool):Bool:=(((a2.Kind==3)&&(a2.B==z1.1))&&y7)
def Xa(z1:Int×(List Bool))(n2:Nat)(a2:Ak)(z2:Bool×(List Bool)):Option (Ctl (Bool×(List Bool)) Unit):=
 (Au [(((a2.Kind==3)&&(a2.B==z1.1)),true)] (getI z2.2 (cnt 0 n2)) default).bind λy7=>bif (Ac0 z1 a2 y7)then (getI z2.2 (cnt 0 n2)).bind λy10=>(setI z2.2 (cnt 0 n2) z2.1).bind λy12=>some (.next (false,y12)) else some (.next (z2.1,z2.2))
def Xb(x1:Aa)(z1:Int×(List Bool)):Option (Ctl (Int×(List Bool)) Unit):=
 bif (Ahd x1 z1)then andThen (foldI (Xa z1) x1.Ah 0 (true,z1.2)) (λ_=>none) λz2=>some (.next (w64 (z1.1+1),z2.2)) else some (.brk (z1.1,z1.2))
def Acz(x1:Aa)(z3:Sg7):Bool:=decide (z3.1<(x1.Ae.length:Int))
def W_(x1:Aa)(z3:Sg7):Option (Ctl (Sg7) Unit):=
 bif (Acz x1 z3)then (F20 ⟨z3.2.1,z3.2.2.1⟩ [0,1,2,2,2,3]).bind λy15=>(F44 y15.2 5).bind λy17=>(F20 y17.2 [5000,5000,5005,4950]).bind λy19=>(F20 y19.2 [0,0,40,1800,3590]).bind λy21=>(appI 33 z3.2.2.2 [⟨y15.1,y17.1,y19.1,y21.1⟩]).bind λy23=>some (.next (w64 (z3.1+1),y21.2.L,y21.2.At,y23)) else some (.brk (z3.1,z3.2.1,z3.2.2.1,z3.2.2.2))
def W9(n4:Nat)(a4:A_)(z4:(List Int)×Int×(List Int)):Option (Ctl ((List Int)×Int×(List Int)) Unit):=
 (F20 ⟨z4.1,z4.2.1⟩ [a4.Load,a4.Load,a4.Least,w64 (Int.tdiv a4.Load 3)]).bind λy25=>(appI 9 z4.2.2 [y25.1]).bind λy27=>some (.next (y25.2.L,y25.2.At,y27))
def W8(x1:Aa)(z5:Int×(List Int)×Int×(List Ab)):Option (Ctl (Int×(List Int)×Int×(List Ab)) Unit):=
 bif decide (z5.1<=4)then (F44 ⟨z5.2.1,z5.2.2.1⟩ 5).bind λy30=>bif (y30.1==4)then (F44 y30.2 4).bind λy33=>bif Xe x1 ⟨z5.1,y33.1⟩ then (appI 17 z5.2.2.2 [⟨z5.1,y33.1⟩]).bind λy36=>some (.next (w64 (z5.1+1),y33.2.L,y33.2.At,y36)) else some (.next (w64 (z5.1+1),y33.2.L,y33.2.At,z5.2.2.2)) else some (.next (w64 (z5.1+1),y30.2.L,y30.2.At,z5.2.2.2)) else some (.brk (z5.1,z5.2.1,z5.2.2.1,z5.2.2.2))
def Xd(x0:Af)(x1:Aa):Option (Ad×Af):=
 andThen (whileN (Xc x1) 1152921504606846976 (0,x0.L,x0.At,[])) (λ_=>none) λz0=>andThen (whileN (Xb x1) 1152921504606846976 (0,z0.2.2.2)) (λ_=>none) λz1=>andThen (whileN (W_ x1) 1152921504606846976 (0,z0.2.1,z0.2.2.1,[])) (λ_=>none) λz3=>andThen (foldI W9 x1.Ag 0 (z3.2.1,z3.2.2.1,[])) (λ_=>none) λz4=>andThen (whileN (W8 x1) 7 (1,z4.1,z4.2.1,[])) (λ_=>none) λz5=>some (⟨z1.2,z3.2.2.2,z4.2.2,z5.2.2.2⟩,⟨z5.2.1,z5.2.2.1⟩)
def Aed(x0:Af)(x1:Aa):Option (Ad×Af):=
 (Xd x0 x1).bind λy1=>(Abp x1 y1.1).bind λy3=>some (y3.1,y1.2)
def Ah8(x1:Aa)(z0:Int×(List Int)×Int×(List Bb)):Option (Ctl (Int×(List Int)×Int×(List Bb)) Unit):=
 bif decide (z0.1<x1.Am)then (F67 ⟨z0.2.1,z0.2.2.1⟩ (-1) 4).bind λy6=>(F67 y6.2 (-1) 4).bind λy8=>(appI 17 z0.2.2.2 [⟨y6.1,y8.1⟩]).bind λy10=>some (.next (w64 (z0.1+1),y8.2.L,y8.2.At,y10)) else some (.brk (z0.1,z0.2.1,z0.2.2.1,z0.2.2.2))
def uL(x0:Af)(x1:Aa):Option (As×Af):=
 (F67 x0 5 20).bind λy1=>(Aed y1.2 x1).bind λy3=>andThen (whileN (Ah8 x1) 1152921504606846976 (0,y3.2.L,y3.2.At,[])) (λ_=>none) λz0=>some (⟨y1.1,y3.1,z0.2.2.2,[]⟩,⟨z0.2.1,z0.2.2.1⟩)
def F11(x0:Af):Option (Ba×As×Af):=
 (F43 x0).bind λy1=>(F44 y1.2 2).bind λy3=>bif (y3.1==1)then (F45 y3.2).bind λy6=>(uL y6.2 y6.1.Board).bind λy8=>some (y6.1,y8.1,y8.2) else (uL y3.2 y1.1.Board).bind λy10=>some (y1.1,y10.1,y10.2)
def F48(x0:Af):Option (Ab×Af):=
 (F67 x0 1 9).bind λy1=>(F44 y1.2 4).bind λy3=>some (⟨y1.1,y3.1⟩,y3.2)
def Avv(z0:Int×(List Int)×Int×(List Ab)):Option (Ctl (Int×(List Int)×Int×(List Ab)) Unit):=
 bif decide (z0.1>0)then (F48 ⟨z0.2.1,z0.2.2.1⟩).bind λy4=>(appI 17 z0.2.2.2 [y4.1]).bind λy6=>some (.next (w64 (z0.1-1),y4.2.L,y4.2.At,y6)) else some (.brk (z0.1,z0.2.1,z0.2.2.1,z0.2.2.2))
def F13(x0:Af)(x1:Int):Option ((List Ab)×Af):=
 (F44 x0 (w64 (x1+1))).bind λy1=>andThen (whileN Avv 1152921504606846976 (y1.1,y1.2.L,y1.2.At,[])) (λ_=>none) λz0=>some (z0.2.2.2,⟨z0.2.1,z0.2.2.1⟩)
def Avw(n0:Nat)(a0:Ab)(z0:(List Ab)):Option (Ctl ((List Ab)) Unit):=
 bif decide (a0.Kind>4)then (X2 z0 a0).bind λy4=>some (.next y4) else some (.next z0)
def F12(x0:Af):Option ((List Ab)×Af):=
 (F13 x0 3).bind λy1=>andThen (foldI Avw y1.1 0 []) (λ_=>none) λz0=>some (z0,y1.2)
def F19(x0:Af):Option (A4×Af):=
 (F67 x0 (-60) 60).bind λy1=>(F67 y1.2 (-60) 60).bind λy3=>(F67 y3.2 (-900) 900).bind λy5=>some (⟨y1.1,y3.1,y5.1⟩,y5.2)
def Az9(x0:A4):Bool:=((decide (x0.Surge<(-1000000))) || (decide (x0.Surge>1000000)))
def Az8(x0:A4):Bool:=((decide (x0.Sway<(-1000000))) || (decide (x0.Sway>1000000)))
def Az7(x0:A4):Bool:=((decide (x0.Yaw<(-1000000))) || (decide (x0.Yaw>1000000)))
def F65(x0:A4):Bool:=
 bif (Az9 x0)then false else bif (Az8 x0)then false else bif (Az7 x0)then false else true
def A8d(x0:Int)(x1:Int):Bool:=decide ((Int.tmod (w64 ((w64 (2*x0))+x1)) (w64 (2*x1)))<0)
def F66(x0:Int)(x1:Int):Option Int:=
 (nzI (w64 (2*x1))).bind λu2=>(nzI (w64 (2*x1))).bind λu4=>bif (A8d x0 x1)then some (w64 ((w64 (Int.tdiv (w64 ((w64 (2*x0))+x1)) (w64 (2*x1))))-1)) else some (w64 (Int.tdiv (w64 ((w64 (2*x0))+x1)) (w64 (2*x1))))
def A8k(x0:A4)(x1:Int):Bool:=(((!(F65 x0)) || (decide (x1<0))) || (decide (x1>200)))
def F18(x0:A4)(x1:Int):Option A4:=
 bif (A8k x0 x1)then some ⟨0,0,0⟩ else (F66 (w64 (x0.Surge*x1)) 100).bind λy2=>(F66 (w64 (x0.Sway*x1)) 100).bind λy4=>(F66 (w64 (x0.Yaw*x1)) 100).bind λy6=>some ⟨y2,y4,y6⟩
def A0c(x1:Ab)(a0:Ab):Bool:=((a0.Kind==x1.Kind)&&((a0.Number==x1.Number)&&true))
def Ai3(x1:Ab)(n0:Nat)(a0:Ab)(z0:Unit):Option (Ctl Unit Bool):=
 bif (A0c x1 a0)then some (.ret true) else some (.next ())
def F23(x0:List Ab)(x1:Ab):Option Bool:=
 andThen (foldI (Ai3 x1) x0 0 ()) some λz0=>some false
def Apx(x0:Bu):Int:=
 Er (w64 (x0.To-x0.From))
def Ws(x0:Bu):Bool:=
 (((((decide (x0.From>=0))&&(decide (x0.From<3600)))&&(decide (x0.To>=0)))&&(decide (x0.To<3600)))&&(decide ((Apx x0)<=1799)))
def At7(x0:An):Bool:=(((((((((((decide (x0.Kind<1)) || (decide (x0.Kind>3))) || (decide (x0.Station<0))) || (decide (x0.Station>1))) || (decide (x0.Max<0))) || (decide (x0.Max>5000))) || (decide (x0.Rate<0))) || (decide (x0.Rate>5000))) || (decide (x0.Cost<1))) || (decide (x0.Cost>100))) || (decide ((x0.B5.length:Int)>4)))
def Amq(n0:Nat)(a0:Bu)(z0:Unit):Option (Ctl Unit Bool):=
 bif !(Ws a0)then some (.ret false) else some (.next ())
def Aja(x0:An):Option Bool:=
 bif (At7 x0)then some false else andThen (foldI Amq x0.B5 0 ()) some λz0=>some true
def Aul(x0:A3):Bool:=(((((decide (x0.Bow<0)) || (decide (x0.Bow>200))) || (decide (x0.Stern<0))) || (decide (x0.Stern>200))) || ((w64 (x0.Bow+x0.Stern))==0))
def Am5(n0:Nat)(a0:An)(z0:Unit):Option (Ctl Unit Int):=
 (Aja a0).bind λy3=>bif !y3 then some (.ret 14) else some (.next ())
def Abo(x0:A3):Option Int:=
 bif decide ((x0.Av.length:Int)>8)then some 2 else bif (Aul x0)then some 1 else andThen (foldI Am5 x0.Av 0 ()) some λz0=>some 0
def Apt(x0:Int)(x1:Int):Bool:=
 ((decide (x0>=(w64 (0-x1))))&&(decide (x0<=x1)))
def Aam(x0:Int)(x1:Int):Bool:=
 (((Apt x0 1000000000000000000)&&(decide (x1>=1)))&&(decide (x1<=1000000000)))
def Ay5(x0:Int)(x1:Int):Option Int:=
 (nzI x1).bind λu2=>(nzI x1).bind λu4=>bif decide ((Int.tmod x0 x1)<0)then some (w64 ((w64 (Int.tdiv x0 x1))-1)) else some (w64 (Int.tdiv x0 x1))
def Ait(x0:Int)(x1:Int):Option (Int×Int):=
 bif !(Aam x0 x1)then some (0,1) else (Ay5 (w64 ((w64 (2*x0))+x1)) (w64 (2*x1))).bind λy2=>some (y2,0)
def At4(x0:Bc):Bool:=((decide (x0.Surge<(-500000))) || (decide (x0.Surge>500000)))
def At3(x0:Bc):Bool:=((decide (x0.Bow<(-500000))) || (decide (x0.Bow>500000)))
def At2(x0:Bc):Bool:=((decide (x0.Stern<(-500000))) || (decide (x0.Stern>500000)))
def Qb(x0:Bc):Bool:=
 bif (At4 x0)then false else bif (At3 x0)then false else bif (At2 x0)then false else true
def Ahb(x1:A4):Bool:=((((((decide (x1.Surge<(-5000))) || (decide (x1.Surge>5000))) || (decide (x1.Sway<(-5000)))) || (decide (x1.Sway>5000))) || (decide (x1.Yaw<(-500000)))) || (decide (x1.Yaw>500000)))
def Aha(x1:A4)(y5:Int×Int):Bool:=!(Qb (⟨x1.Surge,y5.1,w64 (x1.Sway-y5.1)⟩:Bc))
def Aqg(x0:A3)(x1:A4):Option (Bc×Int):=
 (Abo x0).bind λy1=>bif (y1 != 0)then some (⟨0,0,0⟩,y1) else bif (Ahb x1)then some (⟨0,0,0⟩,1) else (Ait (w64 (x1.Yaw+(w64 (x1.Sway*x0.Stern)))) (w64 (x0.Bow+x0.Stern))).bind λy5=>bif (Aha x1 y5)then some (⟨0,0,0⟩,1) else some (⟨x1.Surge,y5.1,w64 (x1.Sway-y5.1)⟩,0)
def Aqs(x0:A3)(x1:A4):Option (Bc×Int):=
 bif !(F65 x1)then some (⟨0,0,0⟩,1) else (Aqg x0 ⟨w64 (0-x1.Surge),w64 (0-x1.Sway),w64 (0-x1.Yaw)⟩).bind λy2=>some (y2.1,y2.2)
def Ag4(x0:A3)(x1:List Int)(x2:List A6):Bool:=(((x1.length:Int) != (x0.Av.length:Int)) || (((x2.length:Int) != 0)&&((x2.length:Int) != (x0.Av.length:Int))))
def Ais(x0:A3)(x1:List Int)(x2:List A6):Option Int:=
 (Abo x0).bind λy1=>bif (y1 != 0)then some y1 else bif (Ag4 x0 x1 x2)then some 8 else some 0
def Atq(a0:Int):Bool:=((decide (a0<0)) || (decide (a0>5000)))
def Al4(n0:Nat)(a0:Int)(z0:Unit):Option (Ctl Unit Bool):=
 bif (Atq a0)then some (.ret false) else some (.next ())
def A5z(a1:A6):Bool:=((((decide (a1.X<(-5000))) || (decide (a1.X>5000))) || (decide (a1.Y<(-5000)))) || (decide (a1.Y>5000)))
def A2n(n1:Nat)(a1:A6)(z1:Unit):Option (Ctl Unit Bool):=
 bif (A5z a1)then some (.ret false) else some (.next ())
def Air(x0:List Int)(x1:List A6):Option Bool:=
 andThen (foldI Al4 x0 0 ()) some λz0=>andThen (foldI A2n x1 0 ()) some λz1=>some true
def Hl(x0:An)(x1:Int):An:=
 ⟨x0.Kind,x0.Station,min x0.Max (max x1 0),x0.Rate,x0.Cost,x0.B5⟩
def Zr(x0:Int)(x1:Int):Bool:=
 ((((decide (x0>=(-1000000000)))&&(decide (x0<=1000000000)))&&(decide (x1>=(-1000000000))))&&(decide (x1<=1000000000)))
def L9(rec396:Int->Option Int)(x0:Int):Option Int:=
 bif decide ((Er x0)>1800)then (rec396 (w64 ((Er x0)-1800))).bind λy2=>some (w64 (0-y2)) else (Ait (w64 (40000*(w64 ((Er x0)*(w64 (1800-(Er x0))))))) (w64 (4050000-(w64 ((Er x0)*(w64 (1800-(Er x0)))))))).bind λy4=>some y4.1
def Tr:Nat->Int->Option Int
 |0=>λ_=>none
 |n+1=>L9 (Tr n)
def zX(x0:Int):Option Int:=Tr 1000 x0
def Aie(x0:Int):Option Int:=
 (zX (w64 ((Er x0)+900))).bind λy1=>some y1
def Aif(x0:Int)(x1:Int)(x2:Int):Option Int:=
 bif !(Zr x1 x2)then some 0 else (Aie x0).bind λy2=>(zX x0).bind λy4=>some (w64 ((w64 (y2*x2))-(w64 (y4*x1))))
def Agy(x0:Bu)(x1:Int)(x2:Int):Bool:=(((!(Ws x0)) || (!(Zr x1 x2))) || ((x1==0)&&(x2==0)))
def Apr(x0:Bu)(x1:Int)(x2:Int):Option Bool:=
 bif (Agy x0 x1 x2)then some false else (Aif x0.From x1 x2).bind λy2=>(Aif x0.To x1 x2).bind λy4=>(Au [(((decide (y2>=0))&&(decide (y4<=0))),true),(decide (y2>0),false)] (Aie x0.From) default).bind λy6=>(Au [(((decide (y2>=0))&&(decide (y4<=0))),true),(decide (y2>0),false)] (zX x0.From) default).bind λy8=>some (((decide (y2>=0))&&(decide (y4<=0)))&&((decide (y2>0)) || (decide ((w64 ((w64 (y6*x1))+(w64 (y8*x2))))>0))))
def qZ(x0:An)(x1:Int)(x2:Int)(y1:Bool):Bool:=((((((!y1) || (decide (x1<(w64 (0-x0.Max))))) || (decide (x1>x0.Max))) || (decide (x2<(w64 (0-x0.Max))))) || (decide (x2>x0.Max))) || (decide ((w64 ((w64 (x1*x1))+(w64 (x2*x2))))>(w64 (x0.Max*x0.Max)))))
def qY(x0:An)(x1:Int)(x2:Int):Bool:=(((x0.Kind==1)&&(x1 != 0)) || ((x0.Kind==2)&&(x2 != 0)))
def Al2(x1:Int)(x2:Int)(n0:Nat)(a0:Bu)(z0:Unit):Option (Ctl Unit Bool):=
 (Apr a0 x1 x2).bind λy5=>bif y5 then some (.ret false) else some (.next ())
def Wf(x0:An)(x1:Int)(x2:Int):Option Bool:=
 (Aja x0).bind λy1=>bif (qZ x0 x1 x2 y1)then some false else bif (qY x0 x1 x2)then some false else andThen (foldI (Al2 x1 x2) x0.B5 0 ()) some λz0=>some true
def Aau(x0:An)(z0:Int):Option (Ctl Int Unit):=
 (Wf x0 0 (w64 (z0-1))).bind λy3=>bif y3 then some (.next (w64 (z0-1))) else some (.brk z0)
def Aat(x0:An)(z1:Int):Option (Ctl Int Unit):=
 (Wf x0 0 (w64 (z1+1))).bind λy8=>bif y8 then some (.next (w64 (z1+1))) else some (.brk z1)
def Aav(x0:An):Option (Int×Int):=
 andThen (whileN (Aau x0) 1152921504606846976 0) (λ_=>none) λz0=>andThen (whileN (Aat x0) 1152921504606846976 0) (λ_=>none) λz1=>some (z0,z1)
def A5y(x0:Int):Bool:=((decide (x0<(-1000000000))) || (decide (x0>1000000000)))
def A5x(x1:Int):Bool:=((decide (x1<(-1000000000))) || (decide (x1>1000000000)))
def A5w(x2:Int):Bool:=((decide (x2<(-1000000000))) || (decide (x2>1000000000)))
def A5v(x3:Int):Bool:=((decide (x3<(-1000000000))) || (decide (x3>1000000000)))
def A5u(x0:Int)(x1:Int)(x3:Int):Bool:=((decide (x0>x1)) || (decide (x3<0)))
def A5t(x0:Int)(x1:Int)(x2:Int)(x3:Int):Bool:=decide ((max x0 (w64 (x2-x3)))<=(min x1 (w64 (x2+x3))))
def Zv(x0:Int)(x1:Int)(x2:Int)(x3:Int):Int×Int:=
 bif (A5y x0)then (x0,x1) else bif (A5x x1)then (x0,x1) else bif (A5w x2)then (x0,x1) else bif (A5v x3)then (x0,x1) else bif (A5u x0 x1 x3)then (x0,x1) else bif (A5t x0 x1 x2 x3)then (max x0 (w64 (x2-x3)),min x1 (w64 (x2+x3))) else bif decide (x2<x0)then (x0,x0) else (x1,x1)
def At5(x3:Int)(y4:Bool):Bool:=(((!y4) || (decide (x3<0))) || (decide (x3>1)))
def Amp(x1:List Int)(x2:List A6)(x3:Int)(n0:Nat)(a0:An)(z0:(List Ay)):Option (Ctl ((List Ay)) Unit):=
 bif (a0.Station==x3)then (getI x1 (cnt 0 n0)).bind λy8=>(Aav (Hl a0 y8)).bind λy10=>bif decide ((x2.length:Int)>0)then (getI x2 (cnt 0 n0)).bind λy13=>(appI 25 z0 [⟨(Zv y10.1 y10.2 y13.Y a0.Rate).1,(Zv y10.1 y10.2 y13.Y a0.Rate).2,a0.Cost⟩]).bind λy15=>some (.next y15) else (appI 25 z0 [⟨y10.1,y10.2,a0.Cost⟩]).bind λy17=>some (.next y17) else (appI 25 z0 [⟨0,0,a0.Cost⟩]).bind λy19=>some (.next y19)
def Ai8(x0:A3)(x1:List Int)(x2:List A6)(x3:Int):Option ((List Ay)×Int):=
 (Ais x0 x1 x2).bind λy1=>bif (y1 != 0)then some ([],y1) else (Air x1 x2).bind λy4=>bif (At5 x3 y4)then some ([],1) else andThen (foldI (Amp x1 x2 x3) x0.Av 0 []) (λ_=>none) λz0=>some (z0,0)
def A5k(a0:Ay):Bool:=(((((decide (a0.Low<(-5000))) || (decide (a0.Low>a0.High))) || (decide (a0.High>5000))) || (decide (a0.Cost<1))) || (decide (a0.Cost>100)))
def A2h(n0:Nat)(a0:Ay)(z0:Unit):Option (Ctl Unit Int):=
 bif (A5k a0)then some (.ret 1) else some (.next ())
def A69(x0:List Ay):Option Int:=
 bif decide ((x0.length:Int)>8)then some 2 else andThen (foldI A2h x0 0 ()) some λz0=>some 0
def A2m(n0:Nat)(a0:Ay)(z0:Int×Int):Option (Ctl (Int×Int) Unit):=
 some (.next (w64 (z0.1+a0.Low),w64 (z0.2+a0.High)))
def Ay9(x0:List Ay):Option (Int×Int×Int):=
 (A69 x0).bind λy1=>bif (y1 != 0)then some (0,0,y1) else andThen (foldI A2m x0 0 (0,0)) (λ_=>none) λz0=>some (z0.1,z0.2,0)
def Aas(x0:Ay)(x1:Int):Int:=
 w64 (x0.Cost*(w64 ((w64 (2*x1))+1)))
def At1(x1:Int):Bool:=((decide (x1<(-500000))) || (decide (x1>500000)))
def Amo(n0:Nat)(a0:Ay)(z0:(List Int)):Option (Ctl ((List Int)) Unit):=
 (appI 9 z0 [a0.Low]).bind λy5=>some (.next y5)
def Ag9(x1:Int)(y1:Int×Int×Int)(z1:Int×(List Int)):Bool:=decide (z1.1<(min (max x1 y1.1) y1.2.1))
def Vw(z2:Int)(a2:Ay)(y8:Int)(y10:Ay)(y12:Int):Bool:=((decide (y8<a2.High))&&((decide (z2<0)) || (decide ((Aas a2 y8)<(Aas y10 y12)))))
def Aa8(x0:List Ay)(z1:Int×(List Int))(n2:Nat)(a2:Ay)(z2:Int):Option (Ctl Int Unit):=
 (getI z1.2 (cnt 0 n2)).bind λy8=>(Au [(decide (y8<a2.High),true),(decide (z2<0),false)] (getI x0 z2) default).bind λy10=>(Au [(decide (y8<a2.High),true),(decide (z2<0),false)] (getI z1.2 z2) default).bind λy12=>bif (Vw z2 a2 y8 y10 y12)then some (.next (cnt 0 n2)) else some (.next z2)
def Amn(x0:List Ay)(x1:Int)(y1:Int×Int×Int)(z1:Int×(List Int)):Option (Ctl (Int×(List Int)) Unit):=
 bif (Ag9 x1 y1 z1)then andThen (foldI (Aa8 x0 z1) x0 0 (-1)) (λ_=>none) λz2=>(getI z1.2 z2).bind λy15=>(setI z1.2 z2 (w64 (y15+1))).bind λy17=>some (.next (w64 (z1.1+1),y17)) else some (.brk (z1.1,z1.2))
def Zx(x0:List Ay)(x1:Int):Option ((List Int)×Int×Int):=
 (Ay9 x0).bind λy1=>bif (y1.2.2 != 0)then some ([],0,y1.2.2) else bif (At1 x1)then some ([],0,1) else andThen (foldI Amo x0 0 []) (λ_=>none) λz0=>andThen (whileN (Amn x0 x1 y1) 1152921504606846976 (y1.1,z0)) (λ_=>none) λz1=>some (z1.2,w64 (x1-(min (max x1 y1.1) y1.2.1)),0)
def Aaq(x0:An)(x1:Int)(z0:Int):Option (Ctl Int Unit):=
 (Wf x0 (w64 (z0-1)) x1).bind λy6=>bif y6 then some (.next (w64 (z0-1))) else some (.brk z0)
def Aap(x0:An)(x1:Int)(z1:Int):Option (Ctl Int Unit):=
 (Wf x0 (w64 (z1+1)) x1).bind λy11=>bif y11 then some (.next (w64 (z1+1))) else some (.brk z1)
def Aar(x0:An)(x1:Int):Option (Int×Int):=
 (Wf x0 0 x1).bind λy1=>bif !y1 then some (0,0) else andThen (whileN (Aaq x0 x1) 1152921504606846976 0) (λ_=>none) λz0=>andThen (whileN (Aap x0 x1) 1152921504606846976 0) (λ_=>none) λz1=>some (z0,z1)
def At0(x0:A3)(x3:List Int):Bool:=((x3.length:Int) != (x0.Av.length:Int))
def Atz(a0:Int):Bool:=((decide (a0<(-5000))) || (decide (a0>5000)))
def Amm(n0:Nat)(a0:Int)(z0:Unit):Option (Ctl Unit ((List Ay)×Int)):=
 bif (Atz a0)then some (.ret ([],1)) else some (.next ())
def Aml(x1:List Int)(x2:List A6)(x3:List Int)(n1:Nat)(a1:An)(z1:(List Ay)):Option (Ctl ((List Ay)) Unit):=
 (getI x1 (cnt 0 n1)).bind λy9=>(getI x3 (cnt 0 n1)).bind λy11=>(Aar (Hl a1 y9) y11).bind λy13=>bif decide ((x2.length:Int)>0)then (getI x2 (cnt 0 n1)).bind λy16=>(appI 25 z1 [⟨(Zv y13.1 y13.2 y16.X a1.Rate).1,(Zv y13.1 y13.2 y16.X a1.Rate).2,a1.Cost⟩]).bind λy18=>some (.next y18) else (appI 25 z1 [⟨y13.1,y13.2,a1.Cost⟩]).bind λy20=>some (.next y20)
def Aqf(x0:A3)(x1:List Int)(x2:List A6)(x3:List Int):Option ((List Ay)×Int):=
 (Ais x0 x1 x2).bind λy1=>bif (y1 != 0)then some ([],y1) else bif (At0 x0 x3)then some ([],8) else (Air x1 x2).bind λy5=>bif !y5 then some ([],1) else andThen (foldI Amm x3 0 ()) some λz0=>andThen (foldI (Aml x1 x2 x3) x0.Av 0 []) (λ_=>none) λz1=>some (z1,0)
def Aiu(x0:A6):Bool:=
 ((((decide (x0.X>=(-5000)))&&(decide (x0.X<=5000)))&&(decide (x0.Y>=(-5000))))&&(decide (x0.Y<=5000)))
def A57(x0:A3)(x1:List A6):Bool:=((x1.length:Int) != (x0.Av.length:Int))
def Aa7(x0:A3)(n0:Nat)(a0:A6)(z0:Int×Int×Int):Option (Ctl (Int×Int×Int) (Bc×Int)):=
 bif !(Aiu a0)then some (.ret (⟨0,0,0⟩,1)) else (getI x0.Av (cnt 0 n0)).bind λy6=>bif (y6.Station==0)then some (.next (w64 (z0.1+a0.X),w64 (z0.2.1+a0.Y),z0.2.2)) else some (.next (w64 (z0.1+a0.X),z0.2.1,w64 (z0.2.2+a0.Y)))
def Aqe(x0:A3)(x1:List A6):Option (Bc×Int):=
 (Abo x0).bind λy1=>bif (y1 != 0)then some (⟨0,0,0⟩,y1) else bif (A57 x0 x1)then some (⟨0,0,0⟩,8) else andThen (foldI (Aa7 x0) x1 0 (0,0,0)) some λz0=>some (⟨z0.1,z0.2.1,z0.2.2⟩,0)
def Aza(x0:Bc)(x1:Bc):Bc:=
 ⟨w64 (x0.Surge-x1.Surge),w64 (x0.Bow-x1.Bow),w64 (x0.Stern-x1.Stern)⟩
def Ahi(x0:A3)(z0:Int×(List Int)):Bool:=decide (z0.1<(x0.Av.length:Int))
def Am4(x0:A3)(y7:(List Int)×Int×Int)(y9:(List Int)×Int×Int)(z0:Int×(List Int)):Option (Ctl (Int×(List Int)) Unit):=
 bif (Ahi x0 z0)then (getI y7.1 z0.1).bind λy12=>(getI y9.1 z0.1).bind λy14=>(appI 9 z0.2 [w64 (y12+y14)]).bind λy16=>some (.next (w64 (z0.1+1),y16)) else some (.brk (z0.1,z0.2))
def Ahh(x0:A3)(z1:Int×(List A6)):Bool:=decide (z1.1<(x0.Av.length:Int))
def Am3(x0:A3)(z0:Int×(List Int))(y20:(List Int)×Int×Int)(z1:Int×(List A6)):Option (Ctl (Int×(List A6)) Unit):=
 bif (Ahh x0 z1)then (getI y20.1 z1.1).bind λy23=>(getI z0.2 z1.1).bind λy25=>(appI 17 z1.2 [⟨y23,y25⟩]).bind λy27=>some (.next (w64 (z1.1+1),y27)) else some (.brk (z1.1,z1.2))
def Ajk(x0:A3)(x1:List Int)(x2:List A6)(x3:Bc):Option (Gf×Int):=
 (Ai8 x0 x1 x2 0).bind λy1=>bif (y1.2 != 0)then some (⟨[],⟨0,0,0⟩,⟨0,0,0⟩⟩,y1.2) else bif !(Qb x3)then some (⟨[],⟨0,0,0⟩,⟨0,0,0⟩⟩,1) else (Ai8 x0 x1 x2 1).bind λy5=>(Zx y1.1 x3.Bow).bind λy7=>(Zx y5.1 x3.Stern).bind λy9=>andThen (whileN (Am4 x0 y7 y9) 1152921504606846976 (0,[])) (λ_=>none) λz0=>(Aqf x0 x1 x2 z0.2).bind λy18=>(Zx y18.1 x3.Surge).bind λy20=>andThen (whileN (Am3 x0 z0 y20) 1152921504606846976 (0,[])) (λ_=>none) λz1=>(Aqe x0 z1.2).bind λy29=>some (⟨z1.2,y29.1,(Aza x3 y29.1)⟩,0)
def F70(x0:A3)(x1:List Int)(x2:A4):Option (Bc×Int):=
 (Aqs x0 x2).bind λy1=>bif (y1.2 != 0)then some (⟨0,0,0⟩,y1.2) else (Ajk x0 x1 [] y1.1).bind λy4=>bif (y4.2 != 0)then some (⟨0,0,0⟩,y4.2) else some (y4.1.Missing,0)
def F24(x0:A3)(x1:List Int)(x2:A4):Option Bool:=
 (F70 x0 x1 x2).bind λy1=>some ((y1.2==0)&&((y1.1.Surge==0)&&((y1.1.Bow==0)&&((y1.1.Stern==0)&&true))))
def A0i(y6:Ba×As×Af)(y8:(List Ab)×Af)(y14:A4)(y16:(List Ab))(n0:Nat)(a0:Ab)(z0:Bool):Option (Ctl Bool Bool):=
 (F23 y16 a0).bind λy20=>bif y20 then some (.next z0) else (F14 y6.1 y6.2.1 y8.1 [a0]).bind λy23=>bif (y23.2.2 != 0)then some (.ret false) else (Au [(z0,true)] (F24 y6.1.Ship y23.2.1 y14) default).bind λy26=>some (.next (z0&&y26))
def F4(x0:List Int):Option Bool:=
 bif decide ((x0.length:Int)>600)then (F9).bind λy2=>some y2 else (F10 x0).bind λy4=>(F11 y4).bind λy6=>(F12 y6.2.2).bind λy8=>(F19 y8.2).bind λy10=>(F20 y10.2 [0,10,50,100]).bind λy12=>(F18 y10.1 y12.1).bind λy14=>(F21 y6.1.Design y6.2.1 y8.1).bind λy16=>(F22 y6.1 y6.2.1 y8.1 y14).bind λy18=>andThen (foldI (A0i y6 y8 y14 y16) y6.1.Design.Parts 0 y18) some λz0=>(F25 y6.1 y6.2.1 y8.1 y14).bind λy28=>(Au [((y28==z0),true)] (F9) default).bind λy30=>some ((y28==z0)&&y30)
end Go.Proofs.YtiaaaghdkhnonaaGreat
