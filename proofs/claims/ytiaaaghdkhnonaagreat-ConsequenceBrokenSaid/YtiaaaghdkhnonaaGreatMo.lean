import Derived.Test.YtiaaaghdkhnonaaGreatTy
import Derived.Test.YtiaaaghdkhnonaaGreatFo
set_option linter.unusedVariables false
namespace Go.Proofs.YtiaaaghdkhnonaaGreat
open Go.SL
abbrev Sg0:=(List Int)×Int×(List Bool)×(List Aj)×(List Int)×(List Aa)×(List A_)×(List Bv)
abbrev Sg1:=Int×(List Bool)×(List Aj)×(List Int)×(List Aa)×(List A_)×(List Bv)
abbrev Sg2:=Int×(List Bool)×(List Aj)×(List Int)×(List Aa)×(List A_)×(List Ad)×(List Bv)
abbrev Sg3:=Int×(List Int)×Int×(List Ak)
abbrev Sg4:=Int×(List Int)×Int×(List Ak)×(List A7)
abbrev Sg5:=Int×(List Int)×Int×(List A7)
abbrev Sg6:=Int×(List Int)×Int×(List Bp)
abbrev Sg7:=Int×(List Int)×Int×(List Aj)
abbrev Sg8:=Int×(List Int)×Int×(List Iq)
abbrev Sg9:=Int×(List Ak)×(List B5)×(List A7)×Int×Int×(List Bool)×(List Aj)×(List Int)×(List Aa)×(List Aw)
abbrev Alw:=Int×(List Ak)×(List B5)×(List A7)×Int×Int×(List Int)×(List Bool)×(List Aj)×(List Int)×(List Aa)×(List Aw)
def Cg(x0:Int)(x1:Int)(x2:Int):Bool:=
 ((decide (x0>=x1))&&(decide (x0<=x2)))
def Kx(x1:Int)(x2:Int)(a0:Ak):Bool:=((a0.Kind==x1)&&((a0.B==x2) || ((x1==1)&&(a0.A==x2))))
def Ajv(x1:Int)(x2:Int)(n0:Nat)(a0:Ak)(z0:(List Int)):Option (Ctl ((List Int)) Unit):=
 bif (Kx x1 x2 a0)then (appI 9 z0 [cnt 0 n0]).bind λy2=>some (.next y2) else some (.next z0)
def Su(x0:Ab)(x1:Int)(x2:Int):Option ((List Int)):=
 andThen (foldI (Ajv x1 x2) x0.Ah 0 []) (λ_=>none) λz0=>some z0
def Aqf(x0:Ab)(a0:Ak):Bool:=!(Cg a0.B (w64 (a0.A+1)) (w64 (x0.Am-1)))
def Aqe(x0:Ab)(a0:Ak):Bool:=!(Cg a0.B 0 (w64 ((x0.Ae.length:Int)-1)))
def Aqd(x0:Ab)(a0:Ak):Bool:=!(Cg a0.B 0 (w64 ((x0.Ag.length:Int)-1)))
def Ad3(a0:Ak)(a1:Ak):Bool:=((a1.Kind==a0.Kind)&&((a1.A==a0.A)&&((a1.B==a0.B)&&true)))
def vJ(a0:Ak)(n1:Nat)(a1:Ak)(z1:Unit):Option (Ctl Unit Bool):=
 bif (Ad3 a0 a1)then some (.ret false) else some (.next ())
def Aji(x0:Ab)(n0:Nat)(a0:Ak)(z0:Unit):Option (Ctl Unit Bool):=
 bif !(Cg a0.A 0 (w64 (x0.Am-1)))then some (.ret false) else bif (a0.Kind==1)then bif (Aqf x0 a0)then some (.ret false) else some (.next ()) else bif (a0.Kind==2)then bif (Aqe x0 a0)then some (.ret false) else some (.next ()) else bif (a0.Kind==3)then bif (Aqd x0 a0)then some (.ret false) else (cutI x0.Ah 0 (cnt 0 n0)).bind λy9=>andThen (foldI (vJ a0) y9 0 ()) (λv=>some (.ret v)) λz1=>some (.next ()) else some (.ret false)
def Aik(x0:Ab)(z2:Int):Bool:=decide (z2<(x0.Ae.length:Int))
def Ajh(x0:Ab)(z2:Int):Option (Ctl Int Bool):=
 bif (Aik x0 z2)then (Su x0 2 z2).bind λy12=>bif ((y12.length:Int) != 1)then some (.ret false) else some (.next (w64 (z2+1))) else some (.brk z2)
def Aij(x0:Ab)(z3:Int):Bool:=decide (z3<(x0.Ag.length:Int))
def Ajg(x0:Ab)(z3:Int):Option (Ctl Int Bool):=
 bif (Aij x0 z3)then (Su x0 3 z3).bind λy16=>bif decide ((y16.length:Int)<1)then some (.ret false) else some (.next (w64 (z3+1))) else some (.brk z3)
def Amx(x0:Ab):Option Bool:=
 andThen (foldI (Aji x0) x0.Ah 0 ()) some λz0=>andThen (whileN (Ajh x0) 1152921504606846976 0) some λz2=>andThen (whileN (Ajg x0) 1152921504606846976 0) some λz3=>some true
def Aqc(a0:B5):Bool:=(((!(Cg a0.Rating 1 50000)) || (!(Cg a0.Least 0 a0.Rating))) || (!(Cg a0.Start 0 600)))
def Ajf(n0:Nat)(a0:B5)(z0:Unit):Option (Ctl Unit Bool):=
 bif (Aqc a0)then some (.ret false) else some (.next ())
def Amw(x0:Ab):Option Bool:=
 andThen (foldI Ajf x0.Ae 0 ()) some λz0=>some true
def Aqb(a0:A7):Bool:=(((((!(Cg a0.Load 0 50000)) || (!(Cg a0.Least 0 a0.Load))) || (!(Cg a0.B2 0 15))) || (!(Cg a0.Thruster (-1) 7))) || (decide ((a0.Needs.length:Int)>4)))
def Aqa(n0:Nat)(n1:Nat)(a1:Int)(y2:Int):Bool:=((!(Cg a1 0 (w64 ((cnt 0 n0)-1)))) || ((decide ((cnt 0 n1)>0))&&(decide (y2>=a1))))
def Ajd(n0:Nat)(a0:A7)(n1:Nat)(a1:Int)(z1:Unit):Option (Ctl Unit Bool):=
 (As [(!(Cg a1 0 (w64 ((cnt 0 n0)-1))),false),(decide ((cnt 0 n1)>0),true)] (getI a0.Needs (w64 ((cnt 0 n1)-1))) default).bind λy2=>bif (Aqa n0 n1 a1 y2)then some (.ret false) else some (.next ())
def Aje(n0:Nat)(a0:A7)(z0:Unit):Option (Ctl Unit Bool):=
 bif (Aqb a0)then some (.ret false) else andThen (foldI (Ajd n0 a0) a0.Needs 0 ()) (λv=>some (.ret v)) λz1=>some (.next ())
def Amv(x0:Ab):Option Bool:=
 andThen (foldI Aje x0.Ag 0 ()) some λz0=>some true
def Ad8(x0:Ab):Bool:=(((((decide (x0.Am<1)) || (decide (x0.Am>6))) || (decide ((x0.Ah.length:Int)>24))) || (decide ((x0.Ae.length:Int)>8))) || (decide ((x0.Ag.length:Int)>16)))
def Ad7(x0:Ab)(y2:Bool)(y4:Bool)(y6:Bool):Bool:=(((((((!y2) || (!y4)) || (!y6)) || (decide (x0.Phase<0))) || (decide (x0.Phase>1800))) || (decide (x0.Aq<0))) || (decide (x0.Aq>6000)))
def X8(x0:Ab):Option Int:=
 bif (Ad8 x0)then some 2 else (Amx x0).bind λy2=>(As [(!y2,false)] (Amw x0) default).bind λy4=>(As [(((!y2) || (!y4)),false)] (Amv x0) default).bind λy6=>bif (Ad7 x0 y2 y4 y6)then some 14 else some 0
def J4(x0:Bu):Bool:=
 ((((((decide (x0.Stop>=1))&&(decide (x0.Stop<=99)))&&(decide (x0.Start>x0.Stop)))&&(decide (x0.Start<=100)))&&(decide (x0.Delay>=0)))&&(decide (x0.Delay<=600)))
def A4b(x0:Ab)(z0:Int×(List Aj)):Bool:=decide (z0.1<(x0.Ae.length:Int))
def A25(x0:Ab)(z0:Int×(List Aj)):Option (Ctl (Int×(List Aj)) Unit):=
 bif (A4b x0 z0)then (appI 33 z0.2 [⟨0,0,5000,0⟩]).bind λy8=>some (.next (w64 (z0.1+1),y8)) else some (.brk (z0.1,z0.2))
def A24(n1:Nat)(a1:A7)(z1:(List Int)):Option (Ctl ((List Int)) Unit):=
 (appI 9 z1 [a1.Load]).bind λy10=>some (.next y10)
def A23(x0:Ab)(z2:Int×(List A_)):Option (Ctl (Int×(List A_)) Unit):=
 bif decide (z2.1<x0.Am)then (appI 17 z2.2 [⟨(-1),(-1)⟩]).bind λy13=>some (.next (w64 (z2.1+1),y13)) else some (.brk (z2.1,z2.2))
def F80(x0:Ab)(x1:Bu):Option (Ar×Int):=
 (X8 x0).bind λy1=>bif (y1 != 0)then none else bif !(J4 x1)then none else (mkI 2 (x0.Ah.length:Int) false).bind λy5=>andThen (whileN (A25 x0) 1152921504606846976 (0,[])) (λ_=>none) λz0=>andThen (foldI A24 x0.Ag 0 []) (λ_=>none) λz1=>andThen (whileN (A23 x0) 1152921504606846976 (0,[])) (λ_=>none) λz2=>some (⟨0,⟨y5,z0.2,z1,[]⟩,z2.2,[]⟩,0)
def Vy(x0:Ab)(x1:Aa):Bool:=
 bif (x1.Kind==1)then Cg x1.Number 0 (w64 ((x0.Ae.length:Int)-1)) else bif (x1.Kind==2)then Cg x1.Number 0 (w64 ((x0.Ah.length:Int)-1)) else bif (x1.Kind==3)then Cg x1.Number 0 (w64 (x0.Am-1)) else bif (x1.Kind==4)then Cg x1.Number 0 (w64 ((x0.Ag.length:Int)-1)) else false
def Age(x0:Aa)(x1:Aa):Bool:=
 ((decide (x0.Kind<x1.Kind)) || ((x0.Kind==x1.Kind)&&(decide (x0.Number<x1.Number))))
def Awm(x0:Ab)(x1:Ad):Bool:=((((x1.Ai.length:Int) != (x0.Ah.length:Int)) || ((x1.Ae.length:Int) != (x0.Ae.length:Int))) || ((x1.An.length:Int) != (x0.Ag.length:Int)))
def Awl(a0:Aj):Bool:=((((!(Cg a0.State 0 3)) || (!(Cg a0.Since 0 2147483648))) || (!(Cg a0.Aq 0 6000))) || (!(Cg a0.Phase 0 3599)))
def Arj(n0:Nat)(a0:Aj)(z0:Unit):Option (Ctl Unit Int):=
 bif (Awl a0)then some (.ret 11) else some (.next ())
def Ari(x0:Ab)(n1:Nat)(a1:Int)(z1:Unit):Option (Ctl Unit Int):=
 (getI x0.Ag (cnt 0 n1)).bind λy6=>bif !(Cg a1 0 y6.Load)then some (.ret 11) else some (.next ())
def Awk(x0:Ab)(n2:Nat)(a2:Aa)(y10:Aa):Bool:=((!(Vy x0 a2)) || ((decide ((cnt 0 n2)>0))&&(!(Age y10 a2))))
def Arh(x0:Ab)(x1:Ad)(n2:Nat)(a2:Aa)(z2:Unit):Option (Ctl Unit Int):=
 (As [(!(Vy x0 a2),false),(decide ((cnt 0 n2)>0),true)] (getI x1.Al (w64 ((cnt 0 n2)-1))) default).bind λy10=>bif (Awk x0 n2 a2 y10)then some (.ret 11) else some (.next ())
def Awj(x0:Ab)(z3:Int):Bool:=decide (z3<(x0.Ag.length:Int))
def Are(x1:Ad)(n4:Nat)(a4:Int)(z4:Int):Option (Ctl Int Unit):=
 (getI x1.Ai a4).bind λy16=>bif y16 then some (.next (w64 (z4+1))) else some (.next z4)
def Arf(x0:Ab)(x1:Ad)(z3:Int):Option (Ctl Int Int):=
 bif (Awj x0 z3)then (Su x0 3 z3).bind λy14=>andThen (foldI (Are x1) y14 0 0) (λ_=>none) λz4=>bif decide (z4>1)then some (.ret 11) else some (.next (w64 (z3+1))) else some (.brk z3)
def F75(x0:Ab)(x1:Ad):Option Int:=
 (X8 x0).bind λy1=>bif (y1 != 0)then some y1 else bif (Awm x0 x1)then some 8 else andThen (foldI Arj x1.Ae 0 ()) some λz0=>andThen (foldI (Ari x0) x1.An 0 ()) some λz1=>bif decide ((x1.Al.length:Int)>32)then some 11 else andThen (foldI (Arh x0 x1) x1.Al 0 ()) some λz2=>andThen (whileN (Arf x0 x1) 1152921504606846976 0) some λz3=>some 0
def F76(x0:Ad):Option Ad:=
 (appI 2 [] x0.Ai).bind λy1=>(appI 33 [] x0.Ae).bind λy3=>(appI 9 [] x0.An).bind λy5=>(appI 17 [] x0.Al).bind λy7=>some ⟨y1,y3,y5,y7⟩
def Uu(a1:Ak)(y7:Bool)(y9:Bool)(y11:Bool):Bool:=(((a1.Kind==1)&&y7)&&(y9 || y11))
def Ajk(x1:Ad)(n1:Nat)(a1:Ak)(z1:(List Bool)):Option (Ctl ((List Bool)) Unit):=
 (As [((a1.Kind==1),true)] (getI x1.Ai (cnt 0 n1)) default).bind λy7=>(As [(((a1.Kind==1)&&y7),true)] (getI z1 a1.A) default).bind λy9=>(As [(((a1.Kind==1)&&y7),true),(y9,false)] (getI z1 a1.B) default).bind λy11=>bif (Uu a1 y7 y9 y11)then (getI z1 a1.A).bind λy14=>(setI z1 a1.A true).bind λy16=>(getI y16 a1.B).bind λy18=>(setI y16 a1.B true).bind λy20=>some (.next y20) else some (.next z1)
def Ajl(x0:Ab)(x1:Ad)(n0:Nat)(a0:Bool)(z0:(List Bool)):Option (Ctl ((List Bool)) Unit):=
 andThen (foldI (Ajk x1) x0.Ah 0 z0) (λ_=>none) λz1=>some (.next z1)
def Ajj(n2:Nat)(a2:Bool)(z2:(List Int)):Option (Ctl ((List Int)) Unit):=
 bif a2 then (appI 9 z2 [cnt 0 n2]).bind λy23=>some (.next y23) else some (.next z2)
def Amy(x0:Ab)(x1:Ad)(x2:Int):Option ((List Int)):=
 (mkI 2 x0.Am false).bind λy1=>(getI y1 x2).bind λy3=>(setI y1 x2 true).bind λy5=>andThen (foldI (Ajl x0 x1) y5 0 y5) (λ_=>none) λz0=>andThen (foldI Ajj z0 0 []) (λ_=>none) λz2=>some z2
def Zc(x0:Ab)(x2:Int)(y1:Int)(y3:Aj):Bool:=((((y1 != 0) || (decide (x2<0))) || (decide (x2>=(x0.Ae.length:Int)))) || (y3.State != 2))
def X5(x0:Ab)(x1:Ad)(x2:Int):Option (Int×Bool):=
 (F75 x0 x1).bind λy1=>(As [((((y1 != 0) || (decide (x2<0))) || (decide (x2>=(x0.Ae.length:Int)))),false)] (getI x1.Ae x2) default).bind λy3=>bif (Zc x0 x2 y1 y3)then some (0,false) else (Su x0 2 x2).bind λy6=>(getI y6 0).bind λy8=>(getI x1.Ai y8).bind λy10=>bif !y10 then some (0,false) else (getI x0.Ah y8).bind λy13=>some (y13.A,true)
def vK(x1:Int)(n0:Nat)(a0:Int)(z0:Unit):Option (Ctl Unit Bool):=
 bif (a0==x1)then some (.ret true) else some (.next ())
def Pn(x0:List Int)(x1:Int):Option Bool:=
 andThen (foldI (vK x1) x0 0 ()) some λz0=>some false
def Aqg(x0:Ab)(x2:Int)(y1:Int):Bool:=(((y1 != 0) || (decide (x2<0))) || (decide (x2>=(x0.Ag.length:Int))))
def vL(x0:Ab)(x1:Ad)(n0:Nat)(a0:Int)(z0:Unit):Option (Ctl Unit (Int×Bool)):=
 (getI x1.Ai a0).bind λy6=>bif y6 then (getI x0.Ah a0).bind λy9=>some (.ret (y9.A,true)) else some (.next ())
def Af4(x0:Ab)(x1:Ad)(x2:Int):Option (Int×Bool):=
 (F75 x0 x1).bind λy1=>bif (Aqg x0 x2 y1)then some (0,false) else (Su x0 3 x2).bind λy4=>andThen (foldI (vL x0 x1) y4 0 ()) some λz0=>some (0,false)
def Aqt(x0:Ab)(x2:Int)(y1:Int):Bool:=(((y1 != 0) || (decide (x2<0))) || (decide (x2>=x0.Am)))
def Aqs(x0:Ab)(z0:Int×(List Int)):Bool:=decide (z0.1<(x0.Ae.length:Int))
def Ajx(x0:Ab)(x1:Ad)(y4:(List Int))(z0:Int×(List Int)):Option (Ctl (Int×(List Int)) Unit):=
 bif (Aqs x0 z0)then (X5 x0 x1 z0.1).bind λy7=>(As [(y7.2,true)] (Pn y4 y7.1) default).bind λy9=>bif (y7.2&&y9)then (appI 9 z0.2 [z0.1]).bind λy12=>some (.next (w64 (z0.1+1),y12)) else some (.next (w64 (z0.1+1),z0.2)) else some (.brk (z0.1,z0.2))
def Aqr(x0:Ab)(z1:Int×(List Int)):Bool:=decide (z1.1<(x0.Ag.length:Int))
def Ajw(x0:Ab)(x1:Ad)(y4:(List Int))(z1:Int×(List Int)):Option (Ctl (Int×(List Int)) Unit):=
 bif (Aqr x0 z1)then (Af4 x0 x1 z1.1).bind λy15=>(As [(y15.2,true)] (Pn y4 y15.1) default).bind λy17=>bif (y15.2&&y17)then (appI 9 z1.2 [z1.1]).bind λy20=>some (.next (w64 (z1.1+1),y20)) else some (.next (w64 (z1.1+1),z1.2)) else some (.brk (z1.1,z1.2))
def Po(x0:Ab)(x1:Ad)(x2:Int):Option (Ap×Bool):=
 (F75 x0 x1).bind λy1=>bif (Aqt x0 x2 y1)then some (⟨[],[],[]⟩,false) else (Amy x0 x1 x2).bind λy4=>andThen (whileN (Ajx x0 x1 y4) 1152921504606846976 (0,[])) (λ_=>none) λz0=>andThen (whileN (Ajw x0 x1 y4) 1152921504606846976 (0,[])) (λ_=>none) λz1=>some (⟨y4,z0.2,z1.2⟩,true)
def Ajc(x0:Ab)(x1:Ad)(z0:Int×(List Ap)):Option (Ctl (Int×(List Ap)) Unit):=
 bif decide (z0.1<x0.Am)then (Po x0 x1 z0.1).bind λy5=>(getI y5.1.Am 0).bind λy7=>bif (y7==z0.1)then (appI 73 z0.2 [y5.1]).bind λy10=>some (.next (w64 (z0.1+1),y10)) else some (.next (w64 (z0.1+1),z0.2)) else some (.brk (z0.1,z0.2))
def vI(x0:Ab)(x1:Ad):Option ((List Ap)):=
 (F75 x0 x1).bind λy1=>bif (y1 != 0)then some [] else andThen (whileN (Ajc x0 x1) 1152921504606846976 (0,[])) (λ_=>none) λz0=>some z0.2
def Ajm(x1:Ad)(a0:Ap)(n1:Nat)(a1:Int)(z1:(List Aj)):Option (Ctl ((List Aj)) Unit):=
 (getI a0.Ae 0).bind λy5=>(getI x1.Ae y5).bind λy7=>(getI a0.Ae 0).bind λy9=>(getI x1.Ae y9).bind λy11=>(getI z1 a1).bind λy13=>(setI z1 a1 ⟨y13.State,y13.Since,y7.Aq,y13.Phase⟩).bind λy15=>(getI y15 a1).bind λy17=>(setI y15 a1 ⟨y17.State,y17.Since,y17.Aq,y11.Phase⟩).bind λy19=>some (.next y19)
def Ajn(x1:Ad)(n0:Nat)(a0:Ap)(z0:(List Aj)):Option (Ctl ((List Aj)) Unit):=
 andThen (foldI (Ajm x1 a0) a0.Ae 0 z0) (λ_=>none) λz1=>some (.next z1)
def Amz(x0:Ab)(x1:Ad):Option Ad:=
 (F76 x1).bind λy1=>(vI x0 x1).bind λy3=>andThen (foldI (Ajn x1) y3 0 y1.Ae) (λ_=>none) λz0=>some ⟨y1.Ai,z0,y1.An,y1.Al⟩
def vY(x0:Ab)(x1:Ad):Option (Ad×Int):=
 (F75 x0 x1).bind λy1=>bif (y1 != 0)then some (⟨[],[],[],[]⟩,y1) else (Amz x0 x1).bind λy4=>some (y4,0)
def Aze(x1:List Bool)(n0:Nat)(a0:Bool)(z0:Unit):Option (Ctl Unit Unit):=
 (getI x1 (cnt 0 n0)).bind λy2=>bif !(a0==y2)then none else some (.next ())
def A3p(x0:List Bool)(x1:List Bool):Option Bool:=
 bif ((x0.length:Int) != (x1.length:Int))then none else andThen (foldI (Aze x1) x0 0 ()) (λ_=>none) λz0=>some true
def A3o(x1:List Int)(n0:Nat)(a0:Int)(z0:Unit):Option (Ctl Unit Unit):=
 (getI x1 (cnt 0 n0)).bind λy2=>bif (a0 != y2)then none else some (.next ())
def F16(x0:List Int)(x1:List Int):Option Bool:=
 bif ((x0.length:Int) != (x1.length:Int))then none else andThen (foldI (A3o x1) x0 0 ()) (λ_=>none) λz0=>some true
def A4e(x0:Ad)(x1:Ad)(y1:Bool)(y3:Bool):Bool:=((((!y1) || (!y3)) || ((x0.Ae.length:Int) != (x1.Ae.length:Int))) || ((x0.Al.length:Int) != (x1.Al.length:Int)))
def A4d(x0:Ad)(z0:Int):Bool:=decide (z0<(x0.Ae.length:Int))
def A4c(y7:Aj)(y9:Aj):Bool:=!((y7.State==y9.State)&&((y7.Since==y9.Since)&&((y7.Aq==y9.Aq)&&((y7.Phase==y9.Phase)&&true))))
def A27(x0:Ad)(x1:Ad)(z0:Int):Option (Ctl Int Unit):=
 bif (A4d x0 z0)then (getI x0.Ae z0).bind λy7=>(getI x1.Ae z0).bind λy9=>bif (A4c y7 y9)then none else some (.next (w64 (z0+1))) else some (.brk z0)
def A26(x0:Ad)(z1:Unit):Option (Ctl Unit Unit):=
 bif decide (0<(x0.Al.length:Int))then none else some (.brk ())
def F63(x0:Ad)(x1:Ad):Option Bool:=
 (A3p x0.Ai x1.Ai).bind λy1=>(As [(!y1,false)] (F16 x0.An x1.An) default).bind λy3=>bif (A4e x0 x1 y1 y3)then none else andThen (whileN (A27 x0 x1) 1152921504606846976 0) (λ_=>none) λz0=>andThen (whileN (A26 x0) 1152921504606846976 ()) (λ_=>none) λz1=>some true
def A4g(x1:Bu)(x2:Ar):Bool:=(((!(J4 x1)) || (decide (x2.Time<0))) || (decide (x2.Time>2147483648)))
def A4f(x2:Ar)(a0:A_):Bool:=((((decide (a0.High<(-1))) || (decide (a0.High>x2.Time))) || (decide (a0.Low<(-1)))) || (decide (a0.Low>x2.Time)))
def A28(x2:Ar)(n0:Nat)(a0:A_)(z0:Unit):Option (Ctl Unit Unit):=
 bif (A4f x2 a0)then none else some (.next ())
def F58(x0:Ab)(x1:Bu)(x2:Ar):Option Int:=
 (F75 x0 x2.Power).bind λy1=>bif (y1 != 0)then none else bif (A4g x1 x2)then none else bif ((x2.Ba.length:Int) != x0.Am)then none else andThen (foldI (A28 x2) x2.Ba 0 ()) (λ_=>none) λz0=>(vY x0 x2.Power).bind λy7=>(F63 y7.1 x2.Power).bind λy9=>bif !y9 then none else some 0
def A2d(x1:Int)(x2:Int)(a0:Aa):Bool:=((a0.Kind==x1)&&(a0.Number==x2))
def Aza(x1:Int)(x2:Int)(n0:Nat)(a0:Aa)(z0:Unit):Option (Ctl Unit Bool):=
 bif (A2d x1 x2 a0)then some (.ret true) else some (.next ())
def Hs(x0:Ad)(x1:Int)(x2:Int):Option Bool:=
 andThen (foldI (Aza x1 x2) x0.Al 0 ()) some λz0=>some false
def A14(y1:Ap×Bool):Bool:=((!y1.2) || ((y1.1.Ae.length:Int)==0))
def A3h(x0:Ab)(x1:Ad)(x2:Int):Option (Int×Bool):=
 (Po x0 x1 x2).bind λy1=>bif (A14 y1)then some (0,false) else (getI y1.1.Ae 0).bind λy4=>some (y4,true)
def K1(x0:Int):Int:=
 Int.tmod (w64 ((Int.tmod x0 3600)+3600)) 3600
def A1u(x0:Int)(x1:Int):Bool:=decide ((K1 (w64 ((K1 x1)-(K1 x0))))>1800)
def A3a(x0:Int)(x1:Int):Option Int:=
 bif (A1u x0 x1)then none else some (K1 (w64 ((K1 x1)-(K1 x0))))
def A1w(x1:Aj):Bool:=((decide (x1.Aq<0)) || (decide (x1.Aq>6000)))
def A1v(x2:Aj):Bool:=((decide (x2.Aq<0)) || (decide (x2.Aq>6000)))
def A3b(x0:Ab)(x1:Aj)(x2:Aj):Option Bool:=
 bif (A1w x1)then none else bif (A1v x2)then none else (A3a x1.Phase x2.Phase).bind λy3=>some ((((decide ((w64 (x1.Aq-x2.Aq))>=(w64 (0-x0.Aq))))&&(decide ((w64 (x1.Aq-x2.Aq))<=x0.Aq)))&&(decide (y3>=(w64 (0-x0.Phase)))))&&(decide (y3<=x0.Phase)))
def A15(x0:Ab)(x2:Int):Bool:=((decide (x2<0)) || (decide (x2>=(x0.Ah.length:Int))))
def A3i(x0:Ab)(x1:Ad)(x2:Int):Option Int:=
 (F75 x0 x1).bind λy1=>bif (y1 != 0)then none else bif (A15 x0 x2)then none else (getI x0.Ah x2).bind λy5=>(getI x1.Ai x2).bind λy7=>(As [(y7,false)] (Hs x1 2 x2) default).bind λy9=>(As [((y7 || y9),false)] (Hs x1 3 y5.A) default).bind λy11=>bif ((y7 || y9) || y11)then none else (A3h x0 x1 y5.A).bind λy14=>bif (y5.Kind==1)then none else bif (y5.Kind==2)then (Hs x1 1 y5.B).bind λy18=>(As [(y18,false)] (getI x1.Ae y5.B) default).bind λy20=>bif (y18 || (y20.State != 2))then none else (As [(y14.2,true)] (getI x1.Ae y14.1) default).bind λy23=>(As [(y14.2,true)] (getI x1.Ae y5.B) default).bind λy25=>(As [(y14.2,true)] (A3b x0 y23 y25) default).bind λy27=>bif (y14.2&&(!y27))then none else some 0 else (Af4 x0 x1 y5.B).bind λy30=>(As [(y30.2,false)] (Hs x1 4 y5.B) default).bind λy32=>bif (y30.2 || y32)then none else some 0
def A3n(x0:Ab)(x1:Ad)(x2:Int):Option (Ad×Int):=
 (A3i x0 x1 x2).bind λy1=>bif (y1 != 0)then none else (F76 x1).bind λy4=>(getI y4.Ai x2).bind λy6=>(setI y4.Ai x2 true).bind λy8=>(Amz x0 ⟨y8,y4.Ae,y4.An,y4.Al⟩).bind λy10=>some (y10,0)
def X6(x0:Ab)(x1:Int)(x2:Int):Option ((List Int)):=
 (X8 x0).bind λy1=>bif (y1 != 0)then none else (Su x0 x1 x2).bind λy4=>some y4
def Ay9(n0:Nat)(a0:Aj)(z0:(List Aj)):Option (Ctl ((List Aj)) Unit):=
 (getI z0 (cnt 0 n0)).bind λy6=>bif (y6.State==2)then (setI z0 (cnt 0 n0) ⟨y6.State,y6.Since,y6.Aq,K1 (w64 (y6.Phase+(w64 (36*(w64 (y6.Aq-5000))))))⟩).bind λy9=>some (.next y9) else none
def A3m(x0:Ab)(x1:Ad):Option (Ad×Int):=
 (F75 x0 x1).bind λy1=>bif (y1 != 0)then none else (F76 x1).bind λy4=>andThen (foldI Ay9 y4.Ae 0 y4.Ae) (λ_=>none) λz0=>some (⟨y4.Ai,z0,y4.An,y4.Al⟩,0)
def A2j(x2:Int)(x3:Aw):Bool:=((((decide (x2<0)) || (decide (x2>2147483648))) || (decide (x3.Kind<1))) || (decide (x3.Kind>9)))
def Azg(x3:Aw):Option (Ctl Bool Unit):=
 bif (x3.Kind==3)then some (.next (x3.Kind==3)) else some (.next (x3.Kind==4))
def A2i(x0:Ab)(x3:Aw):Bool:=((decide (x3.Unit<0)) || (decide (x3.Unit>=(x0.Ae.length:Int))))
def Azf(x3:Aw)(y27:List Aj)(y29:B5)(y31:Bool):Option (Ctl ((List Aj)) Unit):=
 bif ((y29.Start==0)&&(!y31))then (getI y27 x3.Unit).bind λy34=>(setI y27 x3.Unit ⟨2,y34.Since,y34.Aq,y34.Phase⟩).bind λy36=>some (.next y36) else none
def A2h(x2:Int)(a2:Aj)(y46:Bool)(y48:B5):Bool:=(((a2.State==1)&&(!y46))&&(decide ((w64 (a2.Since+y48.Start))<=(w64 (x2+1)))))
def Azh(x0:Ab)(x2:Int)(y40:Ad×Int)(n2:Nat)(a2:Aj)(z2:Unit):Option (Ctl Unit Unit):=
 (As [((a2.State==1),true)] (X6 x0 2 (cnt 0 n2)) default).bind λy42=>(As [((a2.State==1),true)] (getI y42 0) default).bind λy44=>(As [((a2.State==1),true)] (getI y40.1.Ai y44) default).bind λy46=>(As [(((a2.State==1)&&(!y46)),true)] (getI x0.Ae (cnt 0 n2)) default).bind λy48=>bif (A2h x2 a2 y46 y48)then none else some (.next ())
def Avv(x0:Ab)(x1:Ad)(x2:Int)(x3:Aw):Option (Ad×Int):=
 (F75 x0 x1).bind λy1=>bif (y1 != 0)then none else bif (A2j x2 x3)then none else (F76 x1).bind λy5=>bif (x3.Kind==1)then (A3n x0 x1 x3.Unit).bind λy8=>some (y8.1,y8.2) else bif (x3.Kind==2)then none else bif (x3.Kind==6)then none else andThen (Azg x3) (λ_=>none) λz0=>bif z0 then bif (A2i x0 x3)then none else (getI x1.Ae x3.Unit).bind λy15=>(X6 x0 2 x3.Unit).bind λy17=>(getI y17 0).bind λy19=>bif (x3.Kind==3)then (As [((y15.State != 0),false)] (Hs x1 1 x3.Unit) default).bind λy22=>bif ((y15.State != 0) || y22)then none else (getI y5.Ae x3.Unit).bind λy25=>(setI y5.Ae x3.Unit ⟨1,x2,5000,0⟩).bind λy27=>(getI x0.Ae x3.Unit).bind λy29=>(As [((y29.Start==0),true)] (getI x1.Ai y19) default).bind λy31=>andThen (Azf x3 y27 y29 y31) (λ_=>none) λz1=>some (⟨y5.Ai,z1,y5.An,y5.Al⟩,0) else none else bif (x3.Kind==5)then none else bif (x3.Kind==7)then (A3m x0 x1).bind λy40=>andThen (foldI (Azh x0 x2 y40) y40.1.Ae 0 ()) (λ_=>none) λz2=>some (y40.1,0) else none
def A3g(x0:Ab)(x1:Ad)(x2:Int):Option Bool:=
 (getI x0.Ah x2).bind λy1=>(Hs x1 3 y1.A).bind λy3=>bif y3 then none else bif (y1.Kind==1)then none else bif (y1.Kind==2)then (Hs x1 1 y1.B).bind λy8=>(As [(y8,false)] (getI x1.Ae y1.B) default).bind λy10=>some (y8 || (y10.State != 2)) else (Hs x1 4 y1.B).bind λy12=>some y12
def F74(x0:Ab)(x1:Ad)(x2:Int):Option Bool:=
 (Po x0 x1 x2).bind λy1=>some (y1.2&&(decide ((y1.1.Ae.length:Int)>0)))
def A2c(x0:Ab)(z0:Int):Bool:=decide (z0<(x0.Ah.length:Int))
def Ay8(x0:Ab)(x1:Ad)(y4:Ad)(z0:Int):Option (Ctl Int Unit):=
 bif (A2c x0 z0)then (getI y4.Ai z0).bind λy7=>(As [(y7,true)] (A3g x0 x1 z0) default).bind λy9=>bif (y7&&y9)then none else some (.next (w64 (z0+1))) else some (.brk z0)
def Ay7(x0:Ab)(y4:Ad)(n1:Nat)(a1:Ak)(z1:Unit):Option (Ctl Unit Unit):=
 (As [((a1.Kind==3),true)] (getI y4.Ai (cnt 0 n1)) default).bind λy12=>(As [(((a1.Kind==3)&&y12),true)] (F74 x0 y4 a1.A) default).bind λy14=>bif (((a1.Kind==3)&&y12)&&(!y14))then none else some (.next ())
def A3l(x0:Ab)(x1:Ad):Option (Ad×(List Aw)×Int):=
 (F75 x0 x1).bind λy1=>bif (y1 != 0)then none else (F76 x1).bind λy4=>andThen (whileN (Ay8 x0 x1 y4) 1152921504606846976 0) (λ_=>none) λz0=>andThen (foldI (Ay7 x0 y4) x0.Ah 0 ()) (λ_=>none) λz1=>(vY x0 y4).bind λy17=>some (y17.1,[],0)
def Ay2(z0:Int×(List Int))(n1:Nat)(a1:A7)(z1:(List Int)):Option (Ctl ((List Int)) Unit):=
 bif (a1.B2==z0.1)then (appI 9 z1 [cnt 0 n1]).bind λy6=>some (.next y6) else some (.next z1)
def Ay3(x0:Ab)(z0:Int×(List Int)):Option (Ctl (Int×(List Int)) Unit):=
 bif decide (z0.1<=15)then andThen (foldI (Ay2 z0) x0.Ag 0 z0.2) (λ_=>none) λz1=>some (.next (w64 (z0.1+1),z1)) else some (.brk (z0.1,z0.2))
def A3f(x0:Ab):Option ((List Int)):=
 (X8 x0).bind λy1=>bif (y1 != 0)then none else andThen (whileN (Ay3 x0) 18 (0,[])) (λ_=>none) λz0=>some z0.2
def A13(y1:Ap×Bool):Bool:=((!y1.2) || ((y1.1.Ae.length:Int)==0))
def Ay1(x1:Ad)(n0:Nat)(a0:Int)(z0:Int):Option (Ctl Int Unit):=
 (getI x1.An a0).bind λy4=>some (.next (w64 (z0+y4)))
def Amo(x0:Ab)(x1:Ad)(x2:Int):Option Int:=
 (Po x0 x1 x2).bind λy1=>bif (A13 y1)then some 0 else andThen (foldI (Ay1 x1) y1.1.Ag 0 0) (λ_=>none) λz0=>some z0
def Ay0(x0:Ab)(n0:Nat)(a0:Int)(z0:Int):Option (Ctl Int Unit):=
 (getI x0.Ae a0).bind λy3=>some (.next (w64 (z0+y3.Rating)))
def Amn(x0:Ab)(x1:Ad)(x2:Int):Option Int:=
 (Po x0 x1 x2).bind λy1=>andThen (foldI (Ay0 x0) y1.1.Ae 0 0) (λ_=>none) λz0=>some z0
def A2b(y12:Int)(y16:Int)(y18:A7)(y20:Bool)(y22:Int):Bool:=(((decide ((w64 (y12-y16))<=0)) || (!y20)) || (decide (y22<=y18.Least)))
def Ay5(x0:Ab)(y4:Ad)(a0:Ap)(y12:Int)(y16:Int)(n1:Nat)(a1:Int)(z1:Unit):Option (Ctl Unit Unit):=
 (getI x0.Ag a1).bind λy18=>(As [(decide ((w64 (y12-y16))<=0),false)] (Pn a0.Ag a1) default).bind λy20=>(As [(((decide ((w64 (y12-y16))<=0)) || (!y20)),false)] (getI y4.An a1) default).bind λy22=>bif (A2b y12 y16 y18 y20 y22)then some (.next ()) else none
def A2a(y12:Int)(y16:Int)(y25:Bool)(y27:Int):Bool:=(((decide ((w64 (y12-y16))<=0)) || (!y25)) || (y27==0))
def Ay4(y4:Ad)(a0:Ap)(y12:Int)(y16:Int)(n2:Nat)(a2:Int)(z2:Unit):Option (Ctl Unit Unit):=
 (As [(decide ((w64 (y12-y16))<=0),false)] (Pn a0.Ag a2) default).bind λy25=>(As [(((decide ((w64 (y12-y16))<=0)) || (!y25)),false)] (getI y4.An a2) default).bind λy27=>bif (A2a y12 y16 y25 y27)then some (.next ()) else none
def Ay6(x0:Ab)(x1:Ad)(y4:Ad)(y6:(List Int))(n0:Nat)(a0:Ap)(z0:Unit):Option (Ctl Unit Unit):=
 (getI a0.Am 0).bind λy10=>(Amo x0 x1 y10).bind λy12=>(getI a0.Am 0).bind λy14=>(Amn x0 x1 y14).bind λy16=>andThen (foldI (Ay5 x0 y4 a0 y12 y16) y6 0 ()) (λ_=>none) λz1=>andThen (foldI (Ay4 y4 a0 y12 y16) y6 0 ()) (λ_=>none) λz2=>some (.next ())
def A3k(x0:Ab)(x1:Ad):Option (Ad×(List Aw)×Int):=
 (F75 x0 x1).bind λy1=>bif (y1 != 0)then none else (F76 x1).bind λy4=>(A3f x0).bind λy6=>(vI x0 x1).bind λy8=>andThen (foldI (Ay6 x0 x1 y4 y6) y8 0 ()) (λ_=>none) λz0=>some (y4,[],0)
def A3q(x0:Ab)(x1:Ad):Option (Ad×(List Aw)×Int):=
 (A3l x0 x1).bind λy1=>bif (y1.2.2 != 0)then none else (A3k x0 y1.1).bind λy4=>(appI 25 y1.2.1 y4.2.1).bind λy6=>some (y4.1,y6,0)
def Agf(x0:Ar)(x1:Aw)(x2:Int):Option Ar:=
 (appI 41 [] x0.Bh).bind λy1=>(appI 41 y1 [⟨x0.Time,x1,x2⟩]).bind λy3=>some ⟨x0.Time,x0.Power,x0.Ba,y3⟩
def Avc(x0:Ab)(x1:Ar)(x2:Aw):Option (Ctl (Int×(List Bool)×(List Aj)×(List Int)×(List Aa)) Unit):=
 bif (x2.Kind != 7)then (Avv x0 x1.Power x1.Time x2).bind λy5=>some (.next (y5.2,y5.1.Ai,y5.1.Ae,y5.1.An,y5.1.Al)) else none
def Avb(a1:Aw)(y12:Ad):Option (Ctl ((List Bool)×(List Int)) Unit):=
 bif (a1.Kind==2)then (getI y12.Ai a1.Unit).bind λy15=>(setI y12.Ai a1.Unit false).bind λy17=>some (.next (y17,y12.An)) else (getI y12.An a1.Unit).bind λy19=>(setI y12.An a1.Unit a1.Value).bind λy21=>some (.next (y12.Ai,y21))
def Avd(n1:Nat)(a1:Aw)(z1:Int×(List Bool)×(List Aj)×(List Int)×(List Aa)×(List A_)×(List Bv)×(List Ad)×(List Bool)×(List Aj)×(List Int)×(List Aa)):Option (Ctl (Int×(List Bool)×(List Aj)×(List Int)×(List Aa)×(List A_)×(List Bv)×(List Ad)×(List Bool)×(List Aj)×(List Int)×(List Aa)) Unit):=
 (F76 ⟨z1.2.2.2.2.2.2.2.2.1,z1.2.2.2.2.2.2.2.2.2.1,z1.2.2.2.2.2.2.2.2.2.2.1,z1.2.2.2.2.2.2.2.2.2.2.2⟩).bind λy12=>andThen (Avb a1 y12) (λ_=>none) λz2=>(appI 97 z1.2.2.2.2.2.2.2.1 [⟨z2.1,y12.Ae,z2.2,y12.Al⟩]).bind λy23=>(Agf ⟨z1.1,⟨z1.2.1,z1.2.2.1,z1.2.2.2.1,z1.2.2.2.2.1⟩,z1.2.2.2.2.2.1,z1.2.2.2.2.2.2.1⟩ a1 0).bind λy25=>some (.next (y25.Time,y25.Power.Ai,y25.Power.Ae,y25.Power.An,y25.Power.Al,y25.Ba,y25.Bh,y23,z2.1,y12.Ae,z2.2,y12.Al))
def Al1(x0:Ab)(x1:Ar)(x2:Aw):Option (Ar×(List Ad)×Int):=
 (F75 x0 x1.Power).bind λy1=>bif (y1 != 0)then none else andThen (Avc x0 x1 x2) (λ_=>none) λz0=>(Agf x1 x2 z0.1).bind λy7=>bif (z0.1 != 0)then none else (A3q x0 ⟨z0.2.1,z0.2.2.1,z0.2.2.2.1,z0.2.2.2.2⟩).bind λy10=>andThen (foldI Avd y10.2.1 0 (y7.Time,y7.Power.Ai,y7.Power.Ae,y7.Power.An,y7.Power.Al,y7.Ba,y7.Bh,[⟨z0.2.1,z0.2.2.1,z0.2.2.2.1,z0.2.2.2.2⟩],z0.2.1,z0.2.2.1,z0.2.2.2.1,z0.2.2.2.2)) (λ_=>none) λz1=>(F63 y10.1 ⟨z1.2.2.2.2.2.2.2.2.1,z1.2.2.2.2.2.2.2.2.2.1,z1.2.2.2.2.2.2.2.2.2.2.1,z1.2.2.2.2.2.2.2.2.2.2.2⟩).bind λy27=>bif !y27 then none else some (⟨z1.1,y10.1,z1.2.2.2.2.2.1,z1.2.2.2.2.2.2.1⟩,z1.2.2.2.2.2.2.2.1,0)
def A12(x1:Bu)(y1:Ap×Bool):Bool:=(((!y1.2) || (!(J4 x1))) || (decide ((y1.1.Ae.length:Int)<2)))
def A11(x1:Bu)(y14:Int)(y16:Int)(y18:B5):Bool:=decide ((w64 (100*y14))<=(w64 (x1.Stop*(w64 (y16-y18.Rating)))))
def Ayz(x0:Ab)(x1:Bu)(x2:Ad)(x3:Int)(y1:Ap×Bool)(z0:Int):Option (Ctl Int Unit):=
 bif decide (z0>=0)then (getI y1.1.Ae z0).bind λy5=>(X6 x0 2 y5).bind λy7=>(getI y7 0).bind λy9=>(Hs x2 2 y9).bind λy11=>bif y11 then none else (Amo x0 x2 x3).bind λy14=>(Amn x0 x2 x3).bind λy16=>(getI x0.Ae y5).bind λy18=>bif (A11 x1 y14 y16 y18)then none else some (.next (w64 (z0-1))) else some (.brk z0)
def A3e(x0:Ab)(x1:Bu)(x2:Ad)(x3:Int):Option (Int×Bool):=
 (Po x0 x2 x3).bind λy1=>bif (A12 x1 y1)then none else andThen (whileN (Ayz x0 x1 x2 x3 y1) 1152921504606846976 (w64 ((y1.1.Ae.length:Int)-1))) (λ_=>none) λz0=>some (0,false)
def A3d(x0:Ab)(x1:Bu)(x2:Ad)(x3:Int):Option Bool:=
 (As [(J4 x1,true)] (F74 x0 x2 x3) default).bind λy1=>(As [(((J4 x1)&&y1),true)] (Amo x0 x2 x3) default).bind λy3=>(As [(((J4 x1)&&y1),true)] (Amn x0 x2 x3) default).bind λy5=>some (((J4 x1)&&y1)&&(decide ((w64 (100*y3))>(w64 (x1.Start*y5)))))
def Avo(x0:Bool)(x1:Int)(x2:Int):Option Int:=
 bif !x0 then some (-1) else none
def A10(x1:Ad)(z0:Int):Bool:=decide (z0<(x1.Ae.length:Int))
def A1z(y5:Aj)(y13:Int×Bool)(y15:Bool)(y17:Bool)(y19:Bool)(y21:Bool):Bool:=((((((y5.State==2)&&(!y13.2))&&(!y15))&&(!y17))&&(!y19))&&y21)
def Ayy(x0:Ab)(x1:Ad)(y1:Ap×Bool)(z0:Int):Option (Ctl Int Unit):=
 bif (A10 x1 z0)then (getI x1.Ae z0).bind λy5=>(X6 x0 2 z0).bind λy7=>(getI y7 0).bind λy9=>(getI x0.Ah y9).bind λy11=>(X5 x0 x1 z0).bind λy13=>(As [(((y5.State==2)&&(!y13.2)),true)] (Hs x1 1 z0) default).bind λy15=>(As [((((y5.State==2)&&(!y13.2))&&(!y15)),true)] (Hs x1 2 y9) default).bind λy17=>(As [(((((y5.State==2)&&(!y13.2))&&(!y15))&&(!y17)),true)] (Hs x1 3 y11.A) default).bind λy19=>(As [((((((y5.State==2)&&(!y13.2))&&(!y15))&&(!y17))&&(!y19)),true)] (Pn y1.1.Am y11.A) default).bind λy21=>bif (A1z y5 y13 y15 y17 y19 y21)then none else some (.next (w64 (z0+1))) else some (.brk z0)
def A1y(x1:Ad)(z1:Int):Bool:=decide (z1<(x1.Ae.length:Int))
def A1x(y25:Aj)(y33:Int×Bool)(y35:Bool)(y37:Bool)(y39:Bool)(y41:Bool):Bool:=((((((y25.State==1)&&(!y33.2))&&(!y35))&&(!y37))&&(!y39))&&y41)
def Ayx(x0:Ab)(x1:Ad)(y1:Ap×Bool)(z1:Int):Option (Ctl Int Unit):=
 bif (A1y x1 z1)then (getI x1.Ae z1).bind λy25=>(X6 x0 2 z1).bind λy27=>(getI y27 0).bind λy29=>(getI x0.Ah y29).bind λy31=>(X5 x0 x1 z1).bind λy33=>(As [(((y25.State==1)&&(!y33.2)),true)] (Hs x1 1 z1) default).bind λy35=>(As [((((y25.State==1)&&(!y33.2))&&(!y35)),true)] (Hs x1 2 y29) default).bind λy37=>(As [(((((y25.State==1)&&(!y33.2))&&(!y35))&&(!y37)),true)] (Hs x1 3 y31.A) default).bind λy39=>(As [((((((y25.State==1)&&(!y33.2))&&(!y35))&&(!y37))&&(!y39)),true)] (Pn y1.1.Am y31.A) default).bind λy41=>bif (A1x y25 y33 y35 y37 y39 y41)then none else some (.next (w64 (z1+1))) else some (.brk z1)
def Aye(x1:Ad)(z2:Int):Bool:=decide (z2<(x1.Ae.length:Int))
def Ayd(y45:Aj)(y53:Int×Bool)(y55:Bool)(y57:Bool)(y59:Bool)(y61:Bool):Bool:=((((((y45.State==0)&&(!y53.2))&&(!y55))&&(!y57))&&(!y59))&&y61)
def Ayw(x0:Ab)(x1:Ad)(y1:Ap×Bool)(z2:Int):Option (Ctl Int Unit):=
 bif (Aye x1 z2)then (getI x1.Ae z2).bind λy45=>(X6 x0 2 z2).bind λy47=>(getI y47 0).bind λy49=>(getI x0.Ah y49).bind λy51=>(X5 x0 x1 z2).bind λy53=>(As [(((y45.State==0)&&(!y53.2)),true)] (Hs x1 1 z2) default).bind λy55=>(As [((((y45.State==0)&&(!y53.2))&&(!y55)),true)] (Hs x1 2 y49) default).bind λy57=>(As [(((((y45.State==0)&&(!y53.2))&&(!y55))&&(!y57)),true)] (Hs x1 3 y51.A) default).bind λy59=>(As [((((((y45.State==0)&&(!y53.2))&&(!y55))&&(!y57))&&(!y59)),true)] (Pn y1.1.Am y51.A) default).bind λy61=>bif (Ayd y45 y53 y55 y57 y59 y61)then none else some (.next (w64 (z2+1))) else some (.brk z2)
def A3c(x0:Ab)(x1:Ad)(x2:Int):Option (Int×Bool):=
 (Po x0 x1 x2).bind λy1=>bif !y1.2 then none else andThen (whileN (Ayy x0 x1 y1) 1152921504606846976 0) (λ_=>none) λz0=>andThen (whileN (Ayx x0 x1 y1) 1152921504606846976 0) (λ_=>none) λz1=>andThen (whileN (Ayw x0 x1 y1) 1152921504606846976 0) (λ_=>none) λz2=>some (0,false)
def A19(x1:Bu)(x4:Int)(x5:A_):Bool:=(((((((!(J4 x1)) || (decide (x4<0))) || (decide (x4>2147483648))) || (decide (x5.High<(-1)))) || (decide (x5.High>x4))) || (decide (x5.Low<(-1)))) || (decide (x5.Low>x4)))
def A18(x0:Ab)(x3:Int):Bool:=((decide (x3<0)) || (decide (x3>=x0.Am)))
def A17(x1:Bu)(x4:Int)(y10:Int)(y14:Int×Bool):Bool:=(((decide (y10>=0))&&(decide ((w64 (x4-y10))>=x1.Delay)))&&y14.2)
def A16(x1:Bu)(x4:Int)(y12:Int):Bool:=((decide (y12>=0))&&(decide ((w64 (x4-y12))>=x1.Delay)))
def A3j(x0:Ab)(x1:Bu)(x2:Ad)(x3:Int)(x4:Int)(x5:A_):Option (A_×(List Aw)×Int):=
 (F75 x0 x2).bind λy1=>bif (y1 != 0)then none else bif (A19 x1 x4 x5)then none else bif (A18 x0 x3)then none else (A3e x0 x1 x2 x3).bind λy6=>(A3d x0 x1 x2 x3).bind λy8=>(Avo y8 x5.High x4).bind λy10=>(Avo y6.2 x5.Low x4).bind λy12=>(A3c x0 x2 x3).bind λy14=>bif (A17 x1 x4 y10 y14)then none else bif (A16 x1 x4 y12)then none else some (⟨y10,y12⟩,[],0)
def Asd(x0:Ab)(n0:Nat)(a0:Aw)(z0:Sg2):Option (Ctl (Sg2) Unit):=
 (Al1 x0 ⟨z0.1,⟨z0.2.1,z0.2.2.1,z0.2.2.2.1,z0.2.2.2.2.1⟩,z0.2.2.2.2.2.1,z0.2.2.2.2.2.2.2⟩ a0).bind λy6=>(appI 97 z0.2.2.2.2.2.2.1 y6.2.1).bind λy8=>some (.next (y6.1.Time,y6.1.Power.Ai,y6.1.Power.Ae,y6.1.Power.An,y6.1.Power.Al,y6.1.Ba,y8,y6.1.Bh))
def Asb(n1:Nat)(a1:A_)(z1:(List A_)):Option (Ctl ((List A_)) Unit):=
 (getI z1 (cnt 0 n1)).bind λy12=>(setI z1 (cnt 0 n1) ⟨(-1),(-1)⟩).bind λy14=>some (.next y14)
def Auk(a2:Ap)(y20:Bool):Bool:=(((a2.Ae.length:Int)==0) || (!y20))
def Ar9(x0:Ab)(n3:Nat)(a3:Aw)(z3:Sg2):Option (Ctl (Sg2) Unit):=
 (Al1 x0 ⟨z3.1,⟨z3.2.1,z3.2.2.1,z3.2.2.2.1,z3.2.2.2.2.1⟩,z3.2.2.2.2.2.1,z3.2.2.2.2.2.2.2⟩ a3).bind λy31=>(appI 97 z3.2.2.2.2.2.2.1 y31.2.1).bind λy33=>some (.next (y31.1.Time,y31.1.Power.Ai,y31.1.Power.Ae,y31.1.Power.An,y31.1.Power.Al,y31.1.Ba,y33,y31.1.Bh))
def Asa(x0:Ab)(x1:Bu)(n2:Nat)(a2:Ap)(z2:Int×(List Bool)×(List Aj)×(List Int)×(List Aa)×(List A_)×(List Ad)×(List Bv)×(List A_)):Option (Ctl (Int×(List Bool)×(List Aj)×(List Int)×(List Aa)×(List A_)×(List Ad)×(List Bv)×(List A_)) Unit):=
 (getI a2.Am 0).bind λy18=>(As [(((a2.Ae.length:Int)==0),false)] (F74 x0 ⟨z2.2.1,z2.2.2.1,z2.2.2.2.1,z2.2.2.2.2.1⟩ y18) default).bind λy20=>bif (Auk a2 y20)then none else (getI z2.2.2.2.2.2.1 y18).bind λy23=>(A3j x0 x1 ⟨z2.2.1,z2.2.2.1,z2.2.2.2.1,z2.2.2.2.2.1⟩ y18 z2.1 y23).bind λy25=>(getI z2.2.2.2.2.2.2.2.2 y18).bind λy27=>(setI z2.2.2.2.2.2.2.2.2 y18 y25.1).bind λy29=>andThen (foldI (Ar9 x0) y25.2.1 0 (z2.1,z2.2.1,z2.2.2.1,z2.2.2.2.1,z2.2.2.2.2.1,z2.2.2.2.2.2.1,z2.2.2.2.2.2.2.1,z2.2.2.2.2.2.2.2.1)) (λ_=>none) λz3=>some (.next (z3.1,z3.2.1,z3.2.2.1,z3.2.2.2.1,z3.2.2.2.2.1,z3.2.2.2.2.2.1,z3.2.2.2.2.2.2.1,z3.2.2.2.2.2.2.2,y29))
def Ase(x0:Ab)(x1:Bu)(x2:Ar)(x3:List Aw):Option (Ar×(List Bv)×(List Ad)×Int):=
 (F58 x0 x1 x2).bind λy1=>bif (y1 != 0)then none else bif decide ((x3.length:Int)>200)then none else bif decide (x2.Time>=2147483648)then none else andThen (foldI (Asd x0) x3 0 (x2.Time,x2.Power.Ai,x2.Power.Ae,x2.Power.An,x2.Power.Al,x2.Ba,[x2.Power],[])) (λ_=>none) λz0=>(mkI 17 x0.Am ⟨0,0⟩).bind λy10=>andThen (foldI Asb y10 0 y10) (λ_=>none) λz1=>(vI x0 ⟨z0.2.1,z0.2.2.1,z0.2.2.2.1,z0.2.2.2.2.1⟩).bind λy16=>andThen (foldI (Asa x0 x1) y16 0 (z0.1,z0.2.1,z0.2.2.1,z0.2.2.2.1,z0.2.2.2.2.1,z0.2.2.2.2.2.1,z0.2.2.2.2.2.2.1,z0.2.2.2.2.2.2.2,z1)) (λ_=>none) λz2=>(Avv x0 ⟨z2.2.1,z2.2.2.1,z2.2.2.2.1,z2.2.2.2.2.1⟩ z2.1 ⟨7,0,0⟩).bind λy35=>(appI 97 z2.2.2.2.2.2.2.1 [y35.1]).bind λy37=>(appI 41 [] x2.Bh).bind λy39=>(appI 41 y39 z2.2.2.2.2.2.2.2.1).bind λy41=>bif decide ((y41.length:Int)>200)then none else some (⟨w64 (z2.1+1),y35.1,z2.2.2.2.2.2.2.2.2,y41⟩,z2.2.2.2.2.2.2.2.1,y37,0)
def Awy(x0:Ab)(x1:Bu)(x2:Ar)(x3:List Aw):Option (Ar×(List Bv)×Int):=
 (Ase x0 x1 x2 x3).bind λy1=>some (y1.1,y1.2.1,y1.2.2.2)
def F42:Option (A9×Ar):=
 (F80 ⟨1,[⟨2,0,0⟩,⟨2,0,1⟩,⟨3,0,0⟩,⟨3,0,1⟩],[⟨100,0,0⟩,⟨100,0,0⟩],[⟨40,0,0,0,[]⟩,⟨40,0,0,1,[]⟩],1800,0⟩ ⟨100,1,9⟩).bind λy1=>(Awy ⟨1,[⟨2,0,0⟩,⟨2,0,1⟩,⟨3,0,0⟩,⟨3,0,1⟩],[⟨100,0,0⟩,⟨100,0,0⟩],[⟨40,0,0,0,[]⟩,⟨40,0,0,1,[]⟩],1800,0⟩ ⟨100,1,9⟩ y1.1 [⟨3,0,0⟩,⟨3,1,0⟩,⟨1,0,0⟩,⟨1,1,0⟩,⟨1,2,0⟩,⟨1,3,0⟩]).bind λy3=>some (⟨⟨⟨[],[],[]⟩,⟨[],[],[]⟩,⟨[],[],[]⟩,0,0,0,0⟩,⟨0,1,[⟨2,0,100,0,1,[]⟩,⟨2,0,100,0,1,[]⟩]⟩,⟨1,[⟨2,0,0⟩,⟨2,0,1⟩,⟨3,0,0⟩,⟨3,0,1⟩],[⟨100,0,0⟩,⟨100,0,0⟩],[⟨40,0,0,0,[]⟩,⟨40,0,0,1,[]⟩],1800,0⟩,⟨100,1,9⟩,⟨[⟨1,0⟩,⟨1,1⟩,⟨3,0⟩],[],[]⟩,[],⟨0,0,0,0,0,0,0,0,0⟩,⟨⟨0,0⟩,0⟩,0,⟨ByteArray.empty,0,⟨⟨0,0⟩,0,0⟩,0⟩,⟨[]⟩⟩,y3.1)
def Bn(x0:Int)(x1:Int)(x2:Int):Bool:=
 ((decide (x0>=x1))&&(decide (x0<=x2)))
def Ayv(x1:Int)(n0:Nat)(a0:Int)(z0:Unit):Option (Ctl Unit Int):=
 bif (x1==a0)then some (.ret (cnt 0 n0)) else some (.next ())
def Avi(x0:List Int)(x1:Int):Option Int:=
 andThen (foldI (Ayv x1) x0 0 ()) some λz0=>some (-1)
def Vg(x0:List Int)(x1:Int):Option Bool:=
 (Avi x0 x1).bind λy1=>some (decide (y1>=0))
def Avn(x0:List Int):Bool:=
 ((x0.length:Int)==0)
def Ars(n0:Nat)(a0:List Int)(z0:Unit):Option (Ctl Unit Int):=
 bif Avn a0 then some (.ret (cnt 0 n0)) else some (.next ())
def Afh(x0:List (List Int)):Option Int:=
 andThen (foldI Ars x0 0 ()) some λz0=>some (-1)
def Z0(x0:List (List Int)):Option Bool:=
 (Afh x0).bind λy1=>some (decide (y1>=0))
def Ad1(x0:Ab)(a0:Ak):Bool:=((a0.Kind==1)&&(Bn a0.B (w64 (a0.A+1)) (w64 (x0.Am-1))))
def Ad0(z0:(List Int)×(List (List Int)))(a0:Ak)(y7:Int):Bool:=(((a0.Kind==2)&&(Bn a0.B 0 (w64 ((z0.1.length:Int)-1))))&&(y7==0))
def Ap9(z0:(List Int)×(List (List Int)))(a0:Ak)(y16:Bool):Bool:=(((a0.Kind==3)&&(Bn a0.B 0 (w64 ((z0.2.length:Int)-1))))&&(!y16))
def Ai8(x0:Ab)(n0:Nat)(a0:Ak)(z0:(List Int)×(List (List Int))):Option (Ctl ((List Int)×(List (List Int))) Bool):=
 bif !(Bn a0.A 0 (w64 (x0.Am-1)))then some (.ret false) else bif (Ad1 x0 a0)then some (.next (z0.1,z0.2)) else (As [(((a0.Kind==2)&&(Bn a0.B 0 (w64 ((z0.1.length:Int)-1)))),true)] (getI z0.1 a0.B) default).bind λy7=>bif (Ad0 z0 a0 y7)then (getI z0.1 a0.B).bind λy10=>(setI z0.1 a0.B (w64 (y10+1))).bind λy12=>some (.next (y12,z0.2)) else (As [(((a0.Kind==3)&&(Bn a0.B 0 (w64 ((z0.2.length:Int)-1)))),true)] (getI z0.2 a0.B) default).bind λy14=>(As [(((a0.Kind==3)&&(Bn a0.B 0 (w64 ((z0.2.length:Int)-1)))),true)] (Vg y14 a0.A) default).bind λy16=>bif (Ap9 z0 a0 y16)then (getI z0.2 a0.B).bind λy19=>(appI 9 y19 [a0.A]).bind λy21=>(setI z0.2 a0.B y21).bind λy23=>some (.next (z0.1,y23)) else some (.ret false)
def Ams(x0:Ab):Option Bool:=
 (mkI 9 (x0.Ae.length:Int) 0).bind λy1=>(mkI 25 (x0.Ag.length:Int) ([]:List Int)).bind λy3=>andThen (foldI (Ai8 x0) x0.Ah 0 (y1,y3)) some λz0=>(Vg z0.1 0).bind λy27=>(As [(!y27,true)] (Z0 z0.2) default).bind λy29=>some ((!y27)&&(!y29))
def Afy(x0:B5):Bool:=
 (((Bn x0.Rating 1 50000)&&(Bn x0.Least 0 x0.Rating))&&(Bn x0.Start 0 600))
def Ap8(x1:Int)(n0:Nat)(a0:Int)(y1:Int):Bool:=((!(Bn a0 0 (w64 (x1-1)))) || ((decide ((cnt 0 n0)>0))&&(decide (y1>=a0))))
def vD(x0:A7)(x1:Int)(n0:Nat)(a0:Int)(z0:Unit):Option (Ctl Unit Bool):=
 (As [(!(Bn a0 0 (w64 (x1-1))),false),(decide ((cnt 0 n0)>0),true)] (getI x0.Needs (w64 ((cnt 0 n0)-1))) default).bind λy1=>bif (Ap8 x1 n0 a0 y1)then some (.ret false) else some (.next ())
def Afx(x0:A7)(x1:Int):Option Bool:=
 andThen (foldI (vD x0 x1) x0.Needs 0 ()) some λz0=>some (((((Bn x0.Load 0 50000)&&(Bn x0.Least 0 x0.Load))&&(Bn x0.B2 0 15))&&(Bn x0.Thruster (-1) 7))&&(decide ((x0.Needs.length:Int)<=4)))
def Aqm(x0:Ab):Bool:=((((!(Bn x0.Am 1 6)) || (decide ((x0.Ah.length:Int)>24))) || (decide ((x0.Ae.length:Int)>8))) || (decide ((x0.Ag.length:Int)>16)))
def Azb(n0:Nat)(a0:B5)(z0:Bool):Option (Ctl Bool Unit):=
 some (.next (z0&&(Afy a0)))
def Ajq(n1:Nat)(a1:A7)(z1:Bool):Option (Ctl Bool Unit):=
 (As [(z1,true)] (Afx a1 (cnt 0 n1)) default).bind λy4=>some (.next (z1&&y4))
def Af9(x0:Ab):Option Int:=
 bif (Aqm x0)then some 2 else (Ams x0).bind λy2=>andThen (foldI Azb x0.Ae 0 ((y2&&(Bn x0.Phase 0 1800))&&(Bn x0.Aq 0 6000))) (λ_=>none) λz0=>andThen (foldI Ajq x0.Ag 0 z0) (λ_=>none) λz1=>bif !z1 then some 14 else some 0
def Mp(x0:Ab)(x1:Int):Int:=
 bif (x1==1)then (x0.Ae.length:Int) else bif (x1==2)then (x0.Ah.length:Int) else bif (x1==3)then x0.Am else bif (x1==4)then (x0.Ag.length:Int) else 0
def Sr(x0:Int):Bool:=
 (x0 != x0)
def Ir(x0:Int)(x1:Int):Int:=
 bif Sr x0 then bif Sr x1 then 0 else (-1) else bif Sr x1 then 1 else bif decide (x0<x1)then (-1) else bif decide (x0>x1)then 1 else 0
def Wh(n0:Nat)(a0:Int)(z0:Unit):Option (Ctl Unit Int):=
 bif (a0 != 0)then some (.ret a0) else some (.next ())
def Vo(x0:List Int):Option Int:=
 andThen (foldI Wh x0 0 ()) some λz0=>some 0
def Aql(x0:Ab)(n0:Nat)(a0:Aa)(y5:Int):Bool:=((!(Bn a0.Number 0 (w64 ((Mp x0 a0.Kind)-1)))) || ((decide ((cnt 0 n0)>0))&&(decide (y5>=0))))
def vN(x0:Ab)(x1:List Aa)(n0:Nat)(a0:Aa)(z0:Unit):Option (Ctl Unit Bool):=
 (As [(!(Bn a0.Number 0 (w64 ((Mp x0 a0.Kind)-1))),false),(decide ((cnt 0 n0)>0),true)] (getI x1 (w64 ((cnt 0 n0)-1))) default).bind λy1=>(As [(!(Bn a0.Number 0 (w64 ((Mp x0 a0.Kind)-1))),false),(decide ((cnt 0 n0)>0),true)] (getI x1 (w64 ((cnt 0 n0)-1))) default).bind λy3=>(As [(!(Bn a0.Number 0 (w64 ((Mp x0 a0.Kind)-1))),false),(decide ((cnt 0 n0)>0),true)] (Vo [Ir y1.Kind a0.Kind,Ir y3.Number a0.Number]) default).bind λy5=>bif (Aql x0 n0 a0 y5)then some (.ret false) else some (.next ())
def Am4(x0:Ab)(x1:List Aa):Option Bool:=
 andThen (foldI (vN x0 x1) x1 0 ()) some λz0=>some (decide ((x1.length:Int)<=32))
def Vm(x0:Aj):Bool:=
 ((((Bn x0.State 0 3)&&(Bn x0.Since 0 2147483648))&&(Bn x0.Aq 0 6000))&&(Bn x0.Phase 0 3599))
def Avs(x0:Aj):Bool:=
 !(Vm x0)
def Ar1(n0:Nat)(a0:Aj)(z0:Unit):Option (Ctl Unit Int):=
 bif Avs a0 then some (.ret (cnt 0 n0)) else some (.next ())
def Afw(x0:List Aj):Option Int:=
 andThen (foldI Ar1 x0 0 ()) some λz0=>some (-1)
def Vn(x0:List Aj):Option Bool:=
 (Afw x0).bind λy1=>some (decide (y1>=0))
def Aqk(x2:Int)(a0:Ak)(y1:Bool):Bool:=(((a0.Kind==3)&&(a0.B==x2))&&y1)
def Ajp(x1:Ad)(x2:Int)(n0:Nat)(a0:Ak)(z0:Int):Option (Ctl Int Unit):=
 (As [(((a0.Kind==3)&&(a0.B==x2)),true)] (getI x1.Ai (cnt 0 n0)) default).bind λy1=>bif (Aqk x2 a0 y1)then some (.next (w64 (z0+1))) else some (.next z0)
def Am3(x0:Ab)(x1:Ad)(x2:Int):Option Int:=
 andThen (foldI (Ajp x1 x2) x0.Ah 0 0) (λ_=>none) λz0=>some z0
def Aeb(x0:Ab)(x1:Ad):Bool:=((((x1.Ai.length:Int) != (x0.Ah.length:Int)) || ((x1.Ae.length:Int) != (x0.Ae.length:Int))) || ((x1.An.length:Int) != (x0.Ag.length:Int)))
def Ajz(x0:Ab)(x1:Ad)(n0:Nat)(a0:Int)(z0:Bool):Option (Ctl Bool Unit):=
 (As [(z0,true)] (getI x0.Ag (cnt 0 n0)) default).bind λy9=>(As [((z0&&(Bn a0 0 y9.Load)),true)] (Am3 x0 x1 (cnt 0 n0)) default).bind λy11=>some (.next ((z0&&(Bn a0 0 y9.Load))&&(decide (y11<=1))))
def Jb(x0:Ab)(x1:Ad):Option Int:=
 (Af9 x0).bind λy1=>bif (y1 != 0)then some y1 else bif (Aeb x0 x1)then some 8 else (Am4 x0 x1.Al).bind λy5=>(As [(y5,true)] (Vn x1.Ae) default).bind λy7=>andThen (foldI (Ajz x0 x1) x1.An 0 (y5&&(!y7))) (λ_=>none) λz0=>bif !z0 then some 11 else some 0
def yA(x0:List Bool):Option (List Bool):=appI 2 [] x0
def vZ(x0:List Aj):Option (List Aj):=appI 33 [] x0
def Pp(x0:List Int):Option (List Int):=appI 9 [] x0
def Sv(x0:List Aa):Option (List Aa):=appI 17 [] x0
def Mr(x0:Ad):Option Ad:=
 (yA x0.Ai).bind λy1=>(vZ x0.Ae).bind λy3=>(Pp x0.An).bind λy5=>(Sv x0.Al).bind λy7=>some ⟨y1,y3,y5,y7⟩
def Aja(n0:Nat)(a0:Int)(z0:(List Int)):Option (Ctl ((List Int)) Unit):=
 (getI z0 (cnt 0 n0)).bind λy3=>(setI z0 (cnt 0 n0) (cnt 0 n0)).bind λy5=>some (.next y5)
def vG(x1:Ad)(n2:Nat)(a2:Ak)(z2:(List Int)):Option (Ctl ((List Int)) Unit):=
 (As [((a2.Kind==1),true)] (getI x1.Ai (cnt 0 n2)) default).bind λy7=>bif ((a2.Kind==1)&&y7)then (getI z2 a2.A).bind λy10=>(getI z2 a2.B).bind λy12=>(setI z2 a2.A (min y10 y12)).bind λy14=>(getI y14 a2.B).bind λy16=>(setI y14 a2.B (min y10 y12)).bind λy18=>some (.next y18) else some (.next z2)
def Ai9(x0:Ab)(x1:Ad)(n1:Nat)(a1:Int)(z1:(List Int)):Option (Ctl ((List Int)) Unit):=
 andThen (foldI (vG x1) x0.Ah 0 z1) (λ_=>none) λz2=>some (.next z2)
def Af3(x0:Ab)(x1:Ad):Option ((List Int)):=
 (mkI 9 x0.Am 0).bind λy1=>andThen (foldI Aja y1 0 y1) (λ_=>none) λz0=>andThen (foldI (Ai9 x0 x1) z0 0 z0) (λ_=>none) λz1=>some z1
def Ap7(x2:Int)(x3:Int)(a0:Ak)(y1:Bool):Bool:=(((a0.Kind==x2)&&(a0.B==x3))&&y1)
def vC(x1:Ad)(x2:Int)(x3:Int)(n0:Nat)(a0:Ak)(z0:Unit):Option (Ctl Unit (Int×Bool)):=
 (As [(((a0.Kind==x2)&&(a0.B==x3)),true)] (getI x1.Ai (cnt 0 n0)) default).bind λy1=>bif (Ap7 x2 x3 a0 y1)then some (.ret (a0.A,true)) else some (.next ())
def Afo(x0:Ab)(x1:Ad)(x2:Int)(x3:Int):Option (Int×Bool):=
 andThen (foldI (vC x1 x2 x3) x0.Ah 0 ()) some λz0=>some (0,false)
def Zb(x1:Ad)(x2:Int)(y1:Aj):Bool:=((!(Bn x2 0 (w64 ((x1.Ae.length:Int)-1)))) || (y1.State != 2))
def vF(x0:Ab)(x1:Ad)(x2:Int):Option (Int×Bool):=
 (As [(!(Bn x2 0 (w64 ((x1.Ae.length:Int)-1))),false)] (getI x1.Ae x2) default).bind λy1=>bif (Zb x1 x2 y1)then some (0,false) else (Afo x0 x1 2 x2).bind λy4=>some (y4.1,y4.2)
def vE(x0:Ab)(x1:Ad)(x2:Int):Option (Int×Bool):=
 (Afo x0 x1 3 x2).bind λy1=>some (y1.1,y1.2)
def Amt(x0:Ap):Bool:=
 ((x0.Am.length:Int)==0)
def Arx(n0:Nat)(a0:Ap)(z0:Unit):Option (Ctl Unit Int):=
 bif Amt a0 then some (.ret (cnt 0 n0)) else some (.next ())
def Z1(x0:List Ap):Option Int:=
 andThen (foldI Arx x0 0 ()) some λz0=>some (-1)
def Ad2(z0:Int×Int×(List Ap)):Bool:=decide (z0.2.1<(z0.2.2.length:Int))
def Vk(z0:Int×Int×(List Ap)):Option (Ctl (Int×Int×(List Ap)) Unit):=
 bif (Ad2 z0)then (getI z0.2.2 z0.2.1).bind λy5=>bif !(Amt y5)then (getI z0.2.2 z0.1).bind λy8=>(setI z0.2.2 z0.1 y5).bind λy10=>some (.next (w64 (z0.1+1),w64 (z0.2.1+1),y10)) else some (.next (z0.1,w64 (z0.2.1+1),z0.2.2)) else some (.brk (z0.1,z0.2.1,z0.2.2))
def Qw(x0:List Ap):Option ((List Ap)):=
 (Z1 x0).bind λy1=>bif (y1==(-1))then some x0 else andThen (whileN Vk 1152921504606846976 (y1,w64 (y1+1),x0)) (λ_=>none) λz0=>(bndI z0.2.2.length z0.1 (z0.2.2.length:Int)).bind λu13=>(bndI (Ho z0.2.2 (Int.toNat z0.1) ((Int.toNat (z0.2.2.length:Int))-(Int.toNat z0.1)) ⟨[],[],[]⟩).length 0 z0.1).bind λu15=>some ((Ho z0.2.2 (Int.toNat z0.1) ((Int.toNat (z0.2.2.length:Int))-(Int.toNat z0.1)) ⟨[],[],[]⟩).take ((Int.toNat z0.1)-0))
def Ajt(n0:Nat)(a0:Int)(z0:(List Ap)):Option (Ctl ((List Ap)) Unit):=
 (getI z0 a0).bind λy8=>(appI 9 y8.Am [cnt 0 n0]).bind λy10=>(setI z0 a0 ⟨y10,y8.Ae,y8.Ag⟩).bind λy12=>some (.next y12)
def Aqq(x0:Ab)(z1:Int×(List Ap)):Bool:=decide (z1.1<(x0.Ae.length:Int))
def Ajs(x0:Ab)(x1:Ad)(y4:(List Int))(z1:Int×(List Ap)):Option (Ctl (Int×(List Ap)) Unit):=
 bif (Aqq x0 z1)then (vF x0 x1 z1.1).bind λy15=>bif y15.2 then (getI y4 y15.1).bind λy18=>(getI z1.2 y18).bind λy20=>(appI 9 y20.Ae [z1.1]).bind λy22=>(setI z1.2 y18 ⟨y20.Am,y22,y20.Ag⟩).bind λy24=>some (.next (w64 (z1.1+1),y24)) else some (.next (w64 (z1.1+1),z1.2)) else some (.brk (z1.1,z1.2))
def Aqp(x0:Ab)(z2:Int×(List Ap)):Bool:=decide (z2.1<(x0.Ag.length:Int))
def Ajr(x0:Ab)(x1:Ad)(y4:(List Int))(z2:Int×(List Ap)):Option (Ctl (Int×(List Ap)) Unit):=
 bif (Aqp x0 z2)then (vE x0 x1 z2.1).bind λy27=>bif y27.2 then (getI y4 y27.1).bind λy30=>(getI z2.2 y30).bind λy32=>(appI 9 y32.Ag [z2.1]).bind λy34=>(setI z2.2 y30 ⟨y32.Am,y32.Ae,y34⟩).bind λy36=>some (.next (w64 (z2.1+1),y36)) else some (.next (w64 (z2.1+1),z2.2)) else some (.brk (z2.1,z2.2))
def vW(x0:Ab)(x1:Ad):Option ((List Ap)):=
 (Jb x0 x1).bind λy1=>bif (y1 != 0)then some [] else (Af3 x0 x1).bind λy4=>(mkI 73 x0.Am ⟨[],[],[]⟩).bind λy6=>andThen (foldI Ajt y4 0 y6) (λ_=>none) λz0=>andThen (whileN (Ajs x0 x1 y4) 1152921504606846976 (0,z0)) (λ_=>none) λz1=>andThen (whileN (Ajr x0 x1 y4) 1152921504606846976 (0,z1.2)) (λ_=>none) λz2=>(Qw z2.2).bind λy38=>some y38
def Aat(x2:Aj)(n0:Nat)(a0:Int)(z0:(List Aj)):Option (Ctl ((List Aj)) Unit):=
 (getI z0 a0).bind λy1=>(setI z0 a0 ⟨y1.State,y1.Since,x2.Aq,y1.Phase⟩).bind λy3=>(getI y3 a0).bind λy5=>(setI y3 a0 ⟨y5.State,y5.Since,y5.Aq,x2.Phase⟩).bind λy7=>some (.next y7)
def Qx(x0:Ad)(x1:List Int)(x2:Aj):Option ((List Aj)):=
 andThen (foldI (Aat x2) x1 0 x0.Ae) (λ_=>none) λz0=>some z0
def Awg(a0:Ap):Bool:=decide ((a0.Ae.length:Int)>0)
def Aq7(x1:Ad)(y4:Ad)(n0:Nat)(a0:Ap)(z0:(List Aj)):Option (Ctl ((List Aj)) Unit):=
 bif (Awg a0)then (getI a0.Ae 0).bind λy9=>(getI x1.Ae y9).bind λy11=>(Qx ⟨y4.Ai,z0,y4.An,y4.Al⟩ a0.Ae y11).bind λy13=>some (.next y13) else some (.next z0)
def F96(x0:Ab)(x1:Ad):Option (Ad×Int):=
 (Jb x0 x1).bind λy1=>bif (y1 != 0)then some (⟨[],[],[],[]⟩,y1) else (Mr x1).bind λy4=>(vW x0 x1).bind λy6=>andThen (foldI (Aq7 x1 y4) y6 0 y4.Ae) (λ_=>none) λz0=>some (⟨y4.Ai,z0,y4.An,y4.Al⟩,0)
def F98(x0:Bu):Bool:=
 ((((((decide (x0.Stop>=1))&&(decide (x0.Stop<=99)))&&(decide (x0.Start>x0.Stop)))&&(decide (x0.Start<=100)))&&(decide (x0.Delay>=0)))&&(decide (x0.Delay<=600)))
def vU(x1:List Bool)(n0:Nat)(a0:Bool)(z0:Unit):Option (Ctl Unit Bool):=
 (getI x1 (cnt 0 n0)).bind λy2=>bif !(a0==y2)then some (.ret false) else some (.next ())
def vV(x0:List Bool)(x1:List Bool):Option Bool:=
 bif ((x0.length:Int) != (x1.length:Int))then some false else andThen (foldI (vU x1) x0 0 ()) some λz0=>some true
def Aqo(a0:Aj)(y2:Aj):Bool:=!((a0.State==y2.State)&&((a0.Since==y2.Since)&&((a0.Aq==y2.Aq)&&((a0.Phase==y2.Phase)&&true))))
def vS(x1:List Aj)(n0:Nat)(a0:Aj)(z0:Unit):Option (Ctl Unit Bool):=
 (getI x1 (cnt 0 n0)).bind λy2=>bif (Aqo a0 y2)then some (.ret false) else some (.next ())
def vT(x0:List Aj)(x1:List Aj):Option Bool:=
 bif ((x0.length:Int) != (x1.length:Int))then some false else andThen (foldI (vS x1) x0 0 ()) some λz0=>some true
def vQ(x1:List Int)(n0:Nat)(a0:Int)(z0:Unit):Option (Ctl Unit Bool):=
 (getI x1 (cnt 0 n0)).bind λy2=>bif (a0 != y2)then some (.ret false) else some (.next ())
def vR(x0:List Int)(x1:List Int):Option Bool:=
 bif ((x0.length:Int) != (x1.length:Int))then some false else andThen (foldI (vQ x1) x0 0 ()) some λz0=>some true
def Aqn(a0:Aa)(y2:Aa):Bool:=!((a0.Kind==y2.Kind)&&((a0.Number==y2.Number)&&true))
def vO(x1:List Aa)(n0:Nat)(a0:Aa)(z0:Unit):Option (Ctl Unit Bool):=
 (getI x1 (cnt 0 n0)).bind λy2=>bif (Aqn a0 y2)then some (.ret false) else some (.next ())
def vP(x0:List Aa)(x1:List Aa):Option Bool:=
 bif ((x0.length:Int) != (x1.length:Int))then some false else andThen (foldI (vO x1) x0 0 ()) some λz0=>some true
def F99(x0:Ad)(x1:Ad):Option Bool:=
 (vV x0.Ai x1.Ai).bind λy1=>(As [(y1,true)] (vT x0.Ae x1.Ae) default).bind λy3=>(As [((y1&&y3),true)] (vR x0.An x1.An) default).bind λy5=>(As [(((y1&&y3)&&y5),true)] (vP x0.Al x1.Al) default).bind λy7=>some (((y1&&y3)&&y5)&&y7)
def Zi(x0:Int)(x1:Ar):Bool:=
 ((decide (x0>=(-1)))&&(decide (x0<=x1.Time)))
def Gh(x0:A_)(x1c0:Ar):Bool×Ar:=
 (((!(Zi x0.High x1c0)) || (!(Zi x0.Low x1c0))),x1c0)
def Ad4(z0:Sg1)(a0:A_):Bool:=(Gh a0 (⟨z0.1,(⟨z0.2.1,z0.2.2.1,z0.2.2.2.1,z0.2.2.2.2.1⟩:Ad),z0.2.2.2.2.2.1,z0.2.2.2.2.2.2⟩:Ar)).1
def Vq(n0:Nat)(a0:A_)(z0:Sg1):Option (Ctl (Sg1) (Int×Ar)):=
 bif (Ad4 z0 a0)then some (.ret (cnt 0 n0,⟨((Gh a0 ⟨z0.1,⟨z0.2.1,z0.2.2.1,z0.2.2.2.1,z0.2.2.2.2.1⟩,z0.2.2.2.2.2.1,z0.2.2.2.2.2.2⟩).2).Time,(((Gh a0 ⟨z0.1,⟨z0.2.1,z0.2.2.1,z0.2.2.2.1,z0.2.2.2.2.1⟩,z0.2.2.2.2.2.1,z0.2.2.2.2.2.2⟩).2).Power),((Gh a0 ⟨z0.1,⟨z0.2.1,z0.2.2.1,z0.2.2.2.1,z0.2.2.2.2.1⟩,z0.2.2.2.2.2.1,z0.2.2.2.2.2.2⟩).2).Ba,((Gh a0 ⟨z0.1,⟨z0.2.1,z0.2.2.1,z0.2.2.2.1,z0.2.2.2.2.1⟩,z0.2.2.2.2.2.1,z0.2.2.2.2.2.2⟩).2).Bh⟩)) else some (.next (((Gh a0 ⟨z0.1,⟨z0.2.1,z0.2.2.1,z0.2.2.2.1,z0.2.2.2.2.1⟩,z0.2.2.2.2.2.1,z0.2.2.2.2.2.2⟩).2).Time,(((Gh a0 ⟨z0.1,⟨z0.2.1,z0.2.2.1,z0.2.2.2.1,z0.2.2.2.2.1⟩,z0.2.2.2.2.2.1,z0.2.2.2.2.2.2⟩).2).Power).Ai,(((Gh a0 ⟨z0.1,⟨z0.2.1,z0.2.2.1,z0.2.2.2.1,z0.2.2.2.2.1⟩,z0.2.2.2.2.2.1,z0.2.2.2.2.2.2⟩).2).Power).Ae,(((Gh a0 ⟨z0.1,⟨z0.2.1,z0.2.2.1,z0.2.2.2.1,z0.2.2.2.2.1⟩,z0.2.2.2.2.2.1,z0.2.2.2.2.2.2⟩).2).Power).An,(((Gh a0 ⟨z0.1,⟨z0.2.1,z0.2.2.1,z0.2.2.2.1,z0.2.2.2.2.1⟩,z0.2.2.2.2.2.1,z0.2.2.2.2.2.2⟩).2).Power).Al,((Gh a0 ⟨z0.1,⟨z0.2.1,z0.2.2.1,z0.2.2.2.1,z0.2.2.2.2.1⟩,z0.2.2.2.2.2.1,z0.2.2.2.2.2.2⟩).2).Ba,((Gh a0 ⟨z0.1,⟨z0.2.1,z0.2.2.1,z0.2.2.2.1,z0.2.2.2.2.1⟩,z0.2.2.2.2.2.1,z0.2.2.2.2.2.2⟩).2).Bh))
def jH(x0:List A_)(x1c0c0:Ar):Option (Int×Ar):=
 andThen (foldI Vq x0 0 (x1c0c0.Time,x1c0c0.Power.Ai,x1c0c0.Power.Ae,x1c0c0.Power.An,x1c0c0.Power.Al,x1c0c0.Ba,x1c0c0.Bh)) some λz0=>some ((-1),⟨z0.1,⟨z0.2.1,z0.2.2.1,z0.2.2.2.1,z0.2.2.2.2.1⟩,z0.2.2.2.2.2.1,z0.2.2.2.2.2.2⟩)
def Qz(x0:List A_)(x1c0c0:Ar):Option (Bool×Ar):=
 (jH x0 x1c0c0).bind λy1=>some (decide (y1.1>=0),y1.2)
def Awq(x1:Bu)(x2:Ar):Bool:=(((!(F98 x1)) || (decide (x2.Time<0))) || (decide (x2.Time>2147483648)))
def F49(x0:Ab)(x1:Bu)(x2:Ar):Option Int:=
 (F96 x0 x2.Power).bind λy1=>bif (y1.2 != 0)then some y1.2 else bif (Awq x1 x2)then some 1 else bif ((x2.Ba.length:Int) != x0.Am)then some 8 else (F99 x2.Power y1.1).bind λy6=>(As [(!y6,false)] (Qz x2.Ba x2) (default,x2)).bind λy8=>bif ((!y6) || y8.1)then some 11 else some 0
def Agc(x0:Aa):Bool:=
 ((((decide (x0.Kind>=1))&&(decide (x0.Kind<=9)))&&(decide (x0.Number>=0)))&&(decide (x0.Number<=63)))
def Agd(x0:Aa):Bool:=
 !(Agc x0)
def Ar2(n0:Nat)(a0:Aa)(z0:Unit):Option (Ctl Unit Int):=
 bif Agd a0 then some (.ret (cnt 0 n0)) else some (.next ())
def Af2(x0:List Aa):Option Int:=
 andThen (foldI Ar2 x0 0 ()) some λz0=>some (-1)
def jA(x0:List Aa):Option Bool:=
 (Af2 x0).bind λy1=>some (decide (y1>=0))
def Ms(x0:Aa)(x1:Aa):Option Int:=
 (Vo [Ir x0.Kind x1.Kind,Ir x0.Number x1.Number]).bind λy1=>some y1
def Aas(x0:List Aa)(z0:Int):Option (Ctl Int Bool):=
 bif decide (z0<(x0.length:Int))then (getI x0 (w64 (z0-1))).bind λy2=>(getI x0 z0).bind λy4=>(Ms y2 y4).bind λy6=>bif decide (y6>=0)then some (.ret false) else some (.next (w64 (z0+1))) else some (.brk z0)
def Vp(x0:List Aa):Option Bool:=
 andThen (whileN (Aas x0) 1152921504606846976 1) some λz0=>some true
def Ane(x0:List Aa):Option Bool:=
 (jA x0).bind λy1=>(As [(!y1,true)] (Vp x0) default).bind λy3=>some ((!y1)&&y3)
def A2e(x1:Aa)(a0:Aa):Bool:=((x1.Kind==a0.Kind)&&((x1.Number==a0.Number)&&true))
def Azc(x1:Aa)(n0:Nat)(a0:Aa)(z0:Unit):Option (Ctl Unit Int):=
 bif (A2e x1 a0)then some (.ret (cnt 0 n0)) else some (.next ())
def Am5(x0:List Aa)(x1:Aa):Option Int:=
 andThen (foldI (Azc x1) x0 0 ()) some λz0=>some (-1)
def Agi(x0:List Aa)(x1:Aa):Option Bool:=
 (Am5 x0 x1).bind λy1=>some (decide (y1>=0))
def F53(x0:List Aa)(x1:Aa):Option Bool:=
 (Agi x0 x1).bind λy1=>some y1
def Am6(x0:A6)(x1:A6):Option Int:=
 (Ms x0.From x1.From).bind λy1=>(Ms x0.To x1.To).bind λy3=>(Vo [y1,y3]).bind λy5=>some y5
def Aar(x0:List A6)(z0:Int):Option (Ctl Int Bool):=
 bif decide (z0<(x0.length:Int))then (getI x0 (w64 (z0-1))).bind λy2=>(getI x0 z0).bind λy4=>(Am6 y2 y4).bind λy6=>bif decide (y6>=0)then some (.ret false) else some (.next (w64 (z0+1))) else some (.brk z0)
def Z9(x0:List A6):Option Bool:=
 andThen (whileN (Aar x0) 1152921504606846976 1) some λz0=>some true
def Aqw(a0:A6)(y1:Bool)(y3:Bool):Bool:=(((!y1) || (!y3)) || ((a0.From.Kind==a0.To.Kind)&&((a0.From.Number==a0.To.Number)&&true)))
def Aj1(x0:A3)(n0:Nat)(a0:A6)(z0:Unit):Option (Ctl Unit Bool):=
 (F53 x0.Parts a0.From).bind λy1=>(As [(!y1,false)] (F53 x0.Parts a0.To) default).bind λy3=>bif (Aqw a0 y1 y3)then some (.ret false) else some (.next ())
def And(x0:A3):Option Bool:=
 andThen (foldI (Aj1 x0) x0.Links 0 ()) some λz0=>(Z9 x0.Links).bind λy6=>some y6
def A2g(x0:ByteArray):Bool:=((decide ((x0.size:Int)<1)) || (decide ((x0.size:Int)>12)))
def A2f(n0:Nat)(a0:Int):Bool:=((!((decide (a0>=97))&&(decide (a0<=122))))&&(((cnt 0 n0)==0) || ((a0 != 45)&&((decide (a0<48)) || (decide (a0>57))))))
def Azd(n0:Nat)(a0:Int)(z0:Unit):Option (Ctl Unit Bool):=
 bif (A2f n0 a0)then some (.ret false) else some (.next ())
def Avt(x0:ByteArray):Option Bool:=
 bif (A2g x0)then some false else (Aec x0).bind λy2=>andThen (foldI Azd y2 0 ()) some λz0=>some true
def Agb(x0:Bp)(x1:Bp):Bool:=
 (x0.Name.toList==x1.Name.toList)
def Aap(x1c0:Bp)(n0:Nat)(a0:Bp)(z0:Unit):Option (Ctl Unit (Int×Bp)):=
 bif Agb a0 x1c0 then some (.ret (cnt 0 n0,x1c0)) else some (.next ())
def Af0(x0:List Bp)(x1c0:Bp):Option (Int×Bp):=
 andThen (foldI (Aap x1c0) x0 0 ()) some λz0=>some ((-1),x1c0)
def Z8(x0:List Bp)(x1c0:Bp):Option (Bool×Bp):=
 (Af0 x0 x1c0).bind λy1=>some (decide (y1.1>=0),y1.2)
def Aga(x0:Aa)(x1:A3):Option Bool:=
 (F53 x1.Parts x0).bind λy1=>some (!y1)
def Aaq(x1c0:A3)(n0:Nat)(a0:Aa)(z0:Unit):Option (Ctl Unit (Int×A3)):=
 (Aga a0 x1c0).bind λy1=>bif y1 then some (.ret (cnt 0 n0,x1c0)) else some (.next ())
def Af1(x0:List Aa)(x1c0:A3):Option (Int×A3):=
 andThen (foldI (Aaq x1c0) x0 0 ()) some λz0=>some ((-1),x1c0)
def Z_(x0:List Aa)(x1c0:A3):Option (Bool×A3):=
 (Af1 x0 x1c0).bind λy1=>some (decide (y1.1>=0),y1.2)
def Aqv(y1:Bool)(y5:Bool×Bp)(y7:Bool×A3)(y9:Bool):Bool:=(((((!y1) || y5.1) || ((y5.2.Parts.length:Int)==0)) || y7.1) || (!y9))
def Aj0(n0:Nat)(a0:Bp)(z0:(List Aa)×(List A6)×(List Bp)):Option (Ctl ((List Aa)×(List A6)×(List Bp)) Bool):=
 (Avt a0.Name).bind λy1=>(As [(!y1,false)] (cutI z0.2.2 0 (cnt 0 n0)) default).bind λy4=>(As [(!y1,false)] (Z8 y4 a0) (default,a0)).bind λy5=>(As [((((!y1) || y5.1) || ((y5.2.Parts.length:Int)==0)),false)] (Z_ y5.2.Parts ⟨z0.1,z0.2.1,z0.2.2⟩) (default,⟨z0.1,z0.2.1,z0.2.2⟩)).bind λy7=>(As [(((((!y1) || y5.1) || ((y5.2.Parts.length:Int)==0)) || y7.1),false)] (Vp y5.2.Parts) default).bind λy9=>bif (Aqv y1 y5 y7 y9)then some (.ret false) else some (.next (y7.2.Parts,y7.2.Links,y7.2.Groups))
def Anc(x0:A3):Option Bool:=
 andThen (foldI Aj0 x0.Groups 0 (x0.Parts,x0.Links,x0.Groups)) some λz0=>some true
def Alq(x0:A3):Bool:=(((decide ((x0.Parts.length:Int)>40)) || (decide ((x0.Links.length:Int)>60))) || (decide ((x0.Groups.length:Int)>6)))
def F50(x0:A3):Option Int:=
 bif (Alq x0)then some 2 else (Ane x0.Parts).bind λy2=>(As [(!y2,false)] (And x0) default).bind λy4=>(As [(((!y2) || (!y4)),false)] (Anc x0) default).bind λy6=>bif (((!y2) || (!y4)) || (!y6))then some 63 else some 0
def F52(x0:List (List Aa)):Option (List Aa):=I0 16 x0
def F51(x0:A3)(x1:List Aa):Option (List Aa):=Yv F50 Sv x0 x1
def yC(x0:List A_):Option (List A_):=appI 17 [] x0
def yB(x0:List Bv):Option (List Bv):=appI 41 [] x0
def Anb(x0:Ab)(x1:Ar):Option Cm:=
 (Mr x1.Power).bind λy1=>(yC x1.Ba).bind λy3=>(yB x1.Bh).bind λy5=>some ⟨⟨x1.Time,y1,y3,y5⟩,x0,[],[]⟩
def H4(x0:Ab)(x1:Int)(x2:Int):Bool:=
 bif (x1==1)then ((decide (x2>=0))&&(decide (x2<(x0.Ae.length:Int)))) else bif (x1==2)then ((decide (x2>=0))&&(decide (x2<(x0.Ah.length:Int)))) else bif (x1==3)then ((decide (x2>=0))&&(decide (x2<x0.Am))) else bif (x1==4)then ((decide (x2>=0))&&(decide (x2<(x0.Ag.length:Int)))) else ((decide (x2>=0))&&(decide (x2<0)))
def Ai7(x1:Aw):Option (Ctl Bool Unit):=
 bif (x1.Kind==1)then some (.next (x1.Kind==1)) else some (.next (x1.Kind==2))
def Ai6(x1:Aw):Option (Ctl Bool Unit):=
 bif (x1.Kind==3)then some (.next (x1.Kind==3)) else some (.next (x1.Kind==4))
def Amr(x0:Ab)(x1:Aw):Option Bool:=
 andThen (Ai7 x1) (λ_=>none) λz0=>bif z0 then some (H4 x0 2 x1.Unit) else andThen (Ai6 x1) (λ_=>none) λz1=>bif z1 then some (H4 x0 1 x1.Unit) else bif (x1.Kind==5)then some (H4 x0 4 x1.Unit) else bif (x1.Kind==6)then some ((H4 x0 1 x1.Unit)&&(H4 x0 3 x1.Value)) else bif (x1.Kind==8)then some (H4 x0 x1.Value x1.Unit) else bif (x1.Kind==9)then some (H4 x0 x1.Value x1.Unit) else some true
def Mq(x0:Ad)(x1:Int)(x2:Int):Option Bool:=
 (Agi x0.Al ⟨x1,x2⟩).bind λy1=>some y1
def Af8(x0:Ab)(x1:Ad)(x2:Int):Option (Int×Bool):=
 (Jb x0 x1).bind λy1=>bif (y1 != 0)then some (0,false) else (vE x0 x1 x2).bind λy4=>some (y4.1,y4.2)
def Al9(x0:Ab)(x1:Ad)(x2:Int):Option Bool:=
 (getI x0.Ah x2).bind λy1=>(getI x1.Ai x2).bind λy3=>(As [(y3,false)] (Mq x1 2 x2) default).bind λy5=>(As [((y3 || y5),false)] (Mq x1 3 y1.A) default).bind λy7=>bif ((y3 || y5) || y7)then some false else bif (y1.Kind==1)then (Mq x1 3 y1.B).bind λy11=>some (!y11) else bif (y1.Kind==2)then (Mq x1 1 y1.B).bind λy14=>(As [(!y14,true)] (getI x1.Ae y1.B) default).bind λy16=>some ((!y14)&&(y16.State==2)) else (Af8 x0 x1 y1.B).bind λy18=>(Mq x1 4 y1.B).bind λy20=>some ((!y20)&&(!y18.2))
def Qv(x2:Int)(n0:Nat)(a0:Ap)(z0:Unit):Option (Ctl Unit (Ap×Bool)):=
 (Vg a0.Am x2).bind λy3=>bif y3 then some (.ret (a0,true)) else some (.next ())
def J3(x0:Ab)(x1:Ad)(x2:Int):Option (Ap×Bool):=
 (vW x0 x1).bind λy1=>andThen (foldI (Qv x2) y1 0 ()) some λz0=>some (⟨[],[],[]⟩,false)
def uZ(x0:Ab)(x1:Ad)(x2:Int):Option (Int×Bool):=
 (J3 x0 x1 x2).bind λy1=>bif ((y1.1.Ae.length:Int)==0)then some (0,false) else (getI y1.1.Ae 0).bind λy4=>some (y4,true)
def E4(x0:Int):Int:=
 bif decide ((Int.tmod x0 3600)<0)then w64 ((Int.tmod x0 3600)+3600) else Int.tmod x0 3600
def A1q(x0:Int)(x1:Int):Bool:=decide ((E4 (w64 ((E4 x1)-(E4 x0))))>1800)
def Al2(x0:Int)(x1:Int):Int:=
 bif (A1q x0 x1)then w64 ((E4 (w64 ((E4 x1)-(E4 x0))))-3600) else E4 (w64 ((E4 x1)-(E4 x0)))
def A1s(x1:Aj)(x2:Aj):Bool:=((decide ((min x1.Aq x2.Aq)<0)) || (decide ((max x1.Aq x2.Aq)>6000)))
def Ae6(x0:Ab)(x1:Aj)(x2:Aj):Bool:=
 bif (A1s x1 x2)then false else ((decide ((max (w64 (x1.Aq-x2.Aq)) (w64 (x2.Aq-x1.Aq)))<=x0.Aq))&&(decide ((max (Al2 x1.Phase x2.Phase) (w64 (0-Al2 x1.Phase x2.Phase)))<=x0.Phase)))
def Al8(x0:Ab)(x1:Ad)(x2:Ak):Option Bool:=
 (uZ x0 x1 x2.A).bind λy1=>bif !y1.2 then some true else bif (x2.Kind==1)then (uZ x0 x1 x2.B).bind λy5=>(As [(!y5.2,false)] (getI x1.Ae y1.1) default).bind λy7=>(As [(!y5.2,false)] (getI x1.Ae y5.1) default).bind λy9=>some ((!y5.2) || (Ae6 x0 y7 y9)) else bif (x2.Kind==2)then (getI x1.Ae y1.1).bind λy12=>(getI x1.Ae x2.B).bind λy14=>some (Ae6 x0 y12 y14) else some true
def Ap0(x0:Ab)(x2:Int):Bool:=((decide (x2<0)) || (decide (x2>=(x0.Ah.length:Int))))
def Ame(x0:Ab)(x1:Ad)(x2:Int):Option Int:=
 (Jb x0 x1).bind λy1=>bif (y1 != 0)then some y1 else bif (Ap0 x0 x2)then some 10 else (Al9 x0 x1 x2).bind λy5=>bif !y5 then some 11 else (getI x0.Ah x2).bind λy8=>(J3 x0 x1 y8.A).bind λy10=>(As [((y8.Kind==1),true)] (Vg y10.1.Am y8.B) default).bind λy12=>(As [(!((y8.Kind==1)&&y12),true)] (Al8 x0 x1 y8) default).bind λy14=>bif ((!((y8.Kind==1)&&y12))&&(!y14))then some 12 else some 0
def Aml(x0:Ab)(x1:Ad)(x2:Int):Option (Ad×Int):=
 (Ame x0 x1 x2).bind λy1=>bif (y1 != 0)then some (⟨[],[],[],[]⟩,y1) else (Mr x1).bind λy4=>(getI y4.Ai x2).bind λy6=>(setI y4.Ai x2 true).bind λy8=>(F96 x0 ⟨y8,y4.Ae,y4.An,y4.Al⟩).bind λy10=>some (y10.1,y10.2)
def Ap6(x0:Ab)(x2:Int):Bool:=((decide (x2<0)) || (decide (x2>=(x0.Ah.length:Int))))
def Amk(x0:Ab)(x1:Ad)(x2:Int):Option (Ad×Int):=
 (Jb x0 x1).bind λy1=>bif (y1 != 0)then some (⟨[],[],[],[]⟩,y1) else bif (Ap6 x0 x2)then some (⟨[],[],[],[]⟩,10) else (getI x1.Ai x2).bind λy5=>(As [(!y5,false)] (Mq x1 2 x2) default).bind λy7=>bif ((!y5) || y7)then some (⟨[],[],[],[]⟩,11) else (Mr x1).bind λy10=>(getI y10.Ai x2).bind λy12=>(setI y10.Ai x2 false).bind λy14=>some (⟨y14,y10.Ae,y10.An,y10.Al⟩,0)
def Avh(x0:Ab)(x1:Ad)(x2:Int):Option (Int×Bool):=
 (Jb x0 x1).bind λy1=>bif (y1 != 0)then some (0,false) else (vF x0 x1 x2).bind λy4=>some (y4.1,y4.2)
def Ap5(x0:Ab)(x2:Int)(x3:Int):Bool:=((((decide (x2<0)) || (decide (x2>=(x0.Ae.length:Int)))) || (decide (x3<0))) || (decide (x3>=x0.Am)))
def Amj(x0:Ab)(x1:Ad)(x2:Int)(x3:Int):Option (Ad×Int):=
 (Jb x0 x1).bind λy1=>bif (y1 != 0)then some (⟨[],[],[],[]⟩,y1) else bif (Ap5 x0 x2 x3)then some (⟨[],[],[],[]⟩,10) else (uZ x0 x1 x3).bind λy5=>(As [(!y5.2,false)] (getI x1.Ae x2) default).bind λy7=>bif ((!y5.2) || (y7.State != 2))then some (⟨[],[],[],[]⟩,11) else (Mr x1).bind λy10=>(Avh x0 x1 x2).bind λy12=>bif y12.2 then (J3 x0 x1 y12.1).bind λy15=>(getI x1.Ae y5.1).bind λy17=>(Qx y10 y15.1.Ae y17).bind λy19=>some (⟨y10.Ai,y19,y10.An,y10.Al⟩,0) else (getI x1.Ae y5.1).bind λy21=>(Qx y10 [x2] y21).bind λy23=>some (⟨y10.Ai,y23,y10.An,y10.Al⟩,0)
def Ae4(x0:Ak)(x1:Int):Bool:=
 ((x0.Kind==2)&&(x0.B==x1))
def U4(x1c0:Int)(n0:Nat)(a0:Ak)(z0:Unit):Option (Ctl Unit (Int×Int)):=
 bif Ae4 a0 x1c0 then some (.ret (cnt 0 n0,x1c0)) else some (.next ())
def Ae5(x0:List Ak)(x1c0:Int):Option (Int×Int):=
 andThen (foldI (U4 x1c0) x0 0 ()) some λz0=>some ((-1),x1c0)
def Al7(x0:Ab)(x1:Int):Option Int:=
 (Ae5 x0.Ah x1).bind λy1=>some y1.1
def Qu(x0:Bc)(x1:Int):Option Bool:=
 (Al7 x0.Ao x1).bind λy1=>(getI x0.Au.Ai y1).bind λy3=>some (!y3)
def Zz(x0:Bc)(x1:Int):Option (Int×Bc):=
 (getI x0.Au.Ae x1).bind λy1=>(As [((y1.State != 0),false)] (Mq x0.Au 1 x1) default).bind λy3=>bif ((y1.State != 0) || y3)then some (11,x0) else (getI x0.Ao.Ae x1).bind λy6=>(As [((y6.Start==0),true)] (Qu x0 x1) default).bind λy8=>bif ((y6.Start==0)&&y8)then (setI x0.Au.Ae x1 ⟨2,x0.time,5000,0⟩).bind λy11=>some (0,⟨x0.Ao,⟨x0.Au.Ai,y11,x0.Au.An,x0.Au.Al⟩,x0.time⟩) else (setI x0.Au.Ae x1 ⟨1,x0.time,5000,0⟩).bind λy13=>some (0,⟨x0.Ao,⟨x0.Au.Ai,y13,x0.Au.An,x0.Au.Al⟩,x0.time⟩)
def Auh(y1:Aj)(y3:Bool):Bool:=(((y1.State != 1)&&(y1.State != 2)) || (!y3))
def Zy(x0:Bc)(x1:Int):Option (Int×Bc):=
 (getI x0.Au.Ae x1).bind λy1=>(As [(((y1.State != 1)&&(y1.State != 2)),false)] (Qu x0 x1) default).bind λy3=>bif (Auh y1 y3)then some (11,x0) else (setI x0.Au.Ae x1 ⟨0,y1.Since,y1.Aq,y1.Phase⟩).bind λy6=>some (0,⟨x0.Ao,⟨x0.Au.Ai,y6,x0.Au.An,x0.Au.Al⟩,x0.time⟩)
def Adz(x2:Int)(y1:A7):Bool:=((decide (x2<0)) || (decide (x2>y1.Load)))
def Zx(x0:Bc)(x1:Int)(x2:Int):Option (Int×Bc):=
 (As [(decide (x2<0),false)] (getI x0.Ao.Ag x1) default).bind λy1=>bif (Adz x2 y1)then some (1,x0) else (getI x0.Au.An x1).bind λy4=>(setI x0.Au.An x1 x2).bind λy6=>some (0,⟨x0.Ao,⟨x0.Au.Ai,x0.Au.Ae,y6,x0.Au.Al⟩,x0.time⟩)
def Aix(n0:Nat)(a0:Aj)(z0:(List Aj)):Option (Ctl ((List Aj)) Unit):=
 bif (a0.State==2)then (getI z0 (cnt 0 n0)).bind λy7=>(setI z0 (cnt 0 n0) ⟨y7.State,y7.Since,y7.Aq,E4 (w64 (a0.Phase+(w64 (36*(w64 (a0.Aq-5000))))))⟩).bind λy9=>some (.next y9) else some (.next z0)
def Amd(x0:Ab)(x1:Ad):Option (Ad×Int):=
 (Jb x0 x1).bind λy1=>bif (y1 != 0)then some (⟨[],[],[],[]⟩,y1) else (Mr x1).bind λy4=>andThen (foldI Aix x1.Ae 0 y4.Ae) (λ_=>none) λz0=>some (⟨y4.Ai,z0,y4.An,y4.Al⟩,0)
def Ady(y1:Ad×Int)(z0:Int×(List Aj)):Bool:=decide (z0.1<(y1.1.Ae.length:Int))
def Aug(x0:Bc)(y4:Aj)(y6:Bool)(y8:B5):Bool:=(((y4.State==1)&&y6)&&(decide ((w64 (y4.Since+y8.Start))<=(w64 (x0.time+1)))))
def Aal(x0:Bc)(y1:Ad×Int)(z0:Int×(List Aj)):Option (Ctl (Int×(List Aj)) Unit):=
 bif (Ady y1 z0)then (getI z0.2 z0.1).bind λy4=>(As [((y4.State==1),true)] (Qu ⟨x0.Ao,⟨y1.1.Ai,z0.2,y1.1.An,y1.1.Al⟩,x0.time⟩ z0.1) default).bind λy6=>(As [(((y4.State==1)&&y6),true)] (getI x0.Ao.Ae z0.1) default).bind λy8=>bif (Aug x0 y4 y6 y8)then (setI z0.2 z0.1 ⟨2,y4.Since,y4.Aq,y4.Phase⟩).bind λy11=>some (.next (w64 (z0.1+1),y11)) else some (.next (w64 (z0.1+1),z0.2)) else some (.brk (z0.1,z0.2))
def Zw(x0:Bc):Option Bc:=
 (Amd x0.Ao x0.Au).bind λy1=>andThen (whileN (Aal x0 y1) 1152921504606846976 (0,y1.1.Ae)) (λ_=>none) λz0=>some ⟨x0.Ao,⟨y1.1.Ai,z0.2,y1.1.An,y1.1.Al⟩,x0.time⟩
def Sq(x0:Aa)(x1:Aa):Int:=
 bif (x0.Kind != x1.Kind)then w64 (x0.Kind-x1.Kind) else w64 (x0.Number-x1.Number)
def Aad(x0:List Aa)(x1:Aa)(z0:Int×Int):Option (Ctl (Int×Int) Unit):=
 bif decide (z0.1<z0.2)then (getI x0 (w64 (Tj .u64 (IntKind.wrap .u64 (w64 (z0.1+z0.2))) 1))).bind λy2=>bif decide ((Sq y2 x1)<0)then some (.next (w64 ((w64 (Tj .u64 (IntKind.wrap .u64 (w64 (z0.1+z0.2))) 1))+1),z0.2)) else some (.next (z0.1,w64 (Tj .u64 (IntKind.wrap .u64 (w64 (z0.1+z0.2))) 1))) else some (.brk (z0.1,z0.2))
def Zp(x0:List Aa)(x1:Aa):Option (Int×Bool):=
 andThen (whileN (Aad x0 x1) 1152921504606846976 (0,(x0.length:Int))) (λ_=>none) λz0=>(As [(decide (z0.1<(x0.length:Int)),true)] (getI x0 z0.1) default).bind λy5=>some (z0.1,((decide (z0.1<(x0.length:Int)))&&((Sq y5 x1)==0)))
def Qt(x0:List Aa)(x1:Int)(x2:List Aa):Option ((List Aa)):=
 (bndI x0.length x1 (x0.length:Int)).bind λu2=>bif ((x2.length:Int)==0)then some x0 else bif (x1==(x0.length:Int))then (appI 17 x0 x2).bind λy5=>some y5 else insI 17 x0 x1 x2
def U6(x0:List Aa)(x1:Int)(x2:Int):Option ((List Aa)):=
 (bnd3I x0.length x1 x2 (x0.length:Int)).bind λu2=>bif (x1==x2)then some x0 else (bndI x0.length 0 x1).bind λu5=>(bndI x0.length x2 (x0.length:Int)).bind λu7=>(appPI x0 ((Int.toNat x1)-0) ((x0.drop (Int.toNat x2)).take ((Int.toNat (x0.length:Int))-(Int.toNat x2)))).bind λy8=>(bndI (y8.length-0) (((((Int.toNat x1)-0)+((x0.drop (Int.toNat x2)).take ((Int.toNat (x0.length:Int))-(Int.toNat x2))).length):Nat):Int) (x0.length:Int)).bind λu11=>some ((Ho y8 (0+(Int.toNat (((((Int.toNat x1)-0)+((x0.drop (Int.toNat x2)).take ((Int.toNat (x0.length:Int))-(Int.toNat x2))).length):Nat):Int))) ((Int.toNat (x0.length:Int))-(Int.toNat (((((Int.toNat x1)-0)+((x0.drop (Int.toNat x2)).take ((Int.toNat (x0.length:Int))-(Int.toNat x2))).length):Nat):Int))) ⟨0,0⟩).take (((Int.toNat x1)-0)+((x0.drop (Int.toNat x2)).take ((Int.toNat (x0.length:Int))-(Int.toNat x2))).length))
def Sf(x0:Bc)(x2:Bool):Bool:=(x2&&(decide ((x0.Au.Al.length:Int)>=32)))
def Vf(x0:Bc)(x1:Aa)(x2:Bool)(y1:Int×Bool):Option (Ctl ((List Aa)) Unit):=
 bif x2 then (Qt x0.Au.Al y1.1 [x1]).bind λy6=>some (.next y6) else (U6 x0.Au.Al y1.1 (w64 (y1.1+1))).bind λy8=>some (.next y8)
def Jg(x0:Bc)(x1:Aa)(x2:Bool):Option (Int×Bc):=
 (Zp x0.Au.Al x1).bind λy1=>bif (y1.2==x2)then some (11,x0) else bif (Sf x0 x2)then some (2,x0) else andThen (Vf x0 x1 x2 y1) (λ_=>none) λz0=>bif (x1.Kind==1)then (getI x0.Au.Ae x1.Number).bind λy11=>(setI x0.Au.Ae x1.Number ⟨0,y11.Since,y11.Aq,y11.Phase⟩).bind λy13=>bif x2 then (getI y13 x1.Number).bind λy16=>(setI y13 x1.Number ⟨3,y16.Since,y16.Aq,y16.Phase⟩).bind λy18=>some (0,⟨x0.Ao,⟨x0.Au.Ai,y18,x0.Au.An,z0⟩,x0.time⟩) else some (0,⟨x0.Ao,⟨x0.Au.Ai,y13,x0.Au.An,z0⟩,x0.time⟩) else some (0,⟨x0.Ao,⟨x0.Au.Ai,x0.Au.Ae,x0.Au.An,z0⟩,x0.time⟩)
def Z5(x0:Bc)(x1:Aw):Option (Int×Bc):=
 bif (x1.Kind==1)then (Aml x0.Ao x0.Au x1.Unit).bind λy2=>some (y2.2,⟨x0.Ao,y2.1,x0.time⟩) else bif (x1.Kind==2)then (Amk x0.Ao x0.Au x1.Unit).bind λy5=>some (y5.2,⟨x0.Ao,y5.1,x0.time⟩) else bif (x1.Kind==6)then (Amj x0.Ao x0.Au x1.Unit x1.Value).bind λy8=>some (y8.2,⟨x0.Ao,y8.1,x0.time⟩) else bif (x1.Kind==3)then (Zz x0 x1.Unit).bind λy11=>some (y11.1,y11.2) else bif (x1.Kind==4)then (Zy x0 x1.Unit).bind λy14=>some (y14.1,y14.2) else bif (x1.Kind==5)then (Zx x0 x1.Unit x1.Value).bind λy17=>some (y17.1,y17.2) else bif (x1.Kind==7)then (Zw x0).bind λy20=>some (0,y20) else (Jg x0 ⟨x1.Value,x1.Unit⟩ (x1.Kind==8)).bind λy22=>some (y22.1,y22.2)
def Aqj(x2:Int)(x3:Aw):Bool:=((((decide (x2<0)) || (decide (x2>2147483648))) || (decide (x3.Kind<1))) || (decide (x3.Kind>9)))
def vM(x0:Ab)(x1:Ad)(x2:Int)(x3:Aw):Option (Ad×Int):=
 (Jb x0 x1).bind λy1=>bif (y1 != 0)then some (⟨[],[],[],[]⟩,y1) else bif (Aqj x2 x3)then some (⟨[],[],[],[]⟩,1) else (Amr x0 x3).bind λy5=>bif !y5 then some (⟨[],[],[],[]⟩,10) else (Mr x1).bind λy8=>(Z5 ⟨x0,y8,x2⟩ x3).bind λy10=>bif (y10.1 != 0)then some (⟨[],[],[],[]⟩,y10.1) else some (y10.2.Au,0)
def Vl(x0:Cm)(x1:Aw)(x2:Int):Option Cm:=
 (appI 41 x0.events [⟨x0.Bi.Time,x1,x2⟩]).bind λy1=>some ⟨x0.Bi,x0.Ao,y1,x0.states⟩
def Od(x0:Cm)(x1:Ad):Option Cm:=
 (Mr x1).bind λy3=>(appI 97 x0.states [y3]).bind λy5=>some ⟨x0.Bi,x0.Ao,x0.events,y5⟩
def Oc(x0:Int)(x1:Int)(x2:A2):Option (Bool×A2):=
 (Mq x2.Au x0 x1).bind λy1=>some (y1,x2)
def Zs(x0:A2)(x1:Ak):Option (Bool×A2):=
 (Oc 3 x1.A x0).bind λy1=>bif y1.1 then some (true,y1.2) else bif (x1.Kind==1)then (Oc 3 x1.B y1.2).bind λy5=>some (y5.1,y5.2) else bif (x1.Kind==2)then (Oc 1 x1.B y1.2).bind λy8=>(As [(y8.1,false)] (getI y8.2.Au.Ae x1.B) default).bind λy10=>some ((y8.1 || (y10.State != 2)),y8.2) else (Oc 4 x1.B y1.2).bind λy12=>some (y12.1,y12.2)
def Qr(x0:A2)(x1:Int):Option A2:=
 (getI x0.Au.Ai x1).bind λy1=>(setI x0.Au.Ai x1 false).bind λy3=>(appI 25 x0.acts [⟨2,x1,0⟩]).bind λy5=>some ⟨x0.Ao,⟨y3,x0.Au.Ae,x0.Au.An,x0.Au.Al⟩,y5⟩
def Aak(n0:Nat)(a0:Ak)(z0:Alw):Option (Ctl (Alw) Unit):=
 (getI z0.2.2.2.2.2.2.2.1 (cnt 0 n0)).bind λy1=>(As [(y1,true)] (Zs ⟨⟨z0.1,z0.2.1,z0.2.2.1,z0.2.2.2.1,z0.2.2.2.2.1,z0.2.2.2.2.2.1⟩,⟨z0.2.2.2.2.2.2.2.1,z0.2.2.2.2.2.2.2.2.1,z0.2.2.2.2.2.2.2.2.2.1,z0.2.2.2.2.2.2.2.2.2.2.1⟩,z0.2.2.2.2.2.2.2.2.2.2.2⟩ a0) (default,⟨⟨z0.1,z0.2.1,z0.2.2.1,z0.2.2.2.1,z0.2.2.2.2.1,z0.2.2.2.2.2.1⟩,⟨z0.2.2.2.2.2.2.2.1,z0.2.2.2.2.2.2.2.2.1,z0.2.2.2.2.2.2.2.2.2.1,z0.2.2.2.2.2.2.2.2.2.2.1⟩,z0.2.2.2.2.2.2.2.2.2.2.2⟩)).bind λy3=>bif (y1&&y3.1)then (appI 9 z0.2.2.2.2.2.2.1 [cnt 0 n0]).bind λy6=>some (.next (y3.2.Ao.Am,y3.2.Ao.Ah,y3.2.Ao.Ae,y3.2.Ao.Ag,y3.2.Ao.Phase,y3.2.Ao.Aq,y6,y3.2.Au.Ai,y3.2.Au.Ae,y3.2.Au.An,y3.2.Au.Al,y3.2.acts)) else some (.next (y3.2.Ao.Am,y3.2.Ao.Ah,y3.2.Ao.Ae,y3.2.Ao.Ag,y3.2.Ao.Phase,y3.2.Ao.Aq,z0.2.2.2.2.2.2.1,y3.2.Au.Ai,y3.2.Au.Ae,y3.2.Au.An,y3.2.Au.Al,y3.2.acts))
def Ve(n1:Nat)(a1:Int)(z1:Sg9):Option (Ctl (Sg9) Unit):=
 (Qr ⟨⟨z1.1,z1.2.1,z1.2.2.1,z1.2.2.2.1,z1.2.2.2.2.1,z1.2.2.2.2.2.1⟩,⟨z1.2.2.2.2.2.2.1,z1.2.2.2.2.2.2.2.1,z1.2.2.2.2.2.2.2.2.1,z1.2.2.2.2.2.2.2.2.2.1⟩,z1.2.2.2.2.2.2.2.2.2.2⟩ a1).bind λy8=>some (.next (y8.Ao.Am,y8.Ao.Ah,y8.Ao.Ae,y8.Ao.Ag,y8.Ao.Phase,y8.Ao.Aq,y8.Au.Ai,y8.Au.Ae,y8.Au.An,y8.Au.Al,y8.acts))
def Zv(x0:A2):Option A2:=
 andThen (foldI Aak x0.Ao.Ah 0 (x0.Ao.Am,x0.Ao.Ah,x0.Ao.Ae,x0.Ao.Ag,x0.Ao.Phase,x0.Ao.Aq,[],x0.Au.Ai,x0.Au.Ae,x0.Au.An,x0.Au.Al,x0.acts)) (λ_=>none) λz0=>andThen (foldI Ve z0.2.2.2.2.2.2.1 0 (z0.1,z0.2.1,z0.2.2.1,z0.2.2.2.1,z0.2.2.2.2.1,z0.2.2.2.2.2.1,z0.2.2.2.2.2.2.2.1,z0.2.2.2.2.2.2.2.2.1,z0.2.2.2.2.2.2.2.2.2.1,z0.2.2.2.2.2.2.2.2.2.2.1,z0.2.2.2.2.2.2.2.2.2.2.2)) (λ_=>none) λz1=>some ⟨⟨z1.1,z1.2.1,z1.2.2.1,z1.2.2.2.1,z1.2.2.2.2.1,z1.2.2.2.2.2.1⟩,⟨z1.2.2.2.2.2.2.1,z1.2.2.2.2.2.2.2.1,z1.2.2.2.2.2.2.2.2.1,z1.2.2.2.2.2.2.2.2.2.1⟩,z1.2.2.2.2.2.2.2.2.2.2⟩
def Af7(x0:Ab)(x1:Ad)(x2:Int):Option Bool:=
 (J3 x0 x1 x2).bind λy1=>some (decide ((y1.1.Ae.length:Int)>0))
def Zr(x0:Ak)(x1:A2):Option (Bool×A2):=
 (As [((x0.Kind==3),true)] (Af7 x1.Ao x1.Au x0.A) default).bind λy1=>some (((x0.Kind==3)&&(!y1)),x1)
def Aaj(n0:Nat)(a0:Ak)(z0:Alw):Option (Ctl (Alw) Unit):=
 (getI z0.2.2.2.2.2.2.2.1 (cnt 0 n0)).bind λy1=>(As [(y1,true)] (Zr a0 ⟨⟨z0.1,z0.2.1,z0.2.2.1,z0.2.2.2.1,z0.2.2.2.2.1,z0.2.2.2.2.2.1⟩,⟨z0.2.2.2.2.2.2.2.1,z0.2.2.2.2.2.2.2.2.1,z0.2.2.2.2.2.2.2.2.2.1,z0.2.2.2.2.2.2.2.2.2.2.1⟩,z0.2.2.2.2.2.2.2.2.2.2.2⟩) (default,⟨⟨z0.1,z0.2.1,z0.2.2.1,z0.2.2.2.1,z0.2.2.2.2.1,z0.2.2.2.2.2.1⟩,⟨z0.2.2.2.2.2.2.2.1,z0.2.2.2.2.2.2.2.2.1,z0.2.2.2.2.2.2.2.2.2.1,z0.2.2.2.2.2.2.2.2.2.2.1⟩,z0.2.2.2.2.2.2.2.2.2.2.2⟩)).bind λy3=>bif (y1&&y3.1)then (appI 9 z0.2.2.2.2.2.2.1 [cnt 0 n0]).bind λy6=>some (.next (y3.2.Ao.Am,y3.2.Ao.Ah,y3.2.Ao.Ae,y3.2.Ao.Ag,y3.2.Ao.Phase,y3.2.Ao.Aq,y6,y3.2.Au.Ai,y3.2.Au.Ae,y3.2.Au.An,y3.2.Au.Al,y3.2.acts)) else some (.next (y3.2.Ao.Am,y3.2.Ao.Ah,y3.2.Ao.Ae,y3.2.Ao.Ag,y3.2.Ao.Phase,y3.2.Ao.Aq,z0.2.2.2.2.2.2.1,y3.2.Au.Ai,y3.2.Au.Ae,y3.2.Au.An,y3.2.Au.Al,y3.2.acts))
def Arw(n1:Nat)(a1:Int)(z1:Sg9):Option (Ctl (Sg9) Unit):=
 (Qr ⟨⟨z1.1,z1.2.1,z1.2.2.1,z1.2.2.2.1,z1.2.2.2.2.1,z1.2.2.2.2.2.1⟩,⟨z1.2.2.2.2.2.2.1,z1.2.2.2.2.2.2.2.1,z1.2.2.2.2.2.2.2.2.1,z1.2.2.2.2.2.2.2.2.2.1⟩,z1.2.2.2.2.2.2.2.2.2.2⟩ a1).bind λy8=>some (.next (y8.Ao.Am,y8.Ao.Ah,y8.Ao.Ae,y8.Ao.Ag,y8.Ao.Phase,y8.Ao.Aq,y8.Au.Ai,y8.Au.Ae,y8.Au.An,y8.Au.Al,y8.acts))
def Zu(x0:A2):Option A2:=
 andThen (foldI Aaj x0.Ao.Ah 0 (x0.Ao.Am,x0.Ao.Ah,x0.Ao.Ae,x0.Ao.Ag,x0.Ao.Phase,x0.Ao.Aq,[],x0.Au.Ai,x0.Au.Ae,x0.Au.An,x0.Au.Al,x0.acts)) (λ_=>none) λz0=>andThen (foldI Arw z0.2.2.2.2.2.2.1 0 (z0.1,z0.2.1,z0.2.2.1,z0.2.2.2.1,z0.2.2.2.2.1,z0.2.2.2.2.2.1,z0.2.2.2.2.2.2.2.1,z0.2.2.2.2.2.2.2.2.1,z0.2.2.2.2.2.2.2.2.2.1,z0.2.2.2.2.2.2.2.2.2.2.1,z0.2.2.2.2.2.2.2.2.2.2.2)) (λ_=>none) λz1=>some ⟨⟨z1.1,z1.2.1,z1.2.2.1,z1.2.2.2.1,z1.2.2.2.2.1,z1.2.2.2.2.2.1⟩,⟨z1.2.2.2.2.2.2.1,z1.2.2.2.2.2.2.2.1,z1.2.2.2.2.2.2.2.2.1,z1.2.2.2.2.2.2.2.2.2.1⟩,z1.2.2.2.2.2.2.2.2.2.2⟩
def Z4(x0:A2):Option A2:=
 (Zv x0).bind λy1=>(Zu y1).bind λy3=>(F96 y3.Ao y3.Au).bind λy5=>some ⟨y3.Ao,y5.1,y3.acts⟩
def Qq(x0:Int)(x1:Int)(x2:Ab):Option Int:=
 (getI x2.Ag x0).bind λy1=>(getI x2.Ag x1).bind λy3=>some (Ir y1.B2 y3.B2)
def Xs(x1:Int)(z1:Int×(List Int))(y12:Int):Bool:=((decide (z1.1>x1))&&(decide (y12<0)))
def U3(x1:Int)(x3c0:Ab)(z1:Int×(List Int)):Option (Ctl (Int×(List Int)) Unit):=
 (As [(decide (z1.1>x1),true)] (getI z1.2 z1.1) default).bind λy8=>(As [(decide (z1.1>x1),true)] (getI z1.2 (w64 (z1.1-1))) default).bind λy10=>(As [(decide (z1.1>x1),true)] (Qq y8 y10 x3c0) default).bind λy12=>bif (Xs x1 z1 y12)then (getI z1.2 (w64 (z1.1-1))).bind λy15=>(getI z1.2 z1.1).bind λy17=>(setI z1.2 z1.1 y15).bind λy19=>(getI y19 (w64 (z1.1-1))).bind λy21=>(setI y19 (w64 (z1.1-1)) y17).bind λy23=>some (.next (w64 (z1.1-1),y23)) else some (.brk (z1.1,z1.2))
def zU(x1:Int)(x2:Int)(x3c0:Ab)(z0:Int×(List Int)):Option (Ctl (Int×(List Int)) Unit):=
 bif decide (z0.1<x2)then andThen (whileN (U3 x1 x3c0) 1152921504606846976 (z0.1,z0.2)) (λ_=>none) λz1=>some (.next (w64 (z0.1+1),z1.2)) else some (.brk (z0.1,z0.2))
def Zk(x0:List Int)(x1:Int)(x2:Int)(x3c0:Ab):Option ((List Int)×Ab):=
 andThen (whileN (zU x1 x2 x3c0) 1152921504606846976 (w64 (x1+1),x0)) (λ_=>none) λz0=>some (z0.2,x3c0)
def Aaa(x1:Int)(z0:Int×Int×(List Int)×Int×(List Ak)×(List B5)×(List A7)×Int×Int):Option (Ctl (Int×Int×(List Int)×Int×(List Ak)×(List B5)×(List A7)×Int×Int) Unit):=
 bif decide (z0.2.1<=x1)then (Zk z0.2.2.1 z0.1 z0.2.1 ⟨z0.2.2.2.1,z0.2.2.2.2.1,z0.2.2.2.2.2.1,z0.2.2.2.2.2.2.1,z0.2.2.2.2.2.2.2.1,z0.2.2.2.2.2.2.2.2⟩).bind λy2=>some (.next (z0.2.1,w64 (z0.2.1+20),y2.1,y2.2.Am,y2.2.Ah,y2.2.Ae,y2.2.Ag,y2.2.Phase,y2.2.Aq)) else some (.brk (z0.1,z0.2.1,z0.2.2.1,z0.2.2.2.1,z0.2.2.2.2.1,z0.2.2.2.2.2.1,z0.2.2.2.2.2.2.1,z0.2.2.2.2.2.2.2.1,z0.2.2.2.2.2.2.2.2))
def A4k(x1:Int)(z2:Unit):Option (Ctl Unit Unit):=
 bif decide (40<=x1)then none else some (.brk ())
def zZ(x1:Int)(z1:Unit):Option (Ctl Unit Unit):=
 bif decide (20<x1)then none else some (.brk ())
def Afd(x0:List Int)(x1:Int)(x2c0:Ab):Option ((List Int)×Ab):=
 andThen (whileN (Aaa x1) 1152921504606846976 (0,20,x0,x2c0.Am,x2c0.Ah,x2c0.Ae,x2c0.Ag,x2c0.Phase,x2c0.Aq)) (λ_=>none) λz0=>(Zk z0.2.2.1 z0.1 x1 ⟨z0.2.2.2.1,z0.2.2.2.2.1,z0.2.2.2.2.2.1,z0.2.2.2.2.2.2.1,z0.2.2.2.2.2.2.2.1,z0.2.2.2.2.2.2.2.2⟩).bind λy4=>andThen (whileN (zZ x1) 1152921504606846976 ()) (λ_=>none) λz1=>some (y4.1,y4.2)
def Zo(x0:List Int)(x1c0:Ab):Option ((List Int)×Ab):=
 (Afd x0 (x0.length:Int) x1c0).bind λy1=>some (y1.1,y1.2)
def Ap4(x0:Ab)(z0:Int×(List Int)):Bool:=decide (z0.1<(x0.Ag.length:Int))
def Ai3(x0:Ab)(z0:Int×(List Int)):Option (Ctl (Int×(List Int)) Unit):=
 bif (Ap4 x0 z0)then (appI 9 z0.2 [z0.1]).bind λy5=>some (.next (w64 (z0.1+1),y5)) else some (.brk (z0.1,z0.2))
def vB(x0:Ab):Option ((List Int)):=
 (Af9 x0).bind λy1=>bif (y1 != 0)then some [] else andThen (whileN (Ai3 x0) 1152921504606846976 (0,[])) (λ_=>none) λz0=>(Zo z0.2 x0).bind λy7=>some y7.1
def Va(x0:Int)(x1:Ap):Option Bool:=
 (Vg x1.Ag x0).bind λy1=>some (!y1)
def Vi(x1c0:Ap)(n0:Nat)(a0:Int)(z0:Unit):Option (Ctl Unit (Int×Ap)):=
 (Va a0 x1c0).bind λy1=>bif y1 then some (.ret (cnt 0 n0,x1c0)) else some (.next ())
def Afr(x0:List Int)(x1c0:Ap):Option (Int×Ap):=
 andThen (foldI (Vi x1c0) x0 0 ()) some λz0=>some ((-1),x1c0)
def Adx(z0:Int×Int×(List Int)):Bool:=decide (z0.2.1<(z0.2.2.length:Int))
def Vb(y1:Int×Ap)(z0:Int×Int×(List Int)):Option (Ctl (Int×Int×(List Int)) Unit):=
 bif (Adx z0)then (getI z0.2.2 z0.2.1).bind λy5=>(Va y5 y1.2).bind λy7=>bif !y7 then (getI z0.2.2 z0.1).bind λy10=>(setI z0.2.2 z0.1 y5).bind λy12=>some (.next (w64 (z0.1+1),w64 (z0.2.1+1),y12)) else some (.next (z0.1,w64 (z0.2.1+1),z0.2.2)) else some (.brk (z0.1,z0.2.1,z0.2.2))
def Vd(x0:List Int)(x1c0:Ap):Option ((List Int)×Ap):=
 (Afr x0 x1c0).bind λy1=>bif (y1.1==(-1))then some (x0,y1.2) else andThen (whileN (Vb y1) 1152921504606846976 (y1.1,w64 (y1.1+1),x0)) (λ_=>none) λz0=>(bndI z0.2.2.length z0.1 (z0.2.2.length:Int)).bind λu15=>(bndI (Ho z0.2.2 (Int.toNat z0.1) ((Int.toNat (z0.2.2.length:Int))-(Int.toNat z0.1)) 0).length 0 z0.1).bind λu17=>some (((Ho z0.2.2 (Int.toNat z0.1) ((Int.toNat (z0.2.2.length:Int))-(Int.toNat z0.1)) 0).take ((Int.toNat z0.1)-0)),y1.2)
def uW(x1:Ad)(y1:Ap×Bool)(n0:Nat)(a0:Int)(z0:Int):Option (Ctl Int Unit):=
 bif decide ((y1.1.Ae.length:Int)>0)then (getI x1.An a0).bind λy4=>some (.next (w64 (z0+y4))) else some (.next z0)
def Afc(x0:Ab)(x1:Ad)(x2:Int):Option Int:=
 (J3 x0 x1 x2).bind λy1=>andThen (foldI (uW x1 y1) y1.1.Ag 0 0) (λ_=>none) λz0=>some z0
def Aiu(x0:Ab)(n0:Nat)(a0:Int)(z0:Int):Option (Ctl Int Unit):=
 (getI x0.Ae a0).bind λy3=>some (.next (w64 (z0+y3.Rating)))
def Afb(x0:Ab)(x1:Ad)(x2:Int):Option Int:=
 (J3 x0 x1 x2).bind λy1=>andThen (foldI (Aiu x0) y1.1.Ae 0 0) (λ_=>none) λz0=>some z0
def U5(x0:A2)(x1:Int):Option Int:=
 (Afc x0.Ao x0.Au x1).bind λy1=>(Afb x0.Ao x0.Au x1).bind λy3=>some (max 0 (w64 (y1-y3)))
def Ar5(n0:Nat)(a0:Int)(z0:(List Ap)):Option (Ctl ((List Ap)) Unit):=
 (getI z0 a0).bind λy8=>(appI 9 y8.Am [cnt 0 n0]).bind λy10=>(setI z0 a0 ⟨y10,y8.Ae,y8.Ag⟩).bind λy12=>some (.next y12)
def Auj(x0:Ab)(z1:Int×(List Ap)):Bool:=decide (z1.1<(x0.Ae.length:Int))
def Ar4(x0:Ab)(x1:Ad)(y4:(List Int))(z1:Int×(List Ap)):Option (Ctl (Int×(List Ap)) Unit):=
 bif (Auj x0 z1)then (vF x0 x1 z1.1).bind λy15=>bif y15.2 then (getI y4 y15.1).bind λy18=>(getI z1.2 y18).bind λy20=>(appI 9 y20.Ae [z1.1]).bind λy22=>(setI z1.2 y18 ⟨y20.Am,y22,y20.Ag⟩).bind λy24=>some (.next (w64 (z1.1+1),y24)) else some (.next (w64 (z1.1+1),z1.2)) else some (.brk (z1.1,z1.2))
def Aui(x0:Ab)(z2:Int×(List Ap)):Bool:=decide (z2.1<(x0.Ag.length:Int))
def Ar3(x0:Ab)(x1:Ad)(y4:(List Int))(z2:Int×(List Ap)):Option (Ctl (Int×(List Ap)) Unit):=
 bif (Aui x0 z2)then (vE x0 x1 z2.1).bind λy27=>bif y27.2 then (getI y4 y27.1).bind λy30=>(getI z2.2 y30).bind λy32=>(appI 9 y32.Ag [z2.1]).bind λy34=>(setI z2.2 y30 ⟨y32.Am,y32.Ae,y34⟩).bind λy36=>some (.next (w64 (z2.1+1),y36)) else some (.next (w64 (z2.1+1),z2.2)) else some (.brk (z2.1,z2.2))
def Ar6(x0:Ab)(x1:Ad):Option ((List Ap)):=
 (Jb x0 x1).bind λy1=>bif (y1 != 0)then some [] else (Af3 x0 x1).bind λy4=>(mkI 73 x0.Am ⟨[],[],[]⟩).bind λy6=>andThen (foldI Ar5 y4 0 y6) (λ_=>none) λz0=>andThen (whileN (Ar4 x0 x1 y4) 1152921504606846976 (0,z0)) (λ_=>none) λz1=>andThen (whileN (Ar3 x0 x1 y4) 1152921504606846976 (0,z1.2)) (λ_=>none) λz2=>(Qw z2.2).bind λy38=>some y38
def Xv(y1:Int)(y3:Int)(y5:A7):Bool:=decide ((min y1 (w64 (y3-y5.Least)))>0)
def Aah(x0:A2)(x2:Int)(n0:Nat)(a0:Int)(z0:(List Int)×(List Aw)):Option (Ctl ((List Int)×(List Aw)) Unit):=
 (U5 ⟨x0.Ao,⟨x0.Au.Ai,x0.Au.Ae,z0.1,x0.Au.Al⟩,z0.2⟩ x2).bind λy1=>(getI z0.1 a0).bind λy3=>(getI x0.Ao.Ag a0).bind λy5=>bif (Xv y1 y3 y5)then (setI z0.1 a0 (w64 (y3-(min y1 (w64 (y3-y5.Least)))))).bind λy8=>(getI y8 a0).bind λy10=>(appI 25 z0.2 [⟨5,a0,y10⟩]).bind λy12=>some (.next (y8,y12)) else some (.next (z0.1,z0.2))
def U_(x0:A2)(x1:List Int)(x2:Int):Option A2:=
 andThen (foldI (Aah x0 x2) x1 0 (x0.Au.An,x0.acts)) (λ_=>none) λz0=>some ⟨x0.Ao,⟨x0.Au.Ai,x0.Au.Ae,z0.1,x0.Au.Al⟩,z0.2⟩
def Afg(x0:Ak)(x1:Int):Bool:=
 ((x0.Kind==3)&&(x0.B==x1))
def Aai(x0:A2)(x1c0:Int)(n0:Nat)(a0:Ak)(z0:(List Int)):Option (Ctl ((List Int)) Unit):=
 (getI x0.Au.Ai (cnt 0 n0)).bind λy1=>bif (y1&&(Afg a0 x1c0))then (appI 9 z0 [cnt 0 n0]).bind λy4=>some (.next y4) else some (.next z0)
def Arv(n1:Nat)(a1:Int)(z1:Sg9):Option (Ctl (Sg9) Unit):=
 (Qr ⟨⟨z1.1,z1.2.1,z1.2.2.1,z1.2.2.2.1,z1.2.2.2.2.1,z1.2.2.2.2.2.1⟩,⟨z1.2.2.2.2.2.2.1,z1.2.2.2.2.2.2.2.1,z1.2.2.2.2.2.2.2.2.1,z1.2.2.2.2.2.2.2.2.2.1⟩,z1.2.2.2.2.2.2.2.2.2.2⟩ a1).bind λy6=>some (.next (y6.Ao.Am,y6.Ao.Ah,y6.Ao.Ae,y6.Ao.Ag,y6.Ao.Phase,y6.Ao.Aq,y6.Au.Ai,y6.Au.Ae,y6.Au.An,y6.Au.Al,y6.acts))
def Zt(x0:A2)(x1c0:Int):Option (A2×Int):=
 andThen (foldI (Aai x0 x1c0) x0.Ao.Ah 0 []) (λ_=>none) λz0=>andThen (foldI Arv z0 0 (x0.Ao.Am,x0.Ao.Ah,x0.Ao.Ae,x0.Ao.Ag,x0.Ao.Phase,x0.Ao.Aq,x0.Au.Ai,x0.Au.Ae,x0.Au.An,x0.Au.Al,x0.acts)) (λ_=>none) λz1=>some (⟨⟨z1.1,z1.2.1,z1.2.2.1,z1.2.2.2.1,z1.2.2.2.2.1,z1.2.2.2.2.2.1⟩,⟨z1.2.2.2.2.2.2.1,z1.2.2.2.2.2.2.2.1,z1.2.2.2.2.2.2.2.2.1,z1.2.2.2.2.2.2.2.2.2.1⟩,z1.2.2.2.2.2.2.2.2.2.2⟩,x1c0)
def Aag(x2:Int)(n0:Nat)(a0:Int)(z0:Sg9):Option (Ctl (Sg9) Unit):=
 (getI z0.2.2.2.2.2.2.2.2.1 a0).bind λy1=>(As [(decide (y1>0),true)] (U5 ⟨⟨z0.1,z0.2.1,z0.2.2.1,z0.2.2.2.1,z0.2.2.2.2.1,z0.2.2.2.2.2.1⟩,⟨z0.2.2.2.2.2.2.1,z0.2.2.2.2.2.2.2.1,z0.2.2.2.2.2.2.2.2.1,z0.2.2.2.2.2.2.2.2.2.1⟩,z0.2.2.2.2.2.2.2.2.2.2⟩ x2) default).bind λy3=>bif ((decide (y1>0))&&(decide (y3>0)))then (Zt ⟨⟨z0.1,z0.2.1,z0.2.2.1,z0.2.2.2.1,z0.2.2.2.2.1,z0.2.2.2.2.2.1⟩,⟨z0.2.2.2.2.2.2.1,z0.2.2.2.2.2.2.2.1,z0.2.2.2.2.2.2.2.2.1,z0.2.2.2.2.2.2.2.2.2.1⟩,z0.2.2.2.2.2.2.2.2.2.2⟩ a0).bind λy6=>some (.next (y6.1.Ao.Am,y6.1.Ao.Ah,y6.1.Ao.Ae,y6.1.Ao.Ag,y6.1.Ao.Phase,y6.1.Ao.Aq,y6.1.Au.Ai,y6.1.Au.Ae,y6.1.Au.An,y6.1.Au.Al,y6.1.acts)) else some (.next (z0.1,z0.2.1,z0.2.2.1,z0.2.2.2.1,z0.2.2.2.2.1,z0.2.2.2.2.2.1,z0.2.2.2.2.2.2.1,z0.2.2.2.2.2.2.2.1,z0.2.2.2.2.2.2.2.2.1,z0.2.2.2.2.2.2.2.2.2.1,z0.2.2.2.2.2.2.2.2.2.2))
def U9(x0:A2)(x1:List Int)(x2:Int):Option A2:=
 andThen (foldI (Aag x2) x1 0 (x0.Ao.Am,x0.Ao.Ah,x0.Ao.Ae,x0.Ao.Ag,x0.Ao.Phase,x0.Ao.Aq,x0.Au.Ai,x0.Au.Ae,x0.Au.An,x0.Au.Al,x0.acts)) (λ_=>none) λz0=>some ⟨⟨z0.1,z0.2.1,z0.2.2.1,z0.2.2.2.1,z0.2.2.2.2.1,z0.2.2.2.2.2.1⟩,⟨z0.2.2.2.2.2.2.1,z0.2.2.2.2.2.2.2.1,z0.2.2.2.2.2.2.2.2.1,z0.2.2.2.2.2.2.2.2.2.1⟩,z0.2.2.2.2.2.2.2.2.2.2⟩
def Aao(y1:(List Int))(n0:Nat)(a0:Ap)(z0:Sg9):Option (Ctl (Sg9) Unit):=
 (Pp y1).bind λy5=>(Vd y5 a0).bind λy7=>bif decide ((y7.2.Ae.length:Int)>0)then (getI y7.2.Am 0).bind λy10=>(U_ ⟨⟨z0.1,z0.2.1,z0.2.2.1,z0.2.2.2.1,z0.2.2.2.2.1,z0.2.2.2.2.2.1⟩,⟨z0.2.2.2.2.2.2.1,z0.2.2.2.2.2.2.2.1,z0.2.2.2.2.2.2.2.2.1,z0.2.2.2.2.2.2.2.2.2.1⟩,z0.2.2.2.2.2.2.2.2.2.2⟩ y7.1 y10).bind λy12=>(getI y7.2.Am 0).bind λy14=>(U9 y12 y7.1 y14).bind λy16=>some (.next (y16.Ao.Am,y16.Ao.Ah,y16.Ao.Ae,y16.Ao.Ag,y16.Ao.Phase,y16.Ao.Aq,y16.Au.Ai,y16.Au.Ae,y16.Au.An,y16.Au.Al,y16.acts)) else some (.next (z0.1,z0.2.1,z0.2.2.1,z0.2.2.2.1,z0.2.2.2.2.1,z0.2.2.2.2.2.1,z0.2.2.2.2.2.2.1,z0.2.2.2.2.2.2.2.1,z0.2.2.2.2.2.2.2.2.1,z0.2.2.2.2.2.2.2.2.2.1,z0.2.2.2.2.2.2.2.2.2.2))
def Vj(x0:A2):Option A2:=
 (vB x0.Ao).bind λy1=>(Ar6 x0.Ao x0.Au).bind λy3=>andThen (foldI (Aao y1) y3 0 (x0.Ao.Am,x0.Ao.Ah,x0.Ao.Ae,x0.Ao.Ag,x0.Ao.Phase,x0.Ao.Aq,x0.Au.Ai,x0.Au.Ae,x0.Au.An,x0.Au.Al,x0.acts)) (λ_=>none) λz0=>some ⟨⟨z0.1,z0.2.1,z0.2.2.1,z0.2.2.2.1,z0.2.2.2.2.1,z0.2.2.2.2.2.1⟩,⟨z0.2.2.2.2.2.2.1,z0.2.2.2.2.2.2.2.1,z0.2.2.2.2.2.2.2.2.1,z0.2.2.2.2.2.2.2.2.2.1⟩,z0.2.2.2.2.2.2.2.2.2.2⟩
def Afu(x0:A2):Option A2:=
 (Z4 x0).bind λy1=>(Vj y1).bind λy3=>some y3
def Afv(x0:Ab)(x1:Ad):Option (Ad×(List Aw)×Int):=
 (Jb x0 x1).bind λy1=>bif (y1 != 0)then some (⟨[],[],[],[]⟩,[],y1) else (Mr x1).bind λy4=>(Afu ⟨x0,y4,[]⟩).bind λy6=>some (y6.Au,y6.acts,0)
def Am2(x0:Ab)(x1:Ad):Option (Ad×(List Aw)×Int):=
 (Afv x0 x1).bind λy1=>some (y1.1,y1.2.1,y1.2.2)
def Aav(x1:Aw)(y1:Ad×Int):Option (Ctl Int Unit):=
 bif (x1.Kind==7)then some (.next 1) else some (.next y1.2)
def Aaw(y1:Ad×Int)(n1:Nat)(a1:Aw)(z1:Int×Int×(List Ak)×(List B5)×(List A7)×Int×Int×(List Bool)×(List Aj)×(List Int)×(List Aa)×(List A_)×(List Bv)×(List Bool)×(List Bv)×(List Ad)×(List Int)):Option (Ctl (Int×Int×(List Ak)×(List B5)×(List A7)×Int×Int×(List Bool)×(List Aj)×(List Int)×(List Aa)×(List A_)×(List Bv)×(List Bool)×(List Bv)×(List Ad)×(List Int)) Unit):=
 (Vl ⟨⟨z1.1,⟨z1.2.2.2.2.2.2.2.1,z1.2.2.2.2.2.2.2.2.1,z1.2.2.2.2.2.2.2.2.2.1,z1.2.2.2.2.2.2.2.2.2.2.1⟩,z1.2.2.2.2.2.2.2.2.2.2.2.1,z1.2.2.2.2.2.2.2.2.2.2.2.2.1⟩,⟨z1.2.1,z1.2.2.1,z1.2.2.2.1,z1.2.2.2.2.1,z1.2.2.2.2.2.1,z1.2.2.2.2.2.2.1⟩,z1.2.2.2.2.2.2.2.2.2.2.2.2.2.2.1,z1.2.2.2.2.2.2.2.2.2.2.2.2.2.2.2.1⟩ a1 0).bind λy11=>bif (a1.Kind==2)then (getI z1.2.2.2.2.2.2.2.2.2.2.2.2.2.1 a1.Unit).bind λy14=>(setI z1.2.2.2.2.2.2.2.2.2.2.2.2.2.1 a1.Unit false).bind λy16=>(Od y11 ⟨y16,y1.1.Ae,z1.2.2.2.2.2.2.2.2.2.2.2.2.2.2.2.2,y1.1.Al⟩).bind λy18=>some (.next (y18.Bi.Time,y18.Ao.Am,y18.Ao.Ah,y18.Ao.Ae,y18.Ao.Ag,y18.Ao.Phase,y18.Ao.Aq,y18.Bi.Power.Ai,y18.Bi.Power.Ae,y18.Bi.Power.An,y18.Bi.Power.Al,y18.Bi.Ba,y18.Bi.Bh,y16,y18.events,y18.states,z1.2.2.2.2.2.2.2.2.2.2.2.2.2.2.2.2)) else (getI z1.2.2.2.2.2.2.2.2.2.2.2.2.2.2.2.2 a1.Unit).bind λy20=>(setI z1.2.2.2.2.2.2.2.2.2.2.2.2.2.2.2.2 a1.Unit a1.Value).bind λy22=>(Od y11 ⟨z1.2.2.2.2.2.2.2.2.2.2.2.2.2.1,y1.1.Ae,y22,y1.1.Al⟩).bind λy24=>some (.next (y24.Bi.Time,y24.Ao.Am,y24.Ao.Ah,y24.Ao.Ae,y24.Ao.Ag,y24.Ao.Phase,y24.Ao.Aq,y24.Bi.Power.Ai,y24.Bi.Power.Ae,y24.Bi.Power.An,y24.Bi.Power.Al,y24.Bi.Ba,y24.Bi.Bh,z1.2.2.2.2.2.2.2.2.2.2.2.2.2.1,y24.events,y24.states,y22))
def jP(x0:Cm)(x1:Aw):Option Cm:=
 (vM x0.Ao x0.Bi.Power x0.Bi.Time x1).bind λy1=>andThen (Aav x1 y1) (λ_=>none) λz0=>(Vl x0 x1 z0).bind λy4=>bif (z0 != 0)then some y4 else (Od y4 y1.1).bind λy7=>(Am2 y7.Ao y1.1).bind λy9=>andThen (foldI (Aaw y1) y9.2.1 0 (y7.Bi.Time,y7.Ao.Am,y7.Ao.Ah,y7.Ao.Ae,y7.Ao.Ag,y7.Ao.Phase,y7.Ao.Aq,y7.Bi.Power.Ai,y7.Bi.Power.Ae,y7.Bi.Power.An,y7.Bi.Power.Al,y7.Bi.Ba,y7.Bi.Bh,y1.1.Ai,y7.events,y7.states,y1.1.An)) (λ_=>none) λz1=>(F99 ⟨z1.2.2.2.2.2.2.2.2.2.2.2.2.2.1,y1.1.Ae,z1.2.2.2.2.2.2.2.2.2.2.2.2.2.2.2.2,y1.1.Al⟩ y9.1).bind λy26=>bif !y26 then (Od ⟨⟨z1.1,⟨z1.2.2.2.2.2.2.2.1,z1.2.2.2.2.2.2.2.2.1,z1.2.2.2.2.2.2.2.2.2.1,z1.2.2.2.2.2.2.2.2.2.2.1⟩,z1.2.2.2.2.2.2.2.2.2.2.2.1,z1.2.2.2.2.2.2.2.2.2.2.2.2.1⟩,⟨z1.2.1,z1.2.2.1,z1.2.2.2.1,z1.2.2.2.2.1,z1.2.2.2.2.2.1,z1.2.2.2.2.2.2.1⟩,z1.2.2.2.2.2.2.2.2.2.2.2.2.2.2.1,z1.2.2.2.2.2.2.2.2.2.2.2.2.2.2.2.1⟩ y9.1).bind λy29=>some ⟨⟨y29.Bi.Time,y9.1,y29.Bi.Ba,y29.Bi.Bh⟩,y29.Ao,y29.events,y29.states⟩ else some ⟨⟨z1.1,y9.1,z1.2.2.2.2.2.2.2.2.2.2.2.1,z1.2.2.2.2.2.2.2.2.2.2.2.2.1⟩,⟨z1.2.1,z1.2.2.1,z1.2.2.2.1,z1.2.2.2.2.1,z1.2.2.2.2.2.1,z1.2.2.2.2.2.2.1⟩,z1.2.2.2.2.2.2.2.2.2.2.2.2.2.2.1,z1.2.2.2.2.2.2.2.2.2.2.2.2.2.2.2.1⟩
def F54(x0:Ab)(x1:Ar)(x2:Aw):Option (Ar×(List Ad)×Int):=
 (Jb x0 x1.Power).bind λy1=>bif (y1 != 0)then some (⟨0,⟨[],[],[],[]⟩,[],[]⟩,[],y1) else (Anb x0 x1).bind λy4=>(jP y4 x2).bind λy6=>(appI 41 y6.Bi.Bh y6.events).bind λy8=>some (⟨y6.Bi.Time,y6.Bi.Power,y6.Bi.Ba,y8⟩,y6.states,0)
def Dp(x0:Int)(x1:Int)(x2:Int):Bool:=
 ((decide (x0>=x1))&&(decide (x0<=x2)))
def U8(x0:Int):Bool:=
 ((decide (x0>=0))&&(decide (x0<3600)))
def Avm(x0:Ce):Int:=
 E4 (w64 (x0.To-x0.From))
def X4(x0:Ce):Bool:=
 (((U8 x0.From)&&(U8 x0.To))&&(decide ((Avm x0)<1800)))
def Amq(x0:Ce):Bool:=
 !(X4 x0)
def Aaf(n0:Nat)(a0:Ce)(z0:Unit):Option (Ctl Unit Int):=
 bif Amq a0 then some (.ret (cnt 0 n0)) else some (.next ())
def Afn(x0:List Ce):Option Int:=
 andThen (foldI Aaf x0 0 ()) some λz0=>some (-1)
def Z3(x0:List Ce):Option Bool:=
 (Afn x0).bind λy1=>some (decide (y1>=0))
def Ss(x0:Ay):Option Bool:=
 (As [(((((((Dp x0.Kind 1 3)&&(Dp x0.Station 0 1))&&(Dp x0.Max 0 5000))&&(Dp x0.Rate 0 5000))&&(Dp x0.Cost 1 100))&&(decide ((x0.Cy.length:Int)<=4))),true)] (Z3 x0.Cy) default).bind λy1=>some (((((((Dp x0.Kind 1 3)&&(Dp x0.Station 0 1))&&(Dp x0.Max 0 5000))&&(Dp x0.Rate 0 5000))&&(Dp x0.Cost 1 100))&&(decide ((x0.Cy.length:Int)<=4)))&&(!y1))
def Avr(x0:Ay):Option Bool:=
 (Ss x0).bind λy1=>some (!y1)
def Aan(n0:Nat)(a0:Ay)(z0:Unit):Option (Ctl Unit Int):=
 (Avr a0).bind λy1=>bif y1 then some (.ret (cnt 0 n0)) else some (.next ())
def Afs(x0:List Ay):Option Int:=
 andThen (foldI Aan x0 0 ()) some λz0=>some (-1)
def Z7(x0:List Ay):Option Bool:=
 (Afs x0).bind λy1=>some (decide (y1>=0))
def Aea(x0:B3):Bool:=(((decide ((min x0.Bow x0.Stern)<0)) || (decide ((max x0.Bow x0.Stern)>200))) || ((x0.Bow==0)&&(x0.Stern==0)))
def Pq(x0:B3):Option Int:=
 bif decide ((x0.A4.length:Int)>8)then some 2 else bif (Aea x0)then some 1 else (Z7 x0.A4).bind λy3=>bif y3 then some 14 else some 0
def Agh(x0:A7)(x1:Int):Bool:=
 (x0.Thruster==x1)
def Vz(x1c0:Int)(n0:Nat)(a0:A7)(z0:Unit):Option (Ctl Unit (Int×Int)):=
 bif Agh a0 x1c0 then some (.ret (cnt 0 n0,x1c0)) else some (.next ())
def jO(x0:List A7)(x1c0:Int):Option (Int×Int):=
 andThen (foldI (Vz x1c0) x0 0 ()) some λz0=>some ((-1),x1c0)
def Af5(rec116:Ab->Ad->Int->Option Bool)(x0:Int)(x1:Ab)(x2:Ad):Option Bool:=
 (rec116 x1 x2 x0).bind λy1=>some (!y1)
def Vh(x1c0:Ab)(x1c1:Ad)(rec116:Ab->Ad->Int->Option Bool)(n0:Nat)(a0:Int)(z0:Unit):Option (Ctl Unit (Int×Ab×Ad)):=
 (Af5 rec116 a0 x1c0 x1c1).bind λy1=>bif y1 then some (.ret (cnt 0 n0,x1c0,x1c1)) else some (.next ())
def Afq(rec116:Ab->Ad->Int->Option Bool)(x0:List Int)(x1c0:Ab)(x1c1:Ad):Option (Int×Ab×Ad):=
 andThen (foldI (Vh x1c0 x1c1 rec116) x0 0 ()) some λz0=>some ((-1),x1c0,x1c1)
def Z6(rec116:Ab->Ad->Int->Option Bool)(x0:List Int)(x1c0:Ab)(x1c1:Ad):Option (Bool×Ab×Ad):=
 (Afq rec116 x0 x1c0 x1c1).bind λy1=>some (decide (y1.1>=0),y1.2.1,y1.2.2)
def Qf(y1:Int×Bool)(y3:Bool)(y5:Bool)(y7:Int)(y9:A7):Bool:=((((!y1.2) || (!y3)) || y5) || (decide (y7<y9.Least)))
def jL(rec116:Ab->Ad->Int->Option Bool)(x0:Ab)(x1:Ad)(x2:Int):Option Bool:=
 (Af8 x0 x1 x2).bind λy1=>(As [(!y1.2,false)] (Af7 x0 x1 y1.1) default).bind λy3=>(As [(((!y1.2) || (!y3)),false)] (Mq x1 4 x2) default).bind λy5=>(As [((((!y1.2) || (!y3)) || y5),false)] (getI x1.An x2) default).bind λy7=>(As [((((!y1.2) || (!y3)) || y5),false)] (getI x0.Ag x2) default).bind λy9=>bif (Qf y1 y3 y5 y7 y9)then some false else (getI x0.Ag x2).bind λy12=>(Z6 rec116 y12.Needs x0 x1).bind λy14=>some (!y14.1)
def jJ:Nat->Ab->Ad->Int->Option Bool
 |0=>λ_ _ _=>none
 |n+1=>jL (jJ n)
def Avx(x0:Ab)(x1:Ad)(x2:Int):Option Bool:=jJ 1000 x0 x1 x2
def X3(x0:Bz):Bool:=
 ((decide ((max x0.X x0.Y)<=5000))&&(decide ((min x0.X x0.Y)>=(-5000))))
def U7(x0:Int)(x1:Int):Option Int:=
 (nzI x1).bind λu2=>(nzI x1).bind λu4=>bif decide ((Int.tmod x0 x1)<0)then some (w64 ((w64 (Int.tdiv x0 x1))-1)) else some (w64 (Int.tdiv x0 x1))
def Avl(x0:Int)(x1:Int):Option Int:=
 (U7 (w64 (0-x0)) x1).bind λy1=>some (w64 (0-y1))
def Xu(x0:Int)(x1:Int):Bool:=((((decide (x0<(-1000000000000000000))) || (decide (x0>1000000000000000000))) || (decide (x1<1))) || (decide (x1>1000000000)))
def Afl(x0:Int)(x1:Int):Option (Int×Int):=
 bif (Xu x0 x1)then some (0,1) else (Avl x0 x1).bind λy2=>some (y2,0)
def Amp(x0:Int)(x1:Int):Option (Int×Int):=
 (Afl x0 x1).bind λy1=>some (y1.1,y1.2)
def Am1(x0:Ay)(x1:Bz):Option (Int×Int):=
 (Ss x0).bind λy1=>bif ((!y1) || (!(X3 x1)))then some (0,1) else (Amp (w64 ((w64 ((w64 (x1.X*x1.X))+(w64 (x1.Y*x1.Y))))*x0.Cost)) 1000).bind λy4=>some (y4.1,y4.2)
def Aqi(x0:Int):Bool:=((decide (x0<0)) || (decide (x0>1000000000000000000)))
def Aqh(x0:Int)(z0:Int×Int):Bool:=decide ((w64 ((w64 (Int.tdiv (w64 ((w64 (z0.1+z0.2))+1)) 2))*(w64 (Int.tdiv (w64 ((w64 (z0.1+z0.2))+1)) 2))))<=x0)
def Ajo(x0:Int)(z0:Int×Int):Option (Ctl (Int×Int) Unit):=
 bif decide (z0.1<z0.2)then bif (Aqh x0 z0)then some (.next (w64 (Int.tdiv (w64 ((w64 (z0.1+z0.2))+1)) 2),z0.2)) else some (.next (z0.1,w64 ((w64 (Int.tdiv (w64 ((w64 (z0.1+z0.2))+1)) 2))-1))) else some (.brk (z0.1,z0.2))
def Am0(x0:Int):Option (Int×Int):=
 bif (Aqi x0)then some (0,1) else andThen (whileN (Ajo x0) 1152921504606846976 (0,1000000000)) (λ_=>none) λz0=>some (z0.1,0)
def Ana(x0:Ay)(x1:Int):Option Int:=
 (Am1 x0 ⟨x0.Max,0⟩).bind λy1=>bif ((y1.2 != 0) || (decide (x1<0)))then some 0 else bif decide (x1>=y1.1)then some x0.Max else (nzI x0.Cost).bind λu6=>(Am0 (w64 (Int.tdiv (w64 (1000*x1)) x0.Cost))).bind λy7=>some y7.1
def Arp(x1:Ab)(x2:Ad)(n0:Nat)(a0:Ay)(z0:(List Int)):Option (Ctl ((List Int)) Unit):=
 (jO x1.Ag (cnt 0 n0)).bind λy9=>(As [(decide (y9.1>=0),true)] (Avx x1 x2 y9.1) default).bind λy11=>bif ((decide (y9.1>=0))&&y11)then (getI x2.An y9.1).bind λy14=>(Ana a0 y14).bind λy16=>(getI z0 y9.2).bind λy18=>(setI z0 y9.2 y16).bind λy20=>some (.next y20) else some (.next z0)
def F55(x0:B3)(x1:Ab)(x2:Ad):Option ((List Int)×Int):=
 (Pq x0).bind λy1=>bif (y1 != 0)then some ([],y1) else (Jb x1 x2).bind λy4=>bif (y4 != 0)then some ([],y4) else (mkI 9 (x0.A4.length:Int) 0).bind λy7=>andThen (foldI (Arp x1 x2) x0.A4 0 y7) (λ_=>none) λz0=>some (z0,0)
def F56(x0:Ar):Option Ar:=
 (yC x0.Ba).bind λy1=>(yB x0.Bh).bind λy3=>(yA x0.Power.Ai).bind λy5=>(vZ x0.Power.Ae).bind λy7=>(Pp x0.Power.An).bind λy9=>(Sv x0.Power.Al).bind λy11=>some ⟨x0.Time,⟨y5,y7,y9,y11⟩,y1,y3⟩
def Alp(z0:(List Int))(a0:Int):Bool:=((decide (a0>=0))&&(decide (a0<(z0.length:Int))))
def Aro(n0:Nat)(a0:Int)(z0:(List Int)):Option (Ctl ((List Int)) Unit):=
 bif (Alp z0 a0)then (getI z0 a0).bind λy4=>(setI z0 a0 0).bind λy6=>some (.next y6) else some (.next z0)
def F57(x0:List Int)(x1:List Int):Option ((List Int)):=
 (Pp x0).bind λy1=>andThen (foldI Aro x1 0 y1) (λ_=>none) λz0=>some z0
def Ar7(z0:Sg0)(a0:Aa):Option (Ctl ((List Int)) Unit):=
 bif (a0.Kind==5)then (appI 9 z0.1 [a0.Number]).bind λy12=>some (.next y12) else some (.next z0.1)
def Ar8(x0:A9)(x1:Ar)(n0:Nat)(a0:Aa)(z0:Sg0):Option (Ctl (Sg0) (Ar×(List Int)×Int)):=
 andThen (Ar7 z0 a0) (λ_=>none) λz1=>(As [(decide (a0.Kind>4),false)] (F53 x1.Power.Al a0) default).bind λy14=>bif ((decide (a0.Kind>4)) || y14)then some (.next (z1,z0.2.1,z0.2.2.1,z0.2.2.2.1,z0.2.2.2.2.1,z0.2.2.2.2.2.1,z0.2.2.2.2.2.2.1,z0.2.2.2.2.2.2.2)) else (F54 x0.Board ⟨z0.2.1,⟨z0.2.2.1,z0.2.2.2.1,z0.2.2.2.2.1,z0.2.2.2.2.2.1⟩,z0.2.2.2.2.2.2.1,z0.2.2.2.2.2.2.2⟩ ⟨8,a0.Number,a0.Kind⟩).bind λy17=>bif (y17.2.2 != 0)then some (.ret (⟨0,⟨[],[],[],[]⟩,[],[]⟩,[],y17.2.2)) else some (.next (z1,y17.1.Time,y17.1.Power.Ai,y17.1.Power.Ae,y17.1.Power.An,y17.1.Power.Al,y17.1.Ba,y17.1.Bh))
def F14(x0:A9)(x1:Ar)(x2:List Aa)(x3:List Aa):Option (Ar×(List Int)×Int):=
 (F49 x0.Board x0.Table x1).bind λy1=>bif (y1 != 0)then some (⟨0,⟨[],[],[],[]⟩,[],[]⟩,[],y1) else (F50 x0.Design).bind λy4=>bif (y4 != 0)then some (⟨0,⟨[],[],[],[]⟩,[],[]⟩,[],y4) else (F52 [x2,x1.Power.Al,x3]).bind λy7=>(F51 x0.Design y7).bind λy9=>andThen (foldI (Ar8 x0 x1) y9 0 ([],x1.Time,x1.Power.Ai,x1.Power.Ae,x1.Power.An,x1.Power.Al,x1.Ba,x1.Bh)) some λz0=>(F55 x0.Ship x0.Board ⟨z0.2.2.1,z0.2.2.2.1,z0.2.2.2.2.1,z0.2.2.2.2.2.1⟩).bind λy20=>bif (y20.2 != 0)then some (⟨0,⟨[],[],[],[]⟩,[],[]⟩,[],y20.2) else (F56 ⟨z0.2.1,⟨z0.2.2.1,z0.2.2.2.1,z0.2.2.2.2.1,z0.2.2.2.2.2.1⟩,z0.2.2.2.2.2.2.1,z0.2.2.2.2.2.2.2⟩).bind λy23=>(F57 y20.1 z0.1).bind λy25=>some (y23,y25,0)
def Ad9(y3:Aa)(y5:Aa):Bool:=((y3.Kind==y5.Kind)&&((y3.Number==y5.Number)&&true))
def Aau(x0:List Aa)(z0:Int):Option (Ctl Int Unit):=
 bif decide (z0<(x0.length:Int))then (getI x0 z0).bind λy3=>(getI x0 (w64 (z0-1))).bind λy5=>bif (Ad9 y3 y5)then none else some (.next (w64 (z0+1))) else some (.brk z0)
def Qy(x0:List Aa):Option ((List Aa)):=
 bif decide ((x0.length:Int)<2)then some x0 else andThen (whileN (Aau x0) 1152921504606846976 1) (λ_=>none) λz0=>some x0
def F68(x0:List Aa)(x1:List Aa):Option (List Aa):=Abm Qy x0 x1
def F21(x0:A3)(x1:Ar)(x2:List Aa):Option ((List Aa)):=
 (F68 x2 x1.Power.Al).bind λy1=>(F51 x0 y1).bind λy3=>some y3
def A1t(x0:Int)(a0:Int):Bool:=((decide (a0<(w64 (0-x0)))) || (decide (a0>x0)))
def Aiw(x0:Int)(n0:Nat)(a0:Int)(z0:Unit):Option (Ctl Unit Bool):=
 bif (A1t x0 a0)then some (.ret false) else some (.next ())
def Avg(x0:Int)(x1:List Int):Option Bool:=
 andThen (foldI (Aiw x0) x1 0 ()) some λz0=>some true
def Avk(x0:Bd):Option Bool:=
 (Avg 1000000 [x0.Surge,x0.Sway,x0.Yaw]).bind λy1=>some y1
def X2(x0:Int):Int:=
 w64 (0-x0)
def Afj(x0:Bd):Bd:=
 ⟨X2 x0.Surge,X2 x0.Sway,X2 x0.Yaw⟩
def Afa(x0:Int)(x1:Int)(x2:Int):Bool:=
 ((decide (x0<x1)) || (decide (x0>x2)))
def Aam(x1c0:Int)(x1c1:Int)(n0:Nat)(a0:Int)(z0:Unit):Option (Ctl Unit (Int×Int×Int)):=
 bif Afa a0 x1c0 x1c1 then some (.ret (cnt 0 n0,x1c0,x1c1)) else some (.next ())
def Afp(x0:List Int)(x1c0:Int)(x1c1:Int):Option (Int×Int×Int):=
 andThen (foldI (Aam x1c0 x1c1) x0 0 ()) some λz0=>some ((-1),x1c0,x1c1)
def Af6(x0:List Int)(x1c0:Int)(x1c1:Int):Option (Bool×Int×Int):=
 (Afp x0 x1c0 x1c1).bind λy1=>some (decide (y1.1>=0),y1.2.1,y1.2.2)
def Pm(x0:List Int)(x1:Int)(x2:Int):Option Bool:=
 (Af6 x0 x1 x2).bind λy1=>some (!y1.1)
def Ave(x0:Int)(x1:Int):Option Int:=
 (U7 (w64 ((w64 (2*x0))+x1)) (w64 (2*x1))).bind λy1=>some y1
def Adw(x0:Int)(x1:Int):Bool:=((((decide (x0<(-1000000000000000000))) || (decide (x0>1000000000000000000))) || (decide (x1<1))) || (decide (x1>1000000000)))
def Afk(x0:Int)(x1:Int):Option (Int×Int):=
 bif (Adw x0 x1)then some (0,1) else (Ave x0 x1).bind λy2=>some (y2,0)
def Aff(x0:Int)(x1:Int):Option (Int×Int):=
 (Afk x0 x1).bind λy1=>some (y1.1,y1.2)
def Ami(x0:B3)(x1:Bd):Option (Ch×Int):=
 (Pq x0).bind λy1=>bif (y1 != 0)then (Pq x0).bind λy4=>some (⟨0,0,0⟩,y4) else (Pm [x1.Surge,x1.Sway] (-5000) 5000).bind λy6=>(As [(!y6,false)] (Pm [x1.Yaw] (-500000) 500000) default).bind λy8=>bif ((!y6) || (!y8))then some (⟨0,0,0⟩,1) else (Aff (w64 (x1.Yaw+(w64 (x1.Sway*x0.Stern)))) (w64 (x0.Bow+x0.Stern))).bind λy11=>(Pm [y11.1,w64 (x1.Sway-y11.1)] (-500000) 500000).bind λy13=>bif !y13 then some (⟨0,0,0⟩,1) else some (⟨x1.Surge,y11.1,w64 (x1.Sway-y11.1)⟩,0)
def Avp(x0:B3)(x1:Bd):Option (Ch×Int):=
 (Avk x1).bind λy1=>bif !y1 then some (⟨0,0,0⟩,1) else (Ami x0 (Afj x1)).bind λy4=>some (y4.1,y4.2)
def Al4(x0:List Ce):Option (List Ce):=appI 17 [] x0
def Al6(x0:Ay)(x1:Int):Option Ay:=
 (Al4 x0.Cy).bind λy1=>some ⟨x0.Kind,x0.Station,min x0.Max (max x1 0),x0.Rate,x0.Cost,y1⟩
def Adv(x0:B3)(x1:List Int)(x2:List Bz)(x3:List Int):Bool:=((((x1.length:Int) != (x0.A4.length:Int)) || ((decide ((x2.length:Int)>0))&&((x2.length:Int) != (x0.A4.length:Int)))) || ((x3.length:Int) != (x0.A4.length:Int)))
def Aac(x1:List Int)(n0:Nat)(a0:Ay)(z0:(List Ay)):Option (Ctl ((List Ay)) Unit):=
 (getI x1 (cnt 0 n0)).bind λy16=>(Al6 a0 y16).bind λy18=>(appI 65 z0 [y18]).bind λy20=>some (.next y20)
def Aab(n1:Nat)(a1:Bz)(z1:Unit):Option (Ctl Unit (By×Int)):=
 (Pm [a1.X,a1.Y] (-5000) 5000).bind λy22=>bif !y22 then some (.ret (⟨[],[]⟩,1)) else some (.next ())
def Zn(x0:B3)(x1:List Int)(x2:List Bz)(x3:List Int):Option (By×Int):=
 (Pq x0).bind λy1=>bif (y1 != 0)then (Pq x0).bind λy4=>some (⟨[],[]⟩,y4) else bif (Adv x0 x1 x2 x3)then some (⟨[],[]⟩,8) else (Pm x1 0 5000).bind λy7=>(As [(!y7,false)] (Pm x3 (-5000) 5000) default).bind λy9=>bif ((!y7) || (!y9))then some (⟨[],[]⟩,1) else andThen (foldI (Aac x1) x0.A4 0 []) (λ_=>none) λz0=>andThen (foldI Aab x2 0 ()) some λz1=>some (⟨z0,x2⟩,0)
def Amh(x0:B3)(x1:List Int)(x2:List Bz)(x3:Ch):Option (By×Int):=
 (mkI 9 (x0.A4.length:Int) 0).bind λy1=>(Zn x0 x1 x2 y1).bind λy3=>(As [((y3.2==0),true)] (Pm [x3.Surge,x3.Bow,x3.Stern] (-500000) 500000) default).bind λy5=>bif ((y3.2==0)&&(!y5))then some (y3.1,1) else some (y3.1,y3.2)
def Ae2(x0:Int)(x1:Int):Bool:=
 ((decide ((max x0 x1)<=1000000000))&&(decide ((min x0 x1)>=(-1000000000))))
def Ais(x0:Int):Option (Ctl (Int×Int) Unit):=
 bif decide ((E4 x0)>1800)then some (.next (w64 ((E4 x0)-1800),(-1))) else some (.next (E4 x0,1))
def uV(x0:Int):Option Int:=
 andThen (Ais x0) (λ_=>none) λz0=>(Aff (w64 (40000*(w64 (z0.1*(w64 (1800-z0.1)))))) (w64 (4050000-(w64 (z0.1*(w64 (1800-z0.1))))))).bind λy2=>some (w64 (z0.2*y2.1))
def Ae0(x0:Int):Option Int:=
 (uV (w64 ((E4 x0)+900))).bind λy1=>some y1
def Ae1(x0:Int)(x1:Int)(x2:Int):Option Int:=
 bif !(Ae2 x1 x2)then some 0 else (Ae0 x0).bind λy2=>(uV x0).bind λy4=>some (w64 ((w64 (y2*x2))-(w64 (y4*x1))))
def A1r(x0:Ce)(x1:Int)(x2:Int):Bool:=(((!(X4 x0)) || ((x1==0)&&(x2==0))) || (!(Ae2 x1 x2)))
def Al3(x0:Ce)(x1:Int)(x2:Int):Option Bool:=
 bif (A1r x0 x1 x2)then some false else (Ae1 x0.From x1 x2).bind λy2=>(As [(decide (y2>0),false)] (Ae0 x0.From) default).bind λy4=>(As [(decide (y2>0),false)] (uV x0.From) default).bind λy6=>(As [(decide (y2>=0),true)] (Ae1 x0.To x1 x2) default).bind λy8=>some (((decide (y2>=0))&&(decide (y8<=0)))&&((decide (y2>0)) || (decide ((w64 ((w64 (y4*x1))+(w64 (y6*x2))))>0))))
def Ae3(x0:Ce)(x1:Int)(x2:Int):Option Bool:=
 (Al3 x0 x1 x2).bind λy1=>some y1
def Aae(x1c0:Int)(x1c1:Int)(n0:Nat)(a0:Ce)(z0:Unit):Option (Ctl Unit (Int×Int×Int)):=
 (Ae3 a0 x1c0 x1c1).bind λy1=>bif y1 then some (.ret (cnt 0 n0,x1c0,x1c1)) else some (.next ())
def Afm(x0:List Ce)(x1c0:Int)(x1c1:Int):Option (Int×Int×Int):=
 andThen (foldI (Aae x1c0 x1c1) x0 0 ()) some λz0=>some ((-1),x1c0,x1c1)
def Z2(x0:List Ce)(x1c0:Int)(x1c1:Int):Option (Bool×Int×Int):=
 (Afm x0 x1c0 x1c1).bind λy1=>some (decide (y1.1>=0),y1.2.1,y1.2.2)
def Apy(x0:Ay)(x1:Int)(x2:Int):Bool:=(((((decide ((max x1 x2)>x0.Max)) || (decide ((min x1 x2)<(w64 (0-x0.Max))))) || (decide ((w64 ((w64 (x1*x1))+(w64 (x2*x2))))>(w64 (x0.Max*x0.Max))))) || ((x0.Kind==1)&&(x1 != 0))) || ((x0.Kind==2)&&(x2 != 0)))
def Ae7(x0:Ay)(x1:Int)(x2:Int):Option Bool:=
 bif (Apy x0 x1 x2)then some false else (Z2 x0.Cy x1 x2).bind λy2=>some (!y2.1)
def Qp(x0:Int)(x1:Ay):Option Bool:=
 (Ae7 x1 0 x0).bind λy1=>some y1
def zY(x0c0:Ay)(z0:Int):Option (Ctl Int Unit):=
 (Qp (w64 (z0-1)) x0c0).bind λy6=>bif y6 then some (.next (w64 (z0-1))) else some (.brk z0)
def zX(x0c0:Ay)(z1:Int):Option (Ctl Int Unit):=
 (Qp (w64 (z1+1)) x0c0).bind λy11=>bif y11 then some (.next (w64 (z1+1))) else some (.brk z1)
def Ae9(x0c0:Ay):Option (Int×Int×Ay):=
 (Qp 0 x0c0).bind λy1=>bif !y1 then some (0,0,x0c0) else andThen (whileN (zY x0c0) 1152921504606846976 0) (λ_=>none) λz0=>andThen (whileN (zX x0c0) 1152921504606846976 0) (λ_=>none) λz1=>some (z0,z1,x0c0)
def Amb(x0:Ay):Option (Int×Int):=
 (Ss x0).bind λy1=>bif !y1 then some (0,0) else (Ae9 x0).bind λy4=>some (y4.1,y4.2.1)
def uY(x0:Bz):Int:=
 x0.Y
def Apx(x0:Int)(x1:Int)(x2:Int)(x3:Int):Bool:=((((decide ((max (max (max x0 x1) x2) x3)>1000000000)) || (decide ((min (min x0 x1) x2)<(-1000000000)))) || (decide (x0>x1))) || (decide (x3<0)))
def Adu(x0:Int)(x1:Int)(x2:Int)(x3:Int):Bool:=decide ((max x0 (w64 (x2-x3)))<=(min x1 (w64 (x2+x3))))
def Mo(x0:Int)(x1:Int)(x2:Int)(x3:Int):Int×Int:=
 bif (Apx x0 x1 x2 x3)then (x0,x1) else bif (Adu x0 x1 x2 x3)then (max x0 (w64 (x2-x3)),min x1 (w64 (x2+x3))) else bif decide (x2<x0)then (x0,x0) else (x1,x1)
def Zm(x0:By)(x1:Int)(x2:Int)(x3:Int):Option Br:=
 (getI x0.thrusters x1).bind λy1=>bif decide ((x0.last.length:Int)>0)then (getI x0.last x1).bind λy4=>some ⟨(Mo x2 x3 (uY y4) y1.Rate).1,(Mo x2 x3 (uY y4) y1.Rate).2,y1.Cost⟩ else some ⟨x2,x3,y1.Cost⟩
def Ai0(x0:By)(x1:Int)(n0:Nat)(a0:Ay)(z0:(List Br)):Option (Ctl ((List Br)) Unit):=
 bif (a0.Station != x1)then (appI 25 z0 [⟨0,0,a0.Cost⟩]).bind λy2=>some (.next y2) else (Amb a0).bind λy4=>(Zm x0 (cnt 0 n0) y4.1 y4.2).bind λy6=>(appI 25 z0 [y6]).bind λy8=>some (.next y8)
def Afi(x0:By)(x1:Int):Option ((List Br)):=
 andThen (foldI (Ai0 x0 x1) x0.thrusters 0 []) (λ_=>none) λz0=>some z0
def Apz(a0:Br):Bool:=(((((decide (a0.Low<(-5000))) || (decide (a0.Low>a0.High))) || (decide (a0.High>5000))) || (decide (a0.Cost<1))) || (decide (a0.Cost>100)))
def Ait(n0:Nat)(a0:Br)(z0:Unit):Option (Ctl Unit Int):=
 bif (Apz a0)then some (.ret 1) else some (.next ())
def Al5(x0:List Br):Option Int:=
 bif decide ((x0.length:Int)>8)then some 2 else andThen (foldI Ait x0 0 ()) some λz0=>some 0
def Ayu(n0:Nat)(a0:Br)(z0:Int×Int):Option (Ctl (Int×Int) Unit):=
 some (.next (w64 (z0.1+a0.Low),w64 (z0.2+a0.High)))
def Amc(x0:List Br):Option (Int×Int×Int):=
 (Al5 x0).bind λy1=>bif (y1 != 0)then some (0,0,y1) else andThen (foldI Ayu x0 0 (0,0)) (λ_=>none) λz0=>some (z0.1,z0.2,0)
def J2(x0:Int)(x1:Int)(x2:Int):Int:=
 max x1 (min x0 x2)
def Xt(x0:Int)(x1:Int):Bool:=((((decide (x0<(-1000000000000000000))) || (decide (x0>1000000000000000000))) || (decide (x1<1))) || (decide (x1>1000000000)))
def Zq(x0:Int)(x1:Int):Option (Int×Int):=
 bif (Xt x0 x1)then some (0,1) else (U7 x0 x1).bind λy2=>some (y2,0)
def X1(x0:Int)(x1:Int):Option (Int×Int):=
 (Zq x0 x1).bind λy1=>some (y1.1,y1.2)
def Aiv(x1:Int)(n0:Nat)(a0:Br)(z0:Int×(List Int)):Option (Ctl (Int×(List Int)) Unit):=
 (X1 (w64 (x1+a0.Cost)) (w64 (2*a0.Cost))).bind λy1=>(appI 9 z0.2 [J2 y1.1 a0.Low a0.High]).bind λy3=>some (.next (w64 (z0.1+(J2 y1.1 a0.Low a0.High)),y3))
def Afe(x0:List Br)(x1:Int):Option ((List Int)×Int):=
 andThen (foldI (Aiv x1) x0 0 (0,[])) (λ_=>none) λz0=>some (z0.2,z0.1)
def Avf(x0:Br)(x1:Int):Int:=
 w64 (x0.Cost*(w64 ((w64 (2*x1))+1)))
def Ap3(x1:Int):Bool:=((decide (x1<(-500000))) || (decide (x1>500000)))
def Ai2(x0:List Br)(x1:Int)(y1:Int×Int×Int)(z0:Int×Int):Option (Ctl (Int×Int) Unit):=
 bif decide (z0.2<z0.1)then (X1 (w64 (z0.2+z0.1)) 2).bind λy6=>(Afe x0 y6.1).bind λy8=>bif decide (y8.2>=(J2 x1 y1.1 y1.2.1))then some (.next (y6.1,z0.2)) else some (.next (z0.1,w64 (y6.1+1))) else some (.brk (z0.1,z0.2))
def Ap2(x1:Int)(y1:Int×Int×Int)(z0:Int×Int)(z1:Int×(List Int))(a1:Br)(y13:Int)(y15:Int):Bool:=(((decide (z1.1<(J2 x1 y1.1 y1.2.1)))&&(decide (y13<a1.High)))&&((Avf a1 y15)==z0.2))
def Ai1(x1:Int)(y1:Int×Int×Int)(z0:Int×Int)(n1:Nat)(a1:Br)(z1:Int×(List Int)):Option (Ctl (Int×(List Int)) Unit):=
 (As [(decide (z1.1<(J2 x1 y1.1 y1.2.1)),true)] (getI z1.2 (cnt 0 n1)) default).bind λy13=>(As [(((decide (z1.1<(J2 x1 y1.1 y1.2.1)))&&(decide (y13<a1.High))),true)] (getI z1.2 (cnt 0 n1)) default).bind λy15=>bif (Ap2 x1 y1 z0 z1 a1 y13 y15)then (getI z1.2 (cnt 0 n1)).bind λy18=>(setI z1.2 (cnt 0 n1) (w64 (y18+1))).bind λy20=>some (.next (w64 (z1.1+1),y20)) else some (.next (z1.1,z1.2))
def vA(x0:List Br)(x1:Int):Option ((List Int)×Int×Int):=
 (Amc x0).bind λy1=>bif (y1.2.2 != 0)then some ([],0,y1.2.2) else bif (Ap3 x1)then some ([],0,1) else andThen (whileN (Ai2 x0 x1 y1) 1152921504606846976 (1000200,(-1000200))) (λ_=>none) λz0=>(Afe x0 (w64 (z0.2-1))).bind λy11=>andThen (foldI (Ai1 x1 y1 z0) x0 0 (y11.2,y11.1)) (λ_=>none) λz1=>some (z1.2,w64 (x1-(J2 x1 y1.1 y1.2.1)),0)
def Qo(x0:Int)(x1:Ay)(x2:Int):Option Bool:=
 (Ae7 x1 x0 x2).bind λy1=>some y1
def zW(x0c0:Ay)(x0c1:Int)(z0:Int):Option (Ctl Int Unit):=
 (Qo (w64 (z0-1)) x0c0 x0c1).bind λy6=>bif y6 then some (.next (w64 (z0-1))) else some (.brk z0)
def zV(x0c0:Ay)(x0c1:Int)(z1:Int):Option (Ctl Int Unit):=
 (Qo (w64 (z1+1)) x0c0 x0c1).bind λy11=>bif y11 then some (.next (w64 (z1+1))) else some (.brk z1)
def Ae8(x0c0:Ay)(x0c1:Int):Option (Int×Int×Ay×Int):=
 (Qo 0 x0c0 x0c1).bind λy1=>bif !y1 then some (0,0,x0c0,x0c1) else andThen (whileN (zW x0c0 x0c1) 1152921504606846976 0) (λ_=>none) λz0=>andThen (whileN (zV x0c0 x0c1) 1152921504606846976 0) (λ_=>none) λz1=>some (z0,z1,x0c0,x0c1)
def Ama(x0:Ay)(x1:Int):Option (Int×Int):=
 (Ss x0).bind λy1=>bif !y1 then some (0,0) else (Ae8 x0 x1).bind λy4=>some (y4.1,y4.2.1)
def uX(x0:Bz):Int:=
 x0.X
def Zl(x0:By)(x1:Int)(x2:Int)(x3:Int):Option Br:=
 (getI x0.thrusters x1).bind λy1=>bif decide ((x0.last.length:Int)>0)then (getI x0.last x1).bind λy4=>some ⟨(Mo x2 x3 (uX y4) y1.Rate).1,(Mo x2 x3 (uX y4) y1.Rate).2,y1.Cost⟩ else some ⟨x2,x3,y1.Cost⟩
def Aiz(x0:By)(x1:List Int)(n0:Nat)(a0:Ay)(z0:(List Br)):Option (Ctl ((List Br)) Unit):=
 (getI x1 (cnt 0 n0)).bind λy1=>(Ama a0 y1).bind λy3=>(Zl x0 (cnt 0 n0) y3.1 y3.2).bind λy5=>(appI 25 z0 [y5]).bind λy7=>some (.next y7)
def Amg(x0:By)(x1:List Int):Option ((List Br)):=
 andThen (foldI (Aiz x0 x1) x0.thrusters 0 []) (λ_=>none) λz0=>some z0
def Ap1(x0:B3)(x1:List Bz):Bool:=((x1.length:Int) != (x0.A4.length:Int))
def Aiy(x0:B3)(n0:Nat)(a0:Bz)(z0:Int×Int×Int):Option (Ctl (Int×Int×Int) (Ch×Int)):=
 bif !(X3 a0)then some (.ret (⟨0,0,0⟩,1)) else (getI x0.A4 (cnt 0 n0)).bind λy8=>bif (y8.Station==0)then some (.next (w64 (z0.1+a0.X),w64 (z0.2.1+a0.Y),z0.2.2)) else some (.next (w64 (z0.1+a0.X),z0.2.1,w64 (z0.2.2+a0.Y)))
def Amf(x0:B3)(x1:List Bz):Option (Ch×Int):=
 (Pq x0).bind λy1=>bif (y1 != 0)then (Pq x0).bind λy4=>some (⟨0,0,0⟩,y4) else bif (Ap1 x0 x1)then some (⟨0,0,0⟩,8) else andThen (foldI (Aiy x0) x1 0 (0,0,0)) some λz0=>some (⟨z0.1,z0.2.1,z0.2.2⟩,0)
def Avj(x0:Ch)(x1:Ch):Ch:=
 ⟨w64 (x0.Surge-x1.Surge),w64 (x0.Bow-x1.Bow),w64 (x0.Stern-x1.Stern)⟩
def Ai5(y6:(List Int)×Int×Int)(n0:Nat)(a0:Int)(z0:(List Int)):Option (Ctl ((List Int)) Unit):=
 (getI z0 (cnt 0 n0)).bind λy12=>(getI y6.1 (cnt 0 n0)).bind λy14=>(setI z0 (cnt 0 n0) (w64 (y12+y14))).bind λy16=>some (.next y16)
def Ai4(y20:(List Int)×Int×Int)(n1:Nat)(a1:Int)(z1:(List Bz)):Option (Ctl ((List Bz)) Unit):=
 (getI y20.1 (cnt 0 n1)).bind λy22=>(appI 17 z1 [⟨y22,a1⟩]).bind λy24=>some (.next y24)
def Amm(x0:B3)(x1:List Int)(x2:List Bz)(x3:Ch):Option (I5×Int):=
 (Amh x0 x1 x2 x3).bind λy1=>bif (y1.2 != 0)then some (⟨[],⟨0,0,0⟩,⟨0,0,0⟩⟩,y1.2) else (Afi y1.1 0).bind λy4=>(vA y4 x3.Bow).bind λy6=>(Afi y1.1 1).bind λy8=>(vA y8 x3.Stern).bind λy10=>andThen (foldI (Ai5 y6) y10.1 0 y10.1) (λ_=>none) λz0=>(Amg y1.1 z0).bind λy18=>(vA y18 x3.Surge).bind λy20=>andThen (foldI (Ai4 y20) z0 0 []) (λ_=>none) λz1=>(Amf x0 z1).bind λy26=>some (⟨z1,y26.1,(Avj x3 y26.1)⟩,0)
def Avq(x0:B3)(x1:List Int)(x2:Bd):Option (Ch×Int):=
 (Avp x0 x2).bind λy1=>bif (y1.2 != 0)then some (⟨0,0,0⟩,y1.2) else (Amm x0 x1 [] y1.1).bind λy4=>bif (y4.2 != 0)then some (⟨0,0,0⟩,y4.2) else some (y4.1.Missing,0)
def Am9(x0:B3)(x1:List Int)(x2:Bd):Option Bool:=
 (Avq x0 x1 x2).bind λy1=>some ((y1.2==0)&&((y1.1.Surge==0)&&((y1.1.Bow==0)&&((y1.1.Stern==0)&&true))))
def F69(x0:A9)(x1:Ar)(x2:List Aa)(x3:List Aa)(x4:Bd):Option Bool:=
 (F14 x0 x1 x2 x3).bind λy1=>(As [((y1.2.2==0),true)] (Am9 x0.Ship y1.2.1 x4) default).bind λy3=>some ((y1.2.2==0)&&y3)
def F26(x0:A9)(x1:Ar)(x2:List Aa)(x3:Bd):Option (List Bb×Int):=Sk F14 F21 F53 F69 x0 x1 x2 x3
def A4h(a0:Bb)(y2:Bb):Bool:=!(((a0.Part.Kind==y2.Part.Kind)&&((a0.Part.Number==y2.Part.Number)&&true))&&((a0.Holds==y2.Holds)&&true))
def A29(x1:List Bb)(n0:Nat)(a0:Bb)(z0:Unit):Option (Ctl Unit Unit):=
 (getI x1 (cnt 0 n0)).bind λy2=>bif (A4h a0 y2)then none else some (.next ())
def F37(x0:List Bb)(x1:List Bb):Option Bool:=
 bif ((x0.length:Int) != (x1.length:Int))then none else andThen (foldI (A29 x1) x0 0 ()) (λ_=>none) λz0=>some true
def F22(x0:A9)(x1:Ar)(x2:List Aa)(x3:Bd):Option Bool:=
 (F69 x0 x1 x2 [] x3).bind λy1=>some y1
def F71(x0:A9)(x1:Ar)(x2:List Aa)(x3:Bd):Option (Aa×Bool):=Acx F21 F53 F69 x0 x1 x2 x3
def F25(x0:A9)(x1:Ar)(x2:List Aa)(x3:Bd):Option Bool:=
 (F22 x0 x1 x2 x3).bind λy1=>bif !y1 then none else (F71 x0 x1 x2 x3).bind λy4=>some (!y4.2)
def F9:Option Bool:=
 (F42).bind λy1=>(F26 y1.1 y1.2 [] ⟨(-150),0,0⟩).bind λy3=>(As [((y3.2==0),true)] (getI y1.1.Design.Parts 0) default).bind λy5=>(As [((y3.2==0),true)] (getI y1.1.Design.Parts 1) default).bind λy7=>(As [((y3.2==0),true)] (getI y1.1.Design.Parts 2) default).bind λy9=>(As [((y3.2==0),true)] (F37 y3.1 [⟨y5,true⟩,⟨y7,true⟩,⟨y9,false⟩]) default).bind λy11=>(As [(((y3.2==0)&&y11),true)] (F22 y1.1 y1.2 [] ⟨(-150),0,0⟩) default).bind λy13=>(As [((((y3.2==0)&&y11)&&y13),true)] (F25 y1.1 y1.2 [] ⟨(-150),0,0⟩) default).bind λy15=>(As [(((((y3.2==0)&&y11)&&y13)&&(!y15)),true)] (F22 y1.1 y1.2 [] ⟨(-201),0,0⟩) default).bind λy17=>some (((((y3.2==0)&&y11)&&y13)&&(!y15))&&(!y17))
def F10(x0:List Int):Option Af:=
 (cutI x0 0 (min (x0.length:Int) 600)).bind λy2=>some ⟨y2,0⟩
def F94(x0:Int)(x1:Int):Option Int:=
 bif decide (x1<1)then some 0 else (nzI x1).bind λu3=>(nzI x1).bind λu5=>some (Int.tmod (w64 ((Int.tmod x0 x1)+x1)) x1)
def F44(x0:Af)(x1:Int):Option (Int×Af):=
 bif decide (x0.At>=(x0.L.length:Int))then some (0,x0) else (getI x0.L (w64 ((w64 (x0.At+1))-1))).bind λy2=>(F94 y2 x1).bind λy4=>some (y4,⟨x0.L,w64 (x0.At+1)⟩)
def F20(x0:Af)(x1:List Int):Option (Int×Af):=
 (F44 x0 (x1.length:Int)).bind λy1=>(getI x1 y1.1).bind λy3=>some (y3,y1.2)
def Ajb(n0:Nat)(a0:Int)(z0:(List Int)×Int×(List Int)):Option (Ctl ((List Int)×Int×(List Int)) Unit):=
 (F20 ⟨z0.1,z0.2.1⟩ [0,100,(-300),700,(-1000),1000]).bind λy3=>(getI z0.2.2 (cnt 0 n0)).bind λy5=>(setI z0.2.2 (cnt 0 n0) y3.1).bind λy7=>some (.next (y3.2.L,y3.2.At,y7))
def vH(x0:Af):Option ((List Int)×Af):=
 (mkI 9 12 0).bind λy1=>andThen (foldI Ajb y1 0 (x0.L,x0.At,y1)) (λ_=>none) λz0=>some (z0.2.2,⟨z0.1,z0.2.1⟩)
def vX(x0:Af):Option (Hi×Af):=
 (vH x0).bind λy1=>(vH y1.2).bind λy3=>(vH y3.2).bind λy5=>some (⟨y1.1,y3.1,y5.1⟩,y5.2)
def F82(x0:Af):Option (Lf×Af):=
 (vX x0).bind λy1=>(vX y1.2).bind λy3=>(vX y3.2).bind λy5=>(F20 y5.2 [1000,1,30,5000,1000000]).bind λy7=>(F20 y7.2 [100000,1,500,1073741824]).bind λy9=>(F20 y9.2 [0,1,w64 (Int.tdiv y7.1 10),y7.1]).bind λy11=>(F20 y11.2 [0,1,w64 (Int.tdiv y9.1 10),y9.1]).bind λy13=>some (⟨y1.1,y3.1,y5.1,y7.1,y9.1,min y11.1 y7.1,min y13.1 y9.1⟩,y13.2)
def F67(x0:Af)(x1:Int)(x2:Int):Option (Int×Af):=
 (F44 x0 (w64 ((w64 (x2-x1))+1))).bind λy1=>some (w64 (x1+y1.1),y1.2)
def Amu(x0:Af):Option (Ce×Af):=
 (F20 x0 [0,450,800,1350,1800,2600,3500]).bind λy1=>(F20 y1.2 [0,100,300,900,1799]).bind λy3=>some (⟨y1.1,Int.tmod (w64 (y1.1+y3.1)) 3600⟩,y3.2)
def Aju(z0:Int×(List Int)×Int×(List Ce)):Option (Ctl (Int×(List Int)×Int×(List Ce)) Unit):=
 bif decide (z0.1>0)then (Amu ⟨z0.2.1,z0.2.2.1⟩).bind λy14=>(appI 17 z0.2.2.2 [y14.1]).bind λy16=>some (.next (w64 (z0.1-1),y14.2.L,y14.2.At,y16)) else some (.brk (z0.1,z0.2.1,z0.2.2.1,z0.2.2.2))
def Am8(x0:Af):Option (Ay×Af):=
 (F67 x0 1 3).bind λy1=>(F44 y1.2 2).bind λy3=>(F20 y3.2 [0,1,7,20,40]).bind λy5=>(F20 y5.2 [0,1,5,50]).bind λy7=>(F20 y7.2 [1,2,3,100]).bind λy9=>(F44 y9.2 3).bind λy11=>andThen (whileN Aju 1152921504606846976 (y11.1,y11.2.L,y11.2.At,[])) (λ_=>none) λz0=>some (⟨y1.1,y3.1,y5.1,y7.1,y9.1,z0.2.2.2⟩,⟨z0.2.1,z0.2.2.1⟩)
def Ard(z0:Int×(List Int)×Int×(List Ay)):Option (Ctl (Int×(List Int)×Int×(List Ay)) Unit):=
 bif decide (z0.1>0)then (Am8 ⟨z0.2.1,z0.2.2.1⟩).bind λy10=>(appI 65 z0.2.2.2 [y10.1]).bind λy12=>some (.next (w64 (z0.1-1),y10.2.L,y10.2.At,y12)) else some (.brk (z0.1,z0.2.1,z0.2.2.1,z0.2.2.2))
def F83(x0:Af)(x1:Int):Option (B3×Af):=
 (F20 x0 [0,1,30,60]).bind λy1=>(F20 y1.2 [1,25,40]).bind λy3=>(F44 y3.2 (w64 (x1+1))).bind λy5=>andThen (whileN Ard 1152921504606846976 (y5.1,y5.2.L,y5.2.At,[])) (λ_=>none) λz0=>some (⟨y1.1,y3.1,z0.2.2.2⟩,⟨z0.2.1,z0.2.2.1⟩)
def Aev(y1:Int×Af)(z0:Sg3):Option (Ctl (Sg3) Unit):=
 bif decide (z0.1<y1.1)then (F44 ⟨z0.2.1,z0.2.2.1⟩ 6).bind λy8=>bif decide (y8.1<5)then (F44 y8.2 z0.1).bind λy11=>(appI 25 z0.2.2.2 [⟨1,y11.1,z0.1⟩]).bind λy13=>some (.next (w64 (z0.1+1),y11.2.L,y11.2.At,y13)) else some (.next (w64 (z0.1+1),y8.2.L,y8.2.At,z0.2.2.2)) else some (.brk (z0.1,z0.2.1,z0.2.2.1,z0.2.2.2))
def Arc(y1:Int×Af)(z0:Sg3)(y15:Int×Af):Option (Ctl ((List Ak)) Unit):=
 bif ((decide (y1.1>2))&&(y15.1==1))then (appI 25 z0.2.2.2 [⟨1,0,w64 (y1.1-1)⟩]).bind λy18=>some (.next y18) else some (.next z0.2.2.2)
def Aeu(y1:Int×Af)(z2:Int×(List Int)×Int×(List Ak)×(List B5)):Option (Ctl (Int×(List Int)×Int×(List Ak)×(List B5)) Unit):=
 bif decide (z2.1>0)then (F44 ⟨z2.2.1,z2.2.2.1⟩ y1.1).bind λy23=>(appI 25 z2.2.2.2.1 [⟨2,y23.1,(z2.2.2.2.2.length:Int)⟩]).bind λy25=>(F20 y23.2 [10,50,100]).bind λy27=>(F20 y27.2 [0,5,y27.1]).bind λy29=>(F20 y29.2 [0,1,3]).bind λy31=>(appI 25 z2.2.2.2.2 [⟨y27.1,y29.1,y31.1⟩]).bind λy33=>some (.next (w64 (z2.1-1),y31.2.L,y31.2.At,y25,y33)) else some (.brk (z2.1,z2.2.1,z2.2.2.1,z2.2.2.2.1,z2.2.2.2.2))
def Arb(y1:Int×Af)(z3:Sg4)(y38:Int×Af)(y40:List Ak)(y42:Int×Af):Option (Ctl ((List Ak)) Unit):=
 bif ((decide (y1.1>1))&&(y42.1==3))then (nzI y1.1).bind λu46=>(appI 25 y40 [⟨3,Int.tmod (w64 (y38.1+1)) y1.1,(z3.2.2.2.2.length:Int)⟩]).bind λy47=>some (.next y47) else some (.next y40)
def Awi(z3:Sg4)(y57:Int×Af):Bool:=((decide ((z3.2.2.2.2.length:Int)>0))&&(y57.1==3))
def Aet(y1:Int×Af)(z3:Sg4):Option (Ctl (Sg4) Unit):=
 bif decide (z3.1>0)then (F44 ⟨z3.2.1,z3.2.2.1⟩ y1.1).bind λy38=>(appI 25 z3.2.2.2.1 [⟨3,y38.1,(z3.2.2.2.2.length:Int)⟩]).bind λy40=>(As [(decide (y1.1>1),true)] (F44 y38.2 4) (default,y38.2)).bind λy42=>andThen (Arb y1 z3 y38 y40 y42) (λ_=>none) λz4=>(F20 y42.2 [0,5,20,40]).bind λy49=>(F20 y49.2 [0,w64 (Int.tdiv y49.1 2),y49.1]).bind λy51=>(F44 y51.2 3).bind λy53=>(F67 y53.2 (-1) 2).bind λy55=>(As [(decide ((z3.2.2.2.2.length:Int)>0),true)] (F44 y55.2 4) (default,y55.2)).bind λy57=>bif (Awi z3 y57)then (F44 y57.2 (z3.2.2.2.2.length:Int)).bind λy60=>(appI 57 z3.2.2.2.2 [⟨y49.1,y51.1,y53.1,y55.1,[y60.1]⟩]).bind λy62=>some (.next (w64 (z3.1-1),y60.2.L,y60.2.At,z4,y62)) else (appI 57 z3.2.2.2.2 [⟨y49.1,y51.1,y53.1,y55.1,[]⟩]).bind λy64=>some (.next (w64 (z3.1-1),y57.2.L,y57.2.At,z4,y64)) else some (.brk (z3.1,z3.2.1,z3.2.2.1,z3.2.2.2.1,z3.2.2.2.2))
def F84(x0:Af):Option (Ab×Af):=
 (F67 x0 1 4).bind λy1=>(F20 y1.2 [0,50,200,1800]).bind λy3=>(F20 y3.2 [0,10,50]).bind λy5=>andThen (whileN (Aev y1) 1152921504606846976 (1,y5.2.L,y5.2.At,[])) (λ_=>none) λz0=>(As [(decide (y1.1>2),true)] (F44 ⟨z0.2.1,z0.2.2.1⟩ 2) (default,⟨z0.2.1,z0.2.2.1⟩)).bind λy15=>andThen (Arc y1 z0 y15) (λ_=>none) λz1=>(F44 y15.2 5).bind λy20=>andThen (whileN (Aeu y1) 1152921504606846976 (y20.1,y20.2.L,y20.2.At,z1,[])) (λ_=>none) λz2=>(F44 ⟨z2.2.1,z2.2.2.1⟩ 6).bind λy35=>andThen (whileN (Aet y1) 1152921504606846976 (y35.1,y35.2.L,y35.2.At,z2.2.2.2.1,[])) (λ_=>none) λz3=>some (⟨y1.1,z3.2.2.2.1,z2.2.2.2.2,z3.2.2.2.2,y3.1,y5.1⟩,⟨z3.2.1,z3.2.2.1⟩)
def F85(x0:Af):Option (Bu×Af):=
 (F20 x0 [60,80,100]).bind λy1=>(F20 y1.2 [1,30,50]).bind λy3=>(F20 y3.2 [0,1,3]).bind λy5=>some (⟨y1.1,y3.1,y5.1⟩,y5.2)
def Avu(x0:Af):Option (Dm×Af):=
 (F44 x0 4).bind λy1=>(F20 y1.2 [0,10,100]).bind λy3=>(F20 y3.2 [1,3,10]).bind λy5=>(F20 y5.2 [0,0,2,4]).bind λy7=>some (⟨y1.1,y3.1,y5.1,y7.1⟩,y7.2)
def Ara(z0:Int×(List Int)×Int×(List Dm)):Option (Ctl (Int×(List Int)×Int×(List Dm)) Unit):=
 bif decide (z0.1>0)then (Avu ⟨z0.2.1,z0.2.2.1⟩).bind λy4=>(appI 33 z0.2.2.2 [y4.1]).bind λy6=>some (.next (w64 (z0.1-1),y4.2.L,y4.2.At,y6)) else some (.brk (z0.1,z0.2.1,z0.2.2.1,z0.2.2.2))
def F86(x0:Af)(x1:Int):Option ((List Dm)×Af):=
 (F44 x0 (w64 (x1+1))).bind λy1=>andThen (whileN Ara 1152921504606846976 (y1.1,y1.2.L,y1.2.At,[])) (λ_=>none) λz0=>some (z0.2.2.2,⟨z0.2.1,z0.2.2.1⟩)
def F87(x0:Af):Option (Mb×Af):=
 (F20 x0 [0,10,100,1000]).bind λy1=>(F20 y1.2 [0,1,5]).bind λy3=>(F20 y3.2 [0,50,500]).bind λy5=>(F20 y5.2 [0,100]).bind λy7=>(F20 y7.2 [0,3]).bind λy9=>(F20 y9.2 [0,70]).bind λy11=>(F20 y11.2 [0,500,10000]).bind λy13=>(F20 y13.2 [0,20,60]).bind λy15=>(F20 y15.2 [0,500,3000]).bind λy17=>some (⟨y1.1,y3.1,y5.1,y7.1,y9.1,y11.1,y13.1,y15.1,y17.1⟩,y17.2)
def F79(x0:Af)(x1:List ByteArray):Option (ByteArray×Af):=
 (F44 x0 (x1.length:Int)).bind λy1=>(getI x1 y1.1).bind λy3=>some (y3,y1.2)
def Am7(x0:Af):Option (Kz×Af):=
 (F20 x0 [0,300,500,2000]).bind λy1=>(F20 y1.2 [0,0,200]).bind λy3=>(F20 y3.2 [0,0,(-100)]).bind λy5=>(F20 y5.2 [0,500,3000]).bind λy7=>some (⟨⟨y3.1,y5.1⟩,y1.1,w64 (y1.1+y7.1)⟩,y7.2)
def F88(x0:Af):Option (Hw×Af):=
 (F79 x0 [(⟨#[100,114,105,108,108]⟩:ByteArray),(⟨#[100,105,118,101]⟩:ByteArray),(⟨#[97,45,49]⟩:ByteArray)]).bind λy1=>(F67 y1.2 1 3).bind λy3=>(Am7 y3.2).bind λy5=>(F20 y5.2 [0,10,50,1000]).bind λy7=>some (⟨y1.1,y3.1,y5.1,y7.1⟩,y7.2)
def Aq8(x1:Int)(x2:Int)(z0:Int×(List Int)×Int×(List Int)):Option (Ctl (Int×(List Int)×Int×(List Int)) Unit):=
 bif decide (z0.1<x1)then (F44 ⟨z0.2.1,z0.2.2.1⟩ x2).bind λy2=>bif (y2.1==(w64 (x2-1)))then (appI 9 z0.2.2.2 [z0.1]).bind λy5=>some (.next (w64 (z0.1+1),y2.2.L,y2.2.At,y5)) else some (.next (w64 (z0.1+1),y2.2.L,y2.2.At,z0.2.2.2)) else some (.brk (z0.1,z0.2.1,z0.2.2.1,z0.2.2.2))
def F91(x0:Af)(x1:Int)(x2:Int):Option ((List Int)×Af):=
 andThen (whileN (Aq8 x1 x2) 1152921504606846976 (0,x0.L,x0.At,[])) (λ_=>none) λz0=>some (z0.2.2.2,⟨z0.2.1,z0.2.2.1⟩)
def Awh(z0:Sg8)(y3:Int×Af):Bool:=((decide (z0.1<=y3.1)) || (z0.1==0))
def Aq9(z0:Sg8):Option (Ctl (Sg8) Unit):=
 (F44 ⟨z0.2.1,z0.2.2.1⟩ 5).bind λy3=>bif (Awh z0 y3)then bif (z0.1==12)then some (.brk (z0.1,y3.2.L,y3.2.At,z0.2.2.2)) else (Aj5 [IntKind.wrap .u8 (w64 (97+z0.1))]).bind λy17=>(nzI (Ads (⟨#[115]⟩:ByteArray) y17)).bind λu20=>(F20 y3.2 [1,2,3,7]).bind λy21=>(F67 y21.2 1 3).bind λy23=>(F91 y23.2 z0.1 2).bind λy25=>(appI 57 z0.2.2.2 [⟨((⟨#[115]⟩:ByteArray)++y17),y21.1,y23.1,y25.1⟩]).bind λy27=>some (.next (w64 (z0.1+1),y25.2.L,y25.2.At,y27)) else some (.brk (z0.1,y3.2.L,y3.2.At,z0.2.2.2))
def F89(x0:Af):Option (Ky×Af):=
 andThen (whileN Aq9 1152921504606846976 (0,x0.L,x0.At,[])) (λ_=>none) λz0=>some (⟨z0.2.2.2⟩,⟨z0.2.1,z0.2.2.1⟩)
def F90(x0:Af):Option (Int×Af):=
 (F20 x0 [0,1,299,300,450,900,1800,2701,3599]).bind λy1=>some (y1.1,y1.2)
def Aii(a0:Aa)(z1:(List Int)×Int×(List A6))(a1:Aa)(y1:Int×Af):Bool:=(((!((a0.Kind==a1.Kind)&&((a0.Number==a1.Number)&&true)))&&(decide ((z1.2.2.length:Int)<20)))&&(y1.1==6))
def Aer(a0:Aa)(n1:Nat)(a1:Aa)(z1:(List Int)×Int×(List A6)):Option (Ctl ((List Int)×Int×(List A6)) Unit):=
 (As [(((!((a0.Kind==a1.Kind)&&((a0.Number==a1.Number)&&true)))&&(decide ((z1.2.2.length:Int)<20))),true)] (F44 ⟨z1.1,z1.2.1⟩ 7) (default,⟨z1.1,z1.2.1⟩)).bind λy1=>bif (Aii a0 z1 a1 y1)then (appI 33 z1.2.2 [⟨a0,a1⟩]).bind λy4=>some (.next (y1.2.L,y1.2.At,y4)) else some (.next (y1.2.L,y1.2.At,z1.2.2))
def Aes(x1:List Aa)(n0:Nat)(a0:Aa)(z0:(List Int)×Int×(List A6)):Option (Ctl ((List Int)×Int×(List A6)) Unit):=
 andThen (foldI (Aer a0) x1 0 (z0.1,z0.2.1,z0.2.2)) (λ_=>none) λz1=>some (.next (z1.1,z1.2.1,z1.2.2))
def Abi(x0:Af)(x1:List Aa):Option ((List A6)×Af):=
 andThen (foldI (Aes x1) x1 0 (x0.L,x0.At,[])) (λ_=>none) λz0=>some (z0.2.2,⟨z0.1,z0.2.1⟩)
def F29(x0:Aa)(x1:Aa):Bool:=
 ((decide (x0.Kind<x1.Kind)) || ((x0.Kind==x1.Kind)&&(decide (x0.Number<x1.Number))))
def uS(x0:List Aa)(x1:Aa)(z0:Int)(y3:Aa):Bool:=((decide (z0<(x0.length:Int)))&&(F29 y3 x1))
def Aew(x0:List Aa)(x1:Aa)(z0:Int):Option (Ctl Int Unit):=
 (As [(decide (z0<(x0.length:Int)),true)] (getI x0 z0) default).bind λy3=>bif (uS x0 x1 z0 y3)then some (.next (w64 (z0+1))) else some (.brk z0)
def uR(x0:List Aa)(x1:Aa)(z0:Int)(y6:Aa):Bool:=((decide (z0<(x0.length:Int)))&&((y6.Kind==x1.Kind)&&((y6.Number==x1.Number)&&true)))
def M_(x0:List Aa)(x1:Aa):Option ((List Aa)):=
 andThen (whileN (Aew x0 x1) 1152921504606846976 0) (λ_=>none) λz0=>(As [(decide (z0<(x0.length:Int)),true)] (getI x0 z0) default).bind λy6=>bif (uR x0 x1 z0 y6)then some x0 else (bndI x0.length 0 z0).bind λu10=>(bndI x0.length z0 (x0.length:Int)).bind λu12=>(appI 17 [x1] ((x0.drop (Int.toNat z0)).take ((Int.toNat (x0.length:Int))-(Int.toNat z0)))).bind λy13=>(appI 17 (x0.take ((Int.toNat z0)-0)) y13).bind λy15=>some y15
def Aih(x1:List Aa)(z0:Sg6):Bool:=((decide (z0.1>0))&&(decide ((x1.length:Int)>0)))
def Aep(n1:Nat)(a1:Aa)(z1:(List Int)×Int×(List Aa)):Option (Ctl ((List Int)×Int×(List Aa)) Unit):=
 (F44 ⟨z1.1,z1.2.1⟩ 4).bind λy10=>bif (y10.1==3)then (M_ z1.2.2 a1).bind λy13=>some (.next (y10.2.L,y10.2.At,y13)) else some (.next (y10.2.L,y10.2.At,z1.2.2))
def Aeq(x1:List Aa)(z0:Sg6):Option (Ctl (Sg6) Unit):=
 bif (Aih x1 z0)then (getI [(⟨#[111,110,101]⟩:ByteArray),(⟨#[116,119,111]⟩:ByteArray),(⟨#[103,45,51]⟩:ByteArray),(⟨#[120]⟩:ByteArray)] z0.1).bind λy4=>(F44 ⟨z0.2.1,z0.2.2.1⟩ (x1.length:Int)).bind λy6=>(getI x1 y6.1).bind λy8=>andThen (foldI Aep x1 0 (y6.2.L,y6.2.At,[y8])) (λ_=>none) λz1=>(appI 41 z0.2.2.2 [⟨y4,z1.2.2⟩]).bind λy15=>some (.next (w64 (z0.1-1),z1.1,z1.2.1,y15)) else some (.brk (z0.1,z0.2.1,z0.2.2.1,z0.2.2.2))
def Abh(x0:Af)(x1:List Aa):Option ((List Bp)×Af):=
 (F44 x0 4).bind λy1=>andThen (whileN (Aeq x1) 1152921504606846976 (y1.1,y1.2.L,y1.2.At,[])) (λ_=>none) λz0=>some (z0.2.2.2,⟨z0.2.1,z0.2.2.1⟩)
def Awr(y5:Ab×Af)(z0:Sg5):Bool:=decide (z0.1<(y5.1.Ag.length:Int))
def Aez(y3:B3×Af)(y5:Ab×Af)(z0:Sg5):Option (Ctl (Sg5) Unit):=
 bif (Awr y5 z0)then (F67 ⟨z0.2.1,z0.2.2.1⟩ (-1) (w64 ((y3.1.A4.length:Int)-1))).bind λy26=>(getI z0.2.2.2 z0.1).bind λy28=>(setI z0.2.2.2 z0.1 ⟨y28.Load,y28.Least,y28.B2,y26.1,y28.Needs⟩).bind λy30=>some (.next (w64 (z0.1+1),y26.2.L,y26.2.At,y30)) else some (.brk (z0.1,z0.2.1,z0.2.2.1,z0.2.2.2))
def Arr(n1:Nat)(n2:Nat)(a2:Int)(z2:(List Aa)):Option (Ctl ((List Aa)) Unit):=
 (appI 17 z2 [⟨cnt 0 n1,a2⟩]).bind λy34=>some (.next y34)
def Aey(n1:Nat)(a1:Int)(z1:(List Int)×Int×(List Aa)):Option (Ctl ((List Int)×Int×(List Aa)) Unit):=
 (F91 ⟨z1.1,z1.2.1⟩ (min a1 3) 2).bind λy32=>andThen (foldI (Arr n1) y32.1 0 z1.2.2) (λ_=>none) λz2=>some (.next (y32.2.L,y32.2.At,z2))
def F43(x0:Af):Option (A9×Af):=
 (F82 x0).bind λy1=>(F83 y1.2 2).bind λy3=>(F84 y3.2).bind λy5=>(F85 y5.2).bind λy7=>(F86 y7.2 3).bind λy9=>(F87 y9.2).bind λy11=>(F20 y11.2 [0,1,3]).bind λy13=>(F88 y13.2).bind λy15=>(F89 y15.2).bind λy17=>(F67 y17.2 (-50) 50).bind λy19=>(F67 y19.2 (-50) 50).bind λy21=>(F90 y21.2).bind λy23=>andThen (whileN (Aez y3 y5) 1152921504606846976 (0,y23.2.L,y23.2.At,y5.1.Ag)) (λ_=>none) λz0=>andThen (foldI Aey [0,(y5.1.Ae.length:Int),(y5.1.Ah.length:Int),y5.1.Am,(z0.2.2.2.length:Int),(y3.1.A4.length:Int),(y9.1.length:Int),0,0,2] 0 (z0.2.1,z0.2.2.1,[])) (λ_=>none) λz1=>(Abi ⟨z1.1,z1.2.1⟩ z1.2.2).bind λy36=>(Abh y36.2 z1.2.2).bind λy38=>some (⟨y1.1,y3.1,⟨y5.1.Am,y5.1.Ah,y5.1.Ae,z0.2.2.2,y5.1.Phase,y5.1.Aq⟩,y7.1,⟨z1.2.2,y36.1,y38.1⟩,y9.1,y11.1,⟨⟨y19.1,y21.1⟩,y23.1⟩,y13.1,y15.1,y17.1⟩,y38.2)
def A4a(a0:Aa)(z1:(List Int)×Int×(List A6))(a1:Aa)(y1:Int×Af):Bool:=(((!((a0.Kind==a1.Kind)&&((a0.Number==a1.Number)&&true)))&&(decide ((z1.2.2.length:Int)<20)))&&(y1.1==6))
def A21(a0:Aa)(n1:Nat)(a1:Aa)(z1:(List Int)×Int×(List A6)):Option (Ctl ((List Int)×Int×(List A6)) Unit):=
 (As [(((!((a0.Kind==a1.Kind)&&((a0.Number==a1.Number)&&true)))&&(decide ((z1.2.2.length:Int)<20))),true)] (F44 ⟨z1.1,z1.2.1⟩ 7) (default,⟨z1.1,z1.2.1⟩)).bind λy1=>bif (A4a a0 z1 a1 y1)then (appI 33 z1.2.2 [⟨a0,a1⟩]).bind λy4=>some (.next (y1.2.L,y1.2.At,y4)) else some (.next (y1.2.L,y1.2.At,z1.2.2))
def A22(x1:List Aa)(n0:Nat)(a0:Aa)(z0:(List Int)×Int×(List A6)):Option (Ctl ((List Int)×Int×(List A6)) Unit):=
 andThen (foldI (A21 a0) x1 0 (z0.1,z0.2.1,z0.2.2)) (λ_=>none) λz1=>some (.next (z1.1,z1.2.1,z1.2.2))
def F92(x0:Af)(x1:List Aa):Option ((List A6)×Af):=
 andThen (foldI (A22 x1) x1 0 (x0.L,x0.At,[])) (λ_=>none) λz0=>some (z0.2.2,⟨z0.1,z0.2.1⟩)
def A39(x1:List Aa)(z0:Sg6):Bool:=((decide (z0.1>0))&&(decide ((x1.length:Int)>0)))
def A2z(n1:Nat)(a1:Aa)(z1:(List Int)×Int×(List Aa)):Option (Ctl ((List Int)×Int×(List Aa)) Unit):=
 (F44 ⟨z1.1,z1.2.1⟩ 4).bind λy10=>bif (y10.1==3)then (M_ z1.2.2 a1).bind λy13=>some (.next (y10.2.L,y10.2.At,y13)) else some (.next (y10.2.L,y10.2.At,z1.2.2))
def A20(x1:List Aa)(z0:Sg6):Option (Ctl (Sg6) Unit):=
 bif (A39 x1 z0)then (getI [(⟨#[111,110,101]⟩:ByteArray),(⟨#[116,119,111]⟩:ByteArray),(⟨#[103,45,51]⟩:ByteArray),(⟨#[120]⟩:ByteArray)] z0.1).bind λy4=>(F44 ⟨z0.2.1,z0.2.2.1⟩ (x1.length:Int)).bind λy6=>(getI x1 y6.1).bind λy8=>andThen (foldI A2z x1 0 (y6.2.L,y6.2.At,[y8])) (λ_=>none) λz1=>(appI 41 z0.2.2.2 [⟨y4,z1.2.2⟩]).bind λy15=>some (.next (w64 (z0.1-1),z1.1,z1.2.1,y15)) else some (.brk (z0.1,z0.2.1,z0.2.2.1,z0.2.2.2))
def F93(x0:Af)(x1:List Aa):Option ((List Bp)×Af):=
 (F44 x0 4).bind λy1=>andThen (whileN (A20 x1) 1152921504606846976 (y1.1,y1.2.L,y1.2.At,[])) (λ_=>none) λz0=>some (z0.2.2.2,⟨z0.2.1,z0.2.2.1⟩)
def Arq(z0:Int×(List Int)×Int×(List Ak)×(List Ay)×(List A7)):Option (Ctl (Int×(List Int)×Int×(List Ak)×(List Ay)×(List A7)) Unit):=
 bif decide (z0.1<4)then (appI 25 z0.2.2.2.1 [⟨3,Int.tmod z0.1 2,z0.1⟩]).bind λy16=>(F20 ⟨z0.2.1,z0.2.2.1⟩ [0,5,20]).bind λy18=>(F44 y18.2 3).bind λy20=>(appI 57 z0.2.2.2.2.2 [⟨20,y18.1,y20.1,z0.1,[]⟩]).bind λy22=>(F20 y20.2 [50,50,5]).bind λy24=>(F20 y24.2 [1,2]).bind λy26=>(appI 65 z0.2.2.2.2.1 [⟨3,w64 (Int.tdiv z0.1 2),40,y24.1,y26.1,[]⟩]).bind λy28=>some (.next (w64 (z0.1+1),y26.2.L,y26.2.At,y16,y28,y22)) else some (.brk (z0.1,z0.2.1,z0.2.2.1,z0.2.2.2.1,z0.2.2.2.2.1,z0.2.2.2.2.2))
def F45(x0:Af):Option (A9×Af):=
 (F43 x0).bind λy1=>(appI 25 [⟨1,0,1⟩] [⟨2,0,0⟩]).bind λy3=>(F44 y1.2 3).bind λy5=>(appI 25 [] [⟨100,0,y5.1⟩]).bind λy7=>(appI 25 y3 [⟨2,1,1⟩]).bind λy9=>(F44 y5.2 3).bind λy11=>(appI 25 y7 [⟨100,0,y11.1⟩]).bind λy13=>andThen (whileN Arq 7 (0,y11.2.L,y11.2.At,y9,[],[])) (λ_=>none) λz0=>(F92 ⟨z0.2.1,z0.2.2.1⟩ [⟨1,0⟩,⟨1,1⟩,⟨5,0⟩,⟨5,1⟩,⟨6,0⟩,⟨9,0⟩]).bind λy30=>(F93 y30.2 [⟨1,0⟩,⟨1,1⟩,⟨5,0⟩,⟨5,1⟩,⟨6,0⟩,⟨9,0⟩]).bind λy32=>some (⟨y1.1.Hull,⟨30,30,z0.2.2.2.2.1⟩,⟨2,z0.2.2.2.1,y13,z0.2.2.2.2.2,1800,50⟩,y1.1.Table,⟨[⟨1,0⟩,⟨1,1⟩,⟨5,0⟩,⟨5,1⟩,⟨6,0⟩,⟨9,0⟩],y30.1,y32.1⟩,[⟨0,100,3,0⟩,⟨1,100,3,0⟩,⟨2,100,3,0⟩],⟨10,0,5,0,0,0,0,20,100⟩,y1.1.Target,y1.1.Delay,⟨y1.1.Operation.Name,y1.1.Operation.Class,⟨y1.1.Target.Place,1000,3000⟩,y1.1.Operation.Drift⟩,y1.1.Sequence⟩,y32.2)
def Ad6(x1:Ab)(z0:Int×(List Int)×Int×(List Bool)):Bool:=decide (z0.1<(x1.Ah.length:Int))
def Vw(x1:Ab)(z0:Int×(List Int)×Int×(List Bool)):Option (Ctl (Int×(List Int)×Int×(List Bool)) Unit):=
 bif (Ad6 x1 z0)then (F44 ⟨z0.2.1,z0.2.2.1⟩ 2).bind λy2=>(appI 2 z0.2.2.2 [(y2.1==1)]).bind λy4=>some (.next (w64 (z0.1+1),y2.2.L,y2.2.At,y4)) else some (.brk (z0.1,z0.2.1,z0.2.2.1,z0.2.2.2))
def Ad5(x1:Ab)(z1:Int×(List Bool)):Bool:=decide (z1.1<(x1.Ag.length:Int))
def zN(z1:Int×(List Bool))(a2:Ak)(y7:Bool):Bool:=(((a2.Kind==3)&&(a2.B==z1.1))&&y7)
def Vu(z1:Int×(List Bool))(n2:Nat)(a2:Ak)(z2:Bool×(List Bool)):Option (Ctl (Bool×(List Bool)) Unit):=
 (As [(((a2.Kind==3)&&(a2.B==z1.1)),true)] (getI z2.2 (cnt 0 n2)) default).bind λy7=>bif (zN z1 a2 y7)then (getI z2.2 (cnt 0 n2)).bind λy10=>(setI z2.2 (cnt 0 n2) z2.1).bind λy12=>some (.next (false,y12)) else some (.next (z2.1,z2.2))
def Vv(x1:Ab)(z1:Int×(List Bool)):Option (Ctl (Int×(List Bool)) Unit):=
 bif (Ad5 x1 z1)then andThen (foldI (Vu z1) x1.Ah 0 (true,z1.2)) (λ_=>none) λz2=>some (.next (w64 (z1.1+1),z2.2)) else some (.brk (z1.1,z1.2))
def zM(x1:Ab)(z3:Sg7):Bool:=decide (z3.1<(x1.Ae.length:Int))
def Vt(x1:Ab)(z3:Sg7):Option (Ctl (Sg7) Unit):=
 bif (zM x1 z3)then (F20 ⟨z3.2.1,z3.2.2.1⟩ [0,1,2,2,2,3]).bind λy15=>(F44 y15.2 5).bind λy17=>(F20 y17.2 [5000,5000,5005,4950]).bind λy19=>(F20 y19.2 [0,0,40,1800,3590]).bind λy21=>(appI 33 z3.2.2.2 [⟨y15.1,y17.1,y19.1,y21.1⟩]).bind λy23=>some (.next (w64 (z3.1+1),y21.2.L,y21.2.At,y23)) else some (.brk (z3.1,z3.2.1,z3.2.2.1,z3.2.2.2))
def Vs(n4:Nat)(a4:A7)(z4:(List Int)×Int×(List Int)):Option (Ctl ((List Int)×Int×(List Int)) Unit):=
 (F20 ⟨z4.1,z4.2.1⟩ [a4.Load,a4.Load,a4.Least,w64 (Int.tdiv a4.Load 3)]).bind λy25=>(appI 9 z4.2.2 [y25.1]).bind λy27=>some (.next (y25.2.L,y25.2.At,y27))
def Vr(x1:Ab)(z5:Int×(List Int)×Int×(List Aa)):Option (Ctl (Int×(List Int)×Int×(List Aa)) Unit):=
 bif decide (z5.1<=4)then (F44 ⟨z5.2.1,z5.2.2.1⟩ 5).bind λy30=>bif (y30.1==4)then (F44 y30.2 4).bind λy33=>bif Vy x1 ⟨z5.1,y33.1⟩ then (appI 17 z5.2.2.2 [⟨z5.1,y33.1⟩]).bind λy36=>some (.next (w64 (z5.1+1),y33.2.L,y33.2.At,y36)) else some (.next (w64 (z5.1+1),y33.2.L,y33.2.At,z5.2.2.2)) else some (.next (w64 (z5.1+1),y30.2.L,y30.2.At,z5.2.2.2)) else some (.brk (z5.1,z5.2.1,z5.2.2.1,z5.2.2.2))
def Vx(x0:Af)(x1:Ab):Option (Ad×Af):=
 andThen (whileN (Vw x1) 1152921504606846976 (0,x0.L,x0.At,[])) (λ_=>none) λz0=>andThen (whileN (Vv x1) 1152921504606846976 (0,z0.2.2.2)) (λ_=>none) λz1=>andThen (whileN (Vt x1) 1152921504606846976 (0,z0.2.1,z0.2.2.1,[])) (λ_=>none) λz3=>andThen (foldI Vs x1.Ag 0 (z3.2.1,z3.2.2.1,[])) (λ_=>none) λz4=>andThen (whileN (Vr x1) 7 (1,z4.1,z4.2.1,[])) (λ_=>none) λz5=>some (⟨z1.2,z3.2.2.2,z4.2.2,z5.2.2.2⟩,⟨z5.2.1,z5.2.2.1⟩)
def Abg(x0:Af)(x1:Ab):Option (Ad×Af):=
 (Vx x0 x1).bind λy1=>(vY x1 y1.1).bind λy3=>some (y3.1,y1.2)
def Aex(x1:Ab)(z0:Int×(List Int)×Int×(List A_)):Option (Ctl (Int×(List Int)×Int×(List A_)) Unit):=
 bif decide (z0.1<x1.Am)then (F67 ⟨z0.2.1,z0.2.2.1⟩ (-1) 4).bind λy6=>(F67 y6.2 (-1) 4).bind λy8=>(appI 17 z0.2.2.2 [⟨y6.1,y8.1⟩]).bind λy10=>some (.next (w64 (z0.1+1),y8.2.L,y8.2.At,y10)) else some (.brk (z0.1,z0.2.1,z0.2.2.1,z0.2.2.2))
def Zj(x0:Af)(x1:Ab):Option (Ar×Af):=
 (F67 x0 5 20).bind λy1=>(Abg y1.2 x1).bind λy3=>andThen (whileN (Aex x1) 1152921504606846976 (0,y3.2.L,y3.2.At,[])) (λ_=>none) λz0=>some (⟨y1.1,y3.1,z0.2.2.2,[]⟩,⟨z0.2.1,z0.2.2.1⟩)
def F11(x0:Af):Option (A9×Ar×Af):=
 (F43 x0).bind λy1=>(F44 y1.2 2).bind λy3=>bif (y3.1==1)then (F45 y3.2).bind λy6=>(Zj y6.2 y6.1.Board).bind λy8=>some (y6.1,y8.1,y8.2) else (Zj y3.2 y1.1.Board).bind λy10=>some (y1.1,y10.1,y10.2)
def F48(x0:Af):Option (Aa×Af):=
 (F67 x0 1 9).bind λy1=>(F44 y1.2 4).bind λy3=>some (⟨y1.1,y3.1⟩,y3.2)
def Asf(z0:Int×(List Int)×Int×(List Aa)):Option (Ctl (Int×(List Int)×Int×(List Aa)) Unit):=
 bif decide (z0.1>0)then (F48 ⟨z0.2.1,z0.2.2.1⟩).bind λy4=>(appI 17 z0.2.2.2 [y4.1]).bind λy6=>some (.next (w64 (z0.1-1),y4.2.L,y4.2.At,y6)) else some (.brk (z0.1,z0.2.1,z0.2.2.1,z0.2.2.2))
def F13(x0:Af)(x1:Int):Option ((List Aa)×Af):=
 (F44 x0 (w64 (x1+1))).bind λy1=>andThen (whileN Asf 1152921504606846976 (y1.1,y1.2.L,y1.2.At,[])) (λ_=>none) λz0=>some (z0.2.2.2,⟨z0.2.1,z0.2.2.1⟩)
def Asg(n0:Nat)(a0:Aa)(z0:(List Aa)):Option (Ctl ((List Aa)) Unit):=
 bif decide (a0.Kind>4)then (M_ z0 a0).bind λy4=>some (.next y4) else some (.next z0)
def F12(x0:Af):Option ((List Aa)×Af):=
 (F13 x0 3).bind λy1=>andThen (foldI Asg y1.1 0 []) (λ_=>none) λz0=>some (z0,y1.2)
def F19(x0:Af):Option (Bd×Af):=
 (F67 x0 (-60) 60).bind λy1=>(F67 y1.2 (-60) 60).bind λy3=>(F67 y3.2 (-900) 900).bind λy5=>some (⟨y1.1,y3.1,y5.1⟩,y5.2)
def Aru(x0:List Aa)(z0:Int×(List Aa)):Option (Ctl (Int×(List Aa)) Unit):=
 bif decide (z0.1<(x0.length:Int))then (getI x0 z0.1).bind λy2=>(M_ z0.2 y2).bind λy4=>some (.next (w64 (z0.1+1),y4)) else some (.brk (z0.1,z0.2))
def Art(x1:List Aa)(z1:Int×(List Aa)):Option (Ctl (Int×(List Aa)) Unit):=
 bif decide (z1.1<(x1.length:Int))then (getI x1 z1.1).bind λy7=>(M_ z1.2 y7).bind λy9=>some (.next (w64 (z1.1+1),y9)) else some (.brk (z1.1,z1.2))
def F31(x0:List Aa)(x1:List Aa):Option ((List Aa)):=
 andThen (whileN (Aru x0) 1152921504606846976 (0,[])) (λ_=>none) λz0=>andThen (whileN (Art x1) 1152921504606846976 (0,z0.2)) (λ_=>none) λz1=>some z1.2
def X7(x0:Aa):Bool:=
 ((((decide (x0.Kind>=1))&&(decide (x0.Kind<=9)))&&(decide (x0.Number>=0)))&&(decide (x0.Number<=63)))
def Aqu(n0:Nat)(a0:Aa)(y1:Aa):Bool:=((!(X7 a0)) || ((decide ((cnt 0 n0)>0))&&(!(F29 y1 a0))))
def Ajy(x0:List Aa)(n0:Nat)(a0:Aa)(z0:Unit):Option (Ctl Unit Bool):=
 (As [(!(X7 a0),false),(decide ((cnt 0 n0)>0),true)] (getI x0 (w64 ((cnt 0 n0)-1))) default).bind λy1=>bif (Aqu n0 a0 y1)then some (.ret false) else some (.next ())
def Agg(x0:List Aa):Option Bool:=
 andThen (foldI (Ajy x0) x0 0 ()) some λz0=>some true
def Awt(x1:Aa)(a0:Aa):Bool:=((a0.Kind==x1.Kind)&&((a0.Number==x1.Number)&&true))
def Afz(x1:Aa)(n0:Nat)(a0:Aa)(z0:Unit):Option (Ctl Unit Bool):=
 bif (Awt x1 a0)then some (.ret true) else some (.next ())
def F23(x0:List Aa)(x1:Aa):Option Bool:=
 andThen (foldI (Afz x1) x0 0 ()) some λz0=>some false
def A2l(x0:ByteArray)(y1:UInt8)(y3:UInt8):Bool:=(((((x0.size:Int)==0) || (decide ((x0.size:Int)>12))) || (decide ((y1.toNat:Int)<97))) || (decide ((y3.toNat:Int)>122)))
def A2k(y7:UInt8)(y9:UInt8)(y11:UInt8)(y13:UInt8)(y15:UInt8):Bool:=!((((decide ((y7.toNat:Int)>=97))&&(decide ((y9.toNat:Int)<=122))) || ((decide ((y11.toNat:Int)>=48))&&(decide ((y13.toNat:Int)<=57)))) || ((y15.toNat:Int)==45))
def Azi(x0:ByteArray)(z0:Int):Option (Ctl Int Bool):=
 bif decide (z0<(x0.size:Int))then (M5 x0 z0).bind λy7=>(As [(decide ((y7.toNat:Int)>=97),true)] (M5 x0 z0) default).bind λy9=>(As [(((decide ((y7.toNat:Int)>=97))&&(decide ((y9.toNat:Int)<=122))),false)] (M5 x0 z0) default).bind λy11=>(As [(((decide ((y7.toNat:Int)>=97))&&(decide ((y9.toNat:Int)<=122))),false),(decide ((y11.toNat:Int)>=48),true)] (M5 x0 z0) default).bind λy13=>(As [((((decide ((y7.toNat:Int)>=97))&&(decide ((y9.toNat:Int)<=122))) || ((decide ((y11.toNat:Int)>=48))&&(decide ((y13.toNat:Int)<=57)))),false)] (M5 x0 z0) default).bind λy15=>bif (A2k y7 y9 y11 y13 y15)then some (.ret false) else some (.next (w64 (z0+1))) else some (.brk z0)
def Avw(x0:ByteArray):Option Bool:=
 (As [((((x0.size:Int)==0) || (decide ((x0.size:Int)>12))),false)] (M5 x0 0) default).bind λy1=>(As [(((((x0.size:Int)==0) || (decide ((x0.size:Int)>12))) || (decide ((y1.toNat:Int)<97))),false)] (M5 x0 0) default).bind λy3=>bif (A2l x0 y1 y3)then some false else andThen (whileN (Azi x0) 1152921504606846976 0) some λz0=>some true
def Alo(x0:A3):Bool:=(((decide ((x0.Parts.length:Int)>40)) || (decide ((x0.Links.length:Int)>60))) || (decide ((x0.Groups.length:Int)>6)))
def Awp(a0:A6)(y5:Bool)(y7:Bool):Bool:=(((!y5) || (!y7)) || ((a0.From.Kind==a0.To.Kind)&&((a0.From.Number==a0.To.Number)&&true)))
def Awo(n0:Nat)(a0:A6)(y10:A6)(y12:A6)(y14:A6):Bool:=((decide ((cnt 0 n0)>0))&&(!((F29 y10.From a0.From) || (((y12.From.Kind==a0.From.Kind)&&((y12.From.Number==a0.From.Number)&&true))&&(F29 y14.To a0.To)))))
def Arn(x0:A3)(n0:Nat)(a0:A6)(z0:Unit):Option (Ctl Unit Int):=
 (F23 x0.Parts a0.From).bind λy5=>(As [(!y5,false)] (F23 x0.Parts a0.To) default).bind λy7=>bif (Awp a0 y5 y7)then some (.ret 63) else (As [(decide ((cnt 0 n0)>0),true)] (getI x0.Links (w64 ((cnt 0 n0)-1))) default).bind λy10=>(As [(decide ((cnt 0 n0)>0),true),(F29 y10.From a0.From,false)] (getI x0.Links (w64 ((cnt 0 n0)-1))) default).bind λy12=>(As [(decide ((cnt 0 n0)>0),true),(F29 y10.From a0.From,false),(((y12.From.Kind==a0.From.Kind)&&((y12.From.Number==a0.From.Number)&&true)),true)] (getI x0.Links (w64 ((cnt 0 n0)-1))) default).bind λy14=>bif (Awo n0 a0 y10 y12 y14)then some (.ret 63) else some (.next ())
def Awn(a1:Bp)(y17:Bool)(y19:Bool):Bool:=(((!y17) || ((a1.Parts.length:Int)==0)) || (!y19))
def Arl(x0:A3)(n2:Nat)(a2:Aa)(z2:Unit):Option (Ctl Unit Int):=
 (F23 x0.Parts a2).bind λy22=>bif !y22 then some (.ret 63) else some (.next ())
def Ark(x0:A3)(n1:Nat)(a1:Bp)(z3:Int):Option (Ctl Int Int):=
 bif decide (z3<(cnt 0 n1))then (getI x0.Groups z3).bind λy26=>bif (y26.Name.toList==a1.Name.toList)then some (.ret 63) else some (.next (w64 (z3+1))) else some (.brk z3)
def Arm(x0:A3)(n1:Nat)(a1:Bp)(z1:Unit):Option (Ctl Unit Int):=
 (Avw a1.Name).bind λy17=>(As [(((!y17) || ((a1.Parts.length:Int)==0)),false)] (Agg a1.Parts) default).bind λy19=>bif (Awn a1 y17 y19)then some (.ret 63) else andThen (foldI (Arl x0) a1.Parts 0 ()) (λv=>some (.ret v)) λz2=>andThen (whileN (Ark x0 n1 a1) 1152921504606846976 0) (λv=>some (.ret v)) λz3=>some (.next ())
def F59(x0:A3):Option Int:=
 bif (Alo x0)then some 2 else (Agg x0.Parts).bind λy2=>bif !y2 then some 63 else andThen (foldI (Arn x0) x0.Links 0 ()) some λz0=>andThen (foldI (Arm x0) x0.Groups 0 ()) some λz1=>some 0
def Ary(n1:Nat)(a1:A6)(z1:Bool×(List Aa)):Option (Ctl (Bool×(List Aa)) Unit):=
 (F23 z1.2 a1.From).bind λy7=>(As [(y7,true)] (F23 z1.2 a1.To) default).bind λy9=>bif (y7&&(!y9))then (M_ z1.2 a1.To).bind λy12=>some (.next (true,y12)) else some (.next (z1.1,z1.2))
def Arz(x0:A3)(z0:Bool×(List Aa)):Option (Ctl (Bool×(List Aa)) Unit):=
 bif z0.1 then andThen (foldI Ary x0.Links 0 (false,z0.2)) (λ_=>none) λz1=>some (.next (z1.1,z1.2)) else some (.brk (z0.1,z0.2))
def F28(x0:A3)(x1:List Aa):Option ((List Aa)):=
 (F31 x1 []).bind λy1=>(F59 x0).bind λy3=>bif (y3 != 0)then some y1 else andThen (whileN (Arz x0) 1152921504606846976 (true,y1)) (λ_=>none) λz0=>some z0.2
def Aws(a0:Aa)(y2:Aa):Bool:=!((a0.Kind==y2.Kind)&&((a0.Number==y2.Number)&&true))
def Ar0(x1:List Aa)(n0:Nat)(a0:Aa)(z0:Unit):Option (Ctl Unit Bool):=
 (getI x1 (cnt 0 n0)).bind λy2=>bif (Aws a0 y2)then some (.ret false) else some (.next ())
def F27(x0:List Aa)(x1:List Aa):Option Bool:=
 bif ((x0.length:Int) != (x1.length:Int))then some false else andThen (foldI (Ar0 x1) x0 0 ()) some λz0=>some true
def Aw0(y10:(List Aa))(n0:Nat)(a0:Aa)(z0:Int):Option (Ctl Int Unit):=
 (F23 y10 a0).bind λy49=>bif !y49 then some (.next (w64 (z0+1))) else some (.next z0)
def A1p(n1:Nat)(a1:Bb)(y52:Bool)(y54:Bb):Bool:=(y52 || ((decide ((cnt 0 n1)>0))&&(!(F29 y54.Part a1.Part))))
def Awz(y10:(List Aa))(y42:List Bb×Int)(n1:Nat)(a1:Bb)(z1:Unit):Option (Ctl Unit Bool):=
 (F23 y10 a1.Part).bind λy52=>(As [(y52,false),(decide ((cnt 0 n1)>0),true)] (getI y42.1 (w64 ((cnt 0 n1)-1))) default).bind λy54=>bif (A1p n1 a1 y52 y54)then some (.ret false) else some (.next ())
def F5(x0:List Int):Option Bool:=
 bif decide ((x0.length:Int)>600)then (F9).bind λy2=>some y2 else (F10 x0).bind λy4=>(F11 y4).bind λy6=>(F12 y6.2.2).bind λy8=>(F21 y6.1.Design y6.2.1 y8.1).bind λy10=>(F19 y8.2).bind λy40=>(F26 y6.1 y6.2.1 y8.1 y40.1).bind λy42=>(As [((y42.2 != 0),false)] (F28 y6.1.Design y10) default).bind λy44=>(As [((y42.2 != 0),false)] (F27 y44 y10) default).bind λy46=>bif ((y42.2 != 0) || (!y46))then some false else andThen (foldI (Aw0 y10) y6.1.Design.Parts 0 0) (λ_=>none) λz0=>andThen (foldI (Awz y10 y42) y42.1 0 ()) some λz1=>(As [(((y42.1.length:Int)==z0),true)] (F9) default).bind λy57=>some (((y42.1.length:Int)==z0)&&y57)
end Go.Proofs.YtiaaaghdkhnonaaGreat
