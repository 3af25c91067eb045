import Derived.Test.YtiaaaghdkhnonaaGreatTy
import Derived.Test.YtiaaaghdkhnonaaGreatFo
set_option linter.unusedVariables false
namespace Go.Proofs.YtiaaaghdkhnonaaGreat
open Go.SL
abbrev Sg0:=(List Int)×Int×(List Bool)×(List Aj)×(List Int)×(List Ab)×(List A9)×(List Bu)
abbrev Sg1:=Int×(List Bool)×(List Aj)×(List Int)×(List Ab)×(List A9)×(List Bu)
abbrev Sg2:=Int×(List Bool)×(List Aj)×(List Int)×(List Ab)×(List A9)×(List Ad)×(List Bu)
abbrev Sg3:=Int×(List Int)×Int×(List Ak)
abbrev Sg4:=Int×(List Int)×Int×(List Ak)×(List A7)
abbrev Sg5:=Int×(List Int)×Int×(List A7)
abbrev Sg6:=Int×(List Int)×Int×(List Bn)
abbrev Sg7:=Int×(List Int)×Int×(List Aj)
abbrev Sg8:=Int×(List Int)×Int×(List Il)
abbrev Sg9:=Int×(List Ak)×(List B1)×(List A7)×Int×Int×(List Bool)×(List Aj)×(List Int)×(List Ab)×(List Aw)
abbrev Ajs:=Int×(List Ak)×(List B1)×(List A7)×Int×Int×(List Int)×(List Bool)×(List Aj)×(List Int)×(List Ab)×(List Aw)
def Ce (x0:Int) (x1:Int) (x2:Int):Bool:=
 ((decide (x0>=x1))&&(decide (x0<=x2)))
def Kt (x1:Int) (x2:Int) (a0:Ak):Bool:=((a0.Kind==x1)&&((a0.B==x2) || ((x1==1)&&(a0.A==x2))))
def Ahs (x1:Int) (x2:Int) (n0:Nat) (a0:Ak) (z0:(List Int)):Option (Ctl ((List Int)) Unit):=
 bif (Kt x1 x2 a0) then (appI 9 z0 [cnt 0 n0]).bind λ y2=>some (.next y2) else some (.next z0)
def R6 (x0:Aa) (x1:Int) (x2:Int):Option ((List Int)):=
 andThen (foldI (Ahs x1 x2) x0.Ah 0 []) (λ _=>none) λ z0=>some z0
def Anj (x0:Aa) (a0:Ak):Bool:=!(Ce a0.B (w64 (a0.A+1)) (w64 (x0.Am-1)))
def Ani (x0:Aa) (a0:Ak):Bool:=!(Ce a0.B 0 (w64 ((x0.Ae.length:Int)-1)))
def Anh (x0:Aa) (a0:Ak):Bool:=!(Ce a0.B 0 (w64 ((x0.Ag.length:Int)-1)))
def Acv (a0:Ak) (a1:Ak):Bool:=((a1.Kind==a0.Kind)&&((a1.A==a0.A)&&((a1.B==a0.B)&&true)))
def uH (a0:Ak) (n1:Nat) (a1:Ak) (z1:Unit):Option (Ctl Unit Bool):=
 bif (Acv a0 a1) then some (.ret false) else some (.next ())
def Ahf (x0:Aa) (n0:Nat) (a0:Ak) (z0:Unit):Option (Ctl Unit Bool):=
 bif !(Ce a0.A 0 (w64 (x0.Am-1))) then some (.ret false) else bif (a0.Kind==1) then bif (Anj x0 a0) then some (.ret false) else some (.next ()) else bif (a0.Kind==2) then bif (Ani x0 a0) then some (.ret false) else some (.next ()) else bif (a0.Kind==3) then bif (Anh x0 a0) then some (.ret false) else (cutI x0.Ah 0 (cnt 0 n0)).bind λ y9=>andThen (foldI (uH a0) y9 0 ()) (λ v=>some (.ret v)) λ z1=>some (.next ()) else some (.ret false)
def Ags (x0:Aa) (z2:Int):Bool:=decide (z2<(x0.Ae.length:Int))
def Ahe (x0:Aa) (z2:Int):Option (Ctl Int Bool):=
 bif (Ags x0 z2) then (R6 x0 2 z2).bind λ y12=>bif ((y12.length:Int) != 1) then some (.ret false) else some (.next (w64 (z2+1))) else some (.brk z2)
def Agr (x0:Aa) (z3:Int):Bool:=decide (z3<(x0.Ag.length:Int))
def Ahd (x0:Aa) (z3:Int):Option (Ctl Int Bool):=
 bif (Agr x0 z3) then (R6 x0 3 z3).bind λ y16=>bif decide ((y16.length:Int)<1) then some (.ret false) else some (.next (w64 (z3+1))) else some (.brk z3)
def Aki (x0:Aa):Option Bool:=
 andThen (foldI (Ahf x0) x0.Ah 0 ()) some λ z0=>andThen (whileN (Ahe x0) 1152921504606846976 0) some λ z2=>andThen (whileN (Ahd x0) 1152921504606846976 0) some λ z3=>some true
def Ang (a0:B1):Bool:=(((!(Ce a0.Rating 1 50000)) || (!(Ce a0.Least 0 a0.Rating))) || (!(Ce a0.Start 0 600)))
def Ahc (n0:Nat) (a0:B1) (z0:Unit):Option (Ctl Unit Bool):=
 bif (Ang a0) then some (.ret false) else some (.next ())
def Akh (x0:Aa):Option Bool:=
 andThen (foldI Ahc x0.Ae 0 ()) some λ z0=>some true
def Anf (a0:A7):Bool:=(((((!(Ce a0.Load 0 50000)) || (!(Ce a0.Least 0 a0.Load))) || (!(Ce a0.Bz 0 15))) || (!(Ce a0.Thruster (-1) 7))) || (decide ((a0.Needs.length:Int)>4)))
def Ane (n0:Nat) (n1:Nat) (a1:Int) (y2:Int):Bool:=((!(Ce a1 0 (w64 ((cnt 0 n0)-1)))) || ((decide ((cnt 0 n1)>0))&&(decide (y2>=a1))))
def Aha (n0:Nat) (a0:A7) (n1:Nat) (a1:Int) (z1:Unit):Option (Ctl Unit Bool):=
 (Ar [(!(Ce a1 0 (w64 ((cnt 0 n0)-1))),false),(decide ((cnt 0 n1)>0),true)] (getI a0.Needs (w64 ((cnt 0 n1)-1))) default).bind λ y2=>bif (Ane n0 n1 a1 y2) then some (.ret false) else some (.next ())
def Ahb (n0:Nat) (a0:A7) (z0:Unit):Option (Ctl Unit Bool):=
 bif (Anf a0) then some (.ret false) else andThen (foldI (Aha n0 a0) a0.Needs 0 ()) (λ v=>some (.ret v)) λ z1=>some (.next ())
def Akg (x0:Aa):Option Bool:=
 andThen (foldI Ahb x0.Ag 0 ()) some λ z0=>some true
def Ac0 (x0:Aa):Bool:=(((((decide (x0.Am<1)) || (decide (x0.Am>6))) || (decide ((x0.Ah.length:Int)>24))) || (decide ((x0.Ae.length:Int)>8))) || (decide ((x0.Ag.length:Int)>16)))
def Acz (x0:Aa) (y2:Bool) (y4:Bool) (y6:Bool):Bool:=(((((((!y2) || (!y4)) || (!y6)) || (decide (x0.Phase<0))) || (decide (x0.Phase>1800))) || (decide (x0.Aq<0))) || (decide (x0.Aq>6000)))
def Xr (x0:Aa):Option Int:=
 bif (Ac0 x0) then some 2 else (Aki x0).bind λ y2=>(Ar [(!y2,false)] (Akh x0) default).bind λ y4=>(Ar [(((!y2) || (!y4)),false)] (Akg x0) default).bind λ y6=>bif (Acz x0 y2 y4 y6) then some 14 else some 0
def Jy (x0:Bt):Bool:=
 ((((((decide (x0.Stop>=1))&&(decide (x0.Stop<=99)))&&(decide (x0.Start>x0.Stop)))&&(decide (x0.Start<=100)))&&(decide (x0.Delay>=0)))&&(decide (x0.Delay<=600)))
def A2x (x0:Aa) (z0:Int×(List Aj)):Bool:=decide (z0.1<(x0.Ae.length:Int))
def A09 (x0:Aa) (z0:Int×(List Aj)):Option (Ctl (Int×(List Aj)) Unit):=
 bif (A2x x0 z0) then (appI 33 z0.2 [⟨0,0,5000,0⟩]).bind λ y8=>some (.next (w64 (z0.1+1),y8)) else some (.brk (z0.1,z0.2))
def A08 (n1:Nat) (a1:A7) (z1:(List Int)):Option (Ctl ((List Int)) Unit):=
 (appI 9 z1 [a1.Load]).bind λ y10=>some (.next y10)
def A07 (x0:Aa) (z2:Int×(List A9)):Option (Ctl (Int×(List A9)) Unit):=
 bif decide (z2.1<x0.Am) then (appI 17 z2.2 [⟨(-1),(-1)⟩]).bind λ y13=>some (.next (w64 (z2.1+1),y13)) else some (.brk (z2.1,z2.2))
def F80 (x0:Aa) (x1:Bt):Option (As×Int):=
 (Xr x0).bind λ y1=>bif (y1 != 0) then none else bif !(Jy x1) then none else (mkI 2 (x0.Ah.length:Int) false).bind λ y5=>andThen (whileN (A09 x0) 1152921504606846976 (0,[])) (λ _=>none) λ z0=>andThen (foldI A08 x0.Ag 0 []) (λ _=>none) λ z1=>andThen (whileN (A07 x0) 1152921504606846976 (0,[])) (λ _=>none) λ z2=>some (⟨0,⟨y5,z0.2,z1,[]⟩,z2.2,[]⟩,0)
def Ve (x0:Aa) (x1:Ab):Bool:=
 bif (x1.Kind==1) then Ce x1.Number 0 (w64 ((x0.Ae.length:Int)-1)) else bif (x1.Kind==2) then Ce x1.Number 0 (w64 ((x0.Ah.length:Int)-1)) else bif (x1.Kind==3) then Ce x1.Number 0 (w64 (x0.Am-1)) else bif (x1.Kind==4) then Ce x1.Number 0 (w64 ((x0.Ag.length:Int)-1)) else false
def Aes (x0:Ab) (x1:Ab):Bool:=
 ((decide (x0.Kind<x1.Kind)) || ((x0.Kind==x1.Kind)&&(decide (x0.Number<x1.Number))))
def Aub (x0:Aa) (x1:Ad):Bool:=((((x1.Ai.length:Int) != (x0.Ah.length:Int)) || ((x1.Ae.length:Int) != (x0.Ae.length:Int))) || ((x1.An.length:Int) != (x0.Ag.length:Int)))
def Aua (a0:Aj):Bool:=((((!(Ce a0.State 0 3)) || (!(Ce a0.Since 0 2147483648))) || (!(Ce a0.Aq 0 6000))) || (!(Ce a0.Phase 0 3599)))
def Aom (n0:Nat) (a0:Aj) (z0:Unit):Option (Ctl Unit Int):=
 bif (Aua a0) then some (.ret 11) else some (.next ())
def Aol (x0:Aa) (n1:Nat) (a1:Int) (z1:Unit):Option (Ctl Unit Int):=
 (getI x0.Ag (cnt 0 n1)).bind λ y6=>bif !(Ce a1 0 y6.Load) then some (.ret 11) else some (.next ())
def At9 (x0:Aa) (n2:Nat) (a2:Ab) (y10:Ab):Bool:=((!(Ve x0 a2)) || ((decide ((cnt 0 n2)>0))&&(!(Aes y10 a2))))
def Aok (x0:Aa) (x1:Ad) (n2:Nat) (a2:Ab) (z2:Unit):Option (Ctl Unit Int):=
 (Ar [(!(Ve x0 a2),false),(decide ((cnt 0 n2)>0),true)] (getI x1.Al (w64 ((cnt 0 n2)-1))) default).bind λ y10=>bif (At9 x0 n2 a2 y10) then some (.ret 11) else some (.next ())
def At8 (x0:Aa) (z3:Int):Bool:=decide (z3<(x0.Ag.length:Int))
def Aoi (x1:Ad) (n4:Nat) (a4:Int) (z4:Int):Option (Ctl Int Unit):=
 (getI x1.Ai a4).bind λ y16=>bif y16 then some (.next (w64 (z4+1))) else some (.next z4)
def Aoj (x0:Aa) (x1:Ad) (z3:Int):Option (Ctl Int Int):=
 bif (At8 x0 z3) then (R6 x0 3 z3).bind λ y14=>andThen (foldI (Aoi x1) y14 0 0) (λ _=>none) λ z4=>bif decide (z4>1) then some (.ret 11) else some (.next (w64 (z3+1))) else some (.brk z3)
def F75 (x0:Aa) (x1:Ad):Option Int:=
 (Xr x0).bind λ y1=>bif (y1 != 0) then some y1 else bif (Aub x0 x1) then some 8 else andThen (foldI Aom x1.Ae 0 ()) some λ z0=>andThen (foldI (Aol x0) x1.An 0 ()) some λ z1=>bif decide ((x1.Al.length:Int)>32) then some 11 else andThen (foldI (Aok x0 x1) x1.Al 0 ()) some λ z2=>andThen (whileN (Aoj x0 x1) 1152921504606846976 0) some λ z3=>some 0
def F76 (x0:Ad):Option Ad:=
 (appI 2 [] x0.Ai).bind λ y1=>(appI 33 [] x0.Ae).bind λ y3=>(appI 9 [] x0.An).bind λ y5=>(appI 17 [] x0.Al).bind λ y7=>some ⟨y1,y3,y5,y7⟩
def T_ (a1:Ak) (y7:Bool) (y9:Bool) (y11:Bool):Bool:=(((a1.Kind==1)&&y7)&&(y9 || y11))
def Ahh (x1:Ad) (n1:Nat) (a1:Ak) (z1:(List Bool)):Option (Ctl ((List Bool)) Unit):=
 (Ar [((a1.Kind==1),true)] (getI x1.Ai (cnt 0 n1)) default).bind λ y7=>(Ar [(((a1.Kind==1)&&y7),true)] (getI z1 a1.A) default).bind λ y9=>(Ar [(((a1.Kind==1)&&y7),true),(y9,false)] (getI z1 a1.B) default).bind λ y11=>bif (T_ a1 y7 y9 y11) then (getI z1 a1.A).bind λ y14=>(setI z1 a1.A true).bind λ y16=>(getI y16 a1.B).bind λ y18=>(setI y16 a1.B true).bind λ y20=>some (.next y20) else some (.next z1)
def Ahi (x0:Aa) (x1:Ad) (n0:Nat) (a0:Bool) (z0:(List Bool)):Option (Ctl ((List Bool)) Unit):=
 andThen (foldI (Ahh x1) x0.Ah 0 z0) (λ _=>none) λ z1=>some (.next z1)
def Ahg (n2:Nat) (a2:Bool) (z2:(List Int)):Option (Ctl ((List Int)) Unit):=
 bif a2 then (appI 9 z2 [cnt 0 n2]).bind λ y23=>some (.next y23) else some (.next z2)
def Akj (x0:Aa) (x1:Ad) (x2:Int):Option ((List Int)):=
 (mkI 2 x0.Am false).bind λ y1=>(getI y1 x2).bind λ y3=>(setI y1 x2 true).bind λ y5=>andThen (foldI (Ahi x0 x1) y5 0 y5) (λ _=>none) λ z0=>andThen (foldI Ahg z0 0 []) (λ _=>none) λ z2=>some z2
def Yv (x0:Aa) (x2:Int) (y1:Int) (y3:Aj):Bool:=((((y1 != 0) || (decide (x2<0))) || (decide (x2>=(x0.Ae.length:Int)))) || (y3.State != 2))
def Xn (x0:Aa) (x1:Ad) (x2:Int):Option (Int×Bool):=
 (F75 x0 x1).bind λ y1=>(Ar [((((y1 != 0) || (decide (x2<0))) || (decide (x2>=(x0.Ae.length:Int)))),false)] (getI x1.Ae x2) default).bind λ y3=>bif (Yv x0 x2 y1 y3) then some (0,false) else (R6 x0 2 x2).bind λ y6=>(getI y6 0).bind λ y8=>(getI x1.Ai y8).bind λ y10=>bif !y10 then some (0,false) else (getI x0.Ah y8).bind λ y13=>some (y13.A,true)
def uI (x1:Int) (n0:Nat) (a0:Int) (z0:Unit):Option (Ctl Unit Bool):=
 bif (a0==x1) then some (.ret true) else some (.next ())
def Ph (x0:List Int) (x1:Int):Option Bool:=
 andThen (foldI (uI x1) x0 0 ()) some λ z0=>some false
def Ank (x0:Aa) (x2:Int) (y1:Int):Bool:=(((y1 != 0) || (decide (x2<0))) || (decide (x2>=(x0.Ag.length:Int))))
def uJ (x0:Aa) (x1:Ad) (n0:Nat) (a0:Int) (z0:Unit):Option (Ctl Unit (Int×Bool)):=
 (getI x1.Ai a0).bind λ y6=>bif y6 then (getI x0.Ah a0).bind λ y9=>some (.ret (y9.A,true)) else some (.next ())
def Aej (x0:Aa) (x1:Ad) (x2:Int):Option (Int×Bool):=
 (F75 x0 x1).bind λ y1=>bif (Ank x0 x2 y1) then some (0,false) else (R6 x0 3 x2).bind λ y4=>andThen (foldI (uJ x0 x1) y4 0 ()) some λ z0=>some (0,false)
def Anx (x0:Aa) (x2:Int) (y1:Int):Bool:=(((y1 != 0) || (decide (x2<0))) || (decide (x2>=x0.Am)))
def Anw (x0:Aa) (z0:Int×(List Int)):Bool:=decide (z0.1<(x0.Ae.length:Int))
def Ahu (x0:Aa) (x1:Ad) (y4:(List Int)) (z0:Int×(List Int)):Option (Ctl (Int×(List Int)) Unit):=
 bif (Anw x0 z0) then (Xn x0 x1 z0.1).bind λ y7=>(Ar [(y7.2,true)] (Ph y4 y7.1) default).bind λ y9=>bif (y7.2&&y9) then (appI 9 z0.2 [z0.1]).bind λ y12=>some (.next (w64 (z0.1+1),y12)) else some (.next (w64 (z0.1+1),z0.2)) else some (.brk (z0.1,z0.2))
def Anv (x0:Aa) (z1:Int×(List Int)):Bool:=decide (z1.1<(x0.Ag.length:Int))
def Aht (x0:Aa) (x1:Ad) (y4:(List Int)) (z1:Int×(List Int)):Option (Ctl (Int×(List Int)) Unit):=
 bif (Anv x0 z1) then (Aej x0 x1 z1.1).bind λ y15=>(Ar [(y15.2,true)] (Ph y4 y15.1) default).bind λ y17=>bif (y15.2&&y17) then (appI 9 z1.2 [z1.1]).bind λ y20=>some (.next (w64 (z1.1+1),y20)) else some (.next (w64 (z1.1+1),z1.2)) else some (.brk (z1.1,z1.2))
def Pi (x0:Aa) (x1:Ad) (x2:Int):Option (Ap×Bool):=
 (F75 x0 x1).bind λ y1=>bif (Anx x0 x2 y1) then some (⟨[],[],[]⟩,false) else (Akj x0 x1 x2).bind λ y4=>andThen (whileN (Ahu x0 x1 y4) 1152921504606846976 (0,[])) (λ _=>none) λ z0=>andThen (whileN (Aht x0 x1 y4) 1152921504606846976 (0,[])) (λ _=>none) λ z1=>some (⟨y4,z0.2,z1.2⟩,true)
def Ag9 (x0:Aa) (x1:Ad) (z0:Int×(List Ap)):Option (Ctl (Int×(List Ap)) Unit):=
 bif decide (z0.1<x0.Am) then (Pi x0 x1 z0.1).bind λ y5=>(getI y5.1.Am 0).bind λ y7=>bif (y7==z0.1) then (appI 73 z0.2 [y5.1]).bind λ y10=>some (.next (w64 (z0.1+1),y10)) else some (.next (w64 (z0.1+1),z0.2)) else some (.brk (z0.1,z0.2))
def uG (x0:Aa) (x1:Ad):Option ((List Ap)):=
 (F75 x0 x1).bind λ y1=>bif (y1 != 0) then some [] else andThen (whileN (Ag9 x0 x1) 1152921504606846976 (0,[])) (λ _=>none) λ z0=>some z0.2
def Ahj (x1:Ad) (a0:Ap) (n1:Nat) (a1:Int) (z1:(List Aj)):Option (Ctl ((List Aj)) Unit):=
 (getI a0.Ae 0).bind λ y5=>(getI x1.Ae y5).bind λ y7=>(getI a0.Ae 0).bind λ y9=>(getI x1.Ae y9).bind λ y11=>(getI z1 a1).bind λ y13=>(setI z1 a1 ⟨y13.State,y13.Since,y7.Aq,y13.Phase⟩).bind λ y15=>(getI y15 a1).bind λ y17=>(setI y15 a1 ⟨y17.State,y17.Since,y17.Aq,y11.Phase⟩).bind λ y19=>some (.next y19)
def Ahk (x1:Ad) (n0:Nat) (a0:Ap) (z0:(List Aj)):Option (Ctl ((List Aj)) Unit):=
 andThen (foldI (Ahj x1 a0) a0.Ae 0 z0) (λ _=>none) λ z1=>some (.next z1)
def Akk (x0:Aa) (x1:Ad):Option Ad:=
 (F76 x1).bind λ y1=>(uG x0 x1).bind λ y3=>andThen (foldI (Ahk x1) y3 0 y1.Ae) (λ _=>none) λ z0=>some ⟨y1.Ai,z0,y1.An,y1.Al⟩
def uX (x0:Aa) (x1:Ad):Option (Ad×Int):=
 (F75 x0 x1).bind λ y1=>bif (y1 != 0) then some (⟨[],[],[],[]⟩,y1) else (Akk x0 x1).bind λ y4=>some (y4,0)
def Axa (x1:List Bool) (n0:Nat) (a0:Bool) (z0:Unit):Option (Ctl Unit Unit):=
 (getI x1 (cnt 0 n0)).bind λ y2=>bif !(a0==y2) then none else some (.next ())
def A2a (x0:List Bool) (x1:List Bool):Option Bool:=
 bif ((x0.length:Int) != (x1.length:Int)) then none else andThen (foldI (Axa x1) x0 0 ()) (λ _=>none) λ z0=>some true
def A18 (x1:List Int) (n0:Nat) (a0:Int) (z0:Unit):Option (Ctl Unit Unit):=
 (getI x1 (cnt 0 n0)).bind λ y2=>bif (a0 != y2) then none else some (.next ())
def F16 (x0:List Int) (x1:List Int):Option Bool:=
 bif ((x0.length:Int) != (x1.length:Int)) then none else andThen (foldI (A18 x1) x0 0 ()) (λ _=>none) λ z0=>some true
def A20 (x0:Ad) (x1:Ad) (y1:Bool) (y3:Bool):Bool:=((((!y1) || (!y3)) || ((x0.Ae.length:Int) != (x1.Ae.length:Int))) || ((x0.Al.length:Int) != (x1.Al.length:Int)))
def A2z (x0:Ad) (z0:Int):Bool:=decide (z0<(x0.Ae.length:Int))
def A2y (y7:Aj) (y9:Aj):Bool:=!((y7.State==y9.State)&&((y7.Since==y9.Since)&&((y7.Aq==y9.Aq)&&((y7.Phase==y9.Phase)&&true))))
def A1b (x0:Ad) (x1:Ad) (z0:Int):Option (Ctl Int Unit):=
 bif (A2z x0 z0) then (getI x0.Ae z0).bind λ y7=>(getI x1.Ae z0).bind λ y9=>bif (A2y y7 y9) then none else some (.next (w64 (z0+1))) else some (.brk z0)
def A1a (x0:Ad) (z1:Unit):Option (Ctl Unit Unit):=
 bif decide (0<(x0.Al.length:Int)) then none else some (.brk ())
def F63 (x0:Ad) (x1:Ad):Option Bool:=
 (A2a x0.Ai x1.Ai).bind λ y1=>(Ar [(!y1,false)] (F16 x0.An x1.An) default).bind λ y3=>bif (A20 x0 x1 y1 y3) then none else andThen (whileN (A1b x0 x1) 1152921504606846976 0) (λ _=>none) λ z0=>andThen (whileN (A1a x0) 1152921504606846976 ()) (λ _=>none) λ z1=>some true
def A22 (x1:Bt) (x2:As):Bool:=(((!(Jy x1)) || (decide (x2.Time<0))) || (decide (x2.Time>2147483648)))
def A21 (x2:As) (a0:A9):Bool:=((((decide (a0.High<(-1))) || (decide (a0.High>x2.Time))) || (decide (a0.Low<(-1)))) || (decide (a0.Low>x2.Time)))
def A1c (x2:As) (n0:Nat) (a0:A9) (z0:Unit):Option (Ctl Unit Unit):=
 bif (A21 x2 a0) then none else some (.next ())
def F58 (x0:Aa) (x1:Bt) (x2:As):Option Int:=
 (F75 x0 x2.Power).bind λ y1=>bif (y1 != 0) then none else bif (A22 x1 x2) then none else bif ((x2.Ba.length:Int) != x0.Am) then none else andThen (foldI (A1c x2) x2.Ba 0 ()) (λ _=>none) λ z0=>(uX x0 x2.Power).bind λ y7=>(F63 y7.1 x2.Power).bind λ y9=>bif !y9 then none else some 0
def A0h (x1:Int) (x2:Int) (a0:Ab):Bool:=((a0.Kind==x1)&&(a0.Number==x2))
def Aw6 (x1:Int) (x2:Int) (n0:Nat) (a0:Ab) (z0:Unit):Option (Ctl Unit Bool):=
 bif (A0h x1 x2 a0) then some (.ret true) else some (.next ())
def Hk (x0:Ad) (x1:Int) (x2:Int):Option Bool:=
 andThen (foldI (Aw6 x1 x2) x0.Al 0 ()) some λ z0=>some false
def Az8 (y1:Ap×Bool):Bool:=((!y1.2) || ((y1.1.Ae.length:Int)==0))
def A10 (x0:Aa) (x1:Ad) (x2:Int):Option (Int×Bool):=
 (Pi x0 x1 x2).bind λ y1=>bif (Az8 y1) then some (0,false) else (getI y1.1.Ae 0).bind λ y4=>some (y4,true)
def Kx (x0:Int):Int:=
 Int.tmod (w64 ((Int.tmod x0 3600)+3600)) 3600
def Azv (x0:Int) (x1:Int):Bool:=decide ((Kx (w64 ((Kx x1)-(Kx x0))))>1800)
def A1m (x0:Int) (x1:Int):Option Int:=
 bif (Azv x0 x1) then none else some (Kx (w64 ((Kx x1)-(Kx x0))))
def Az0 (x1:Aj):Bool:=((decide (x1.Aq<0)) || (decide (x1.Aq>6000)))
def Azz (x2:Aj):Bool:=((decide (x2.Aq<0)) || (decide (x2.Aq>6000)))
def A1s (x0:Aa) (x1:Aj) (x2:Aj):Option Bool:=
 bif (Az0 x1) then none else bif (Azz x2) then none else (A1m x1.Phase x2.Phase).bind λ y3=>some ((((decide ((w64 (x1.Aq-x2.Aq))>=(w64 (0-x0.Aq))))&&(decide ((w64 (x1.Aq-x2.Aq))<=x0.Aq)))&&(decide (y3>=(w64 (0-x0.Phase)))))&&(decide (y3<=x0.Phase)))
def Az9 (x0:Aa) (x2:Int):Bool:=((decide (x2<0)) || (decide (x2>=(x0.Ah.length:Int))))
def A11 (x0:Aa) (x1:Ad) (x2:Int):Option Int:=
 (F75 x0 x1).bind λ y1=>bif (y1 != 0) then none else bif (Az9 x0 x2) then none else (getI x0.Ah x2).bind λ y5=>(getI x1.Ai x2).bind λ y7=>(Ar [(y7,false)] (Hk x1 2 x2) default).bind λ y9=>(Ar [((y7 || y9),false)] (Hk x1 3 y5.A) default).bind λ y11=>bif ((y7 || y9) || y11) then none else (A10 x0 x1 y5.A).bind λ y14=>bif (y5.Kind==1) then none else bif (y5.Kind==2) then (Hk x1 1 y5.B).bind λ y18=>(Ar [(y18,false)] (getI x1.Ae y5.B) default).bind λ y20=>bif (y18 || (y20.State != 2)) then none else (Ar [(y14.2,true)] (getI x1.Ae y14.1) default).bind λ y23=>(Ar [(y14.2,true)] (getI x1.Ae y5.B) default).bind λ y25=>(Ar [(y14.2,true)] (A1s x0 y23 y25) default).bind λ y27=>bif (y14.2&&(!y27)) then none else some 0 else (Aej x0 x1 y5.B).bind λ y30=>(Ar [(y30.2,false)] (Hk x1 4 y5.B) default).bind λ y32=>bif (y30.2 || y32) then none else some 0
def A17 (x0:Aa) (x1:Ad) (x2:Int):Option (Ad×Int):=
 (A11 x0 x1 x2).bind λ y1=>bif (y1 != 0) then none else (F76 x1).bind λ y4=>(getI y4.Ai x2).bind λ y6=>(setI y4.Ai x2 true).bind λ y8=>(Akk x0 ⟨y8,y4.Ae,y4.An,y4.Al⟩).bind λ y10=>some (y10,0)
def Xo (x0:Aa) (x1:Int) (x2:Int):Option ((List Int)):=
 (Xr x0).bind λ y1=>bif (y1 != 0) then none else (R6 x0 x1 x2).bind λ y4=>some y4
def Aw5 (n0:Nat) (a0:Aj) (z0:(List Aj)):Option (Ctl ((List Aj)) Unit):=
 (getI z0 (cnt 0 n0)).bind λ y6=>bif (y6.State==2) then (setI z0 (cnt 0 n0) ⟨y6.State,y6.Since,y6.Aq,Kx (w64 (y6.Phase+(w64 (36*(w64 (y6.Aq-5000))))))⟩).bind λ y9=>some (.next y9) else none
def A16 (x0:Aa) (x1:Ad):Option (Ad×Int):=
 (F75 x0 x1).bind λ y1=>bif (y1 != 0) then none else (F76 x1).bind λ y4=>andThen (foldI Aw5 y4.Ae 0 y4.Ae) (λ _=>none) λ z0=>some (⟨y4.Ai,z0,y4.An,y4.Al⟩,0)
def A0n (x2:Int) (x3:Aw):Bool:=((((decide (x2<0)) || (decide (x2>2147483648))) || (decide (x3.Kind<1))) || (decide (x3.Kind>9)))
def Axc (x3:Aw):Option (Ctl Bool Unit):=
 bif (x3.Kind==3) then some (.next (x3.Kind==3)) else some (.next (x3.Kind==4))
def A0m (x0:Aa) (x3:Aw):Bool:=((decide (x3.Unit<0)) || (decide (x3.Unit>=(x0.Ae.length:Int))))
def Axb (x3:Aw) (y27:List Aj) (y29:B1) (y31:Bool):Option (Ctl ((List Aj)) Unit):=
 bif ((y29.Start==0)&&(!y31)) then (getI y27 x3.Unit).bind λ y34=>(setI y27 x3.Unit ⟨2,y34.Since,y34.Aq,y34.Phase⟩).bind λ y36=>some (.next y36) else none
def A0l (x2:Int) (a2:Aj) (y46:Bool) (y48:B1):Bool:=(((a2.State==1)&&(!y46))&&(decide ((w64 (a2.Since+y48.Start))<=(w64 (x2+1)))))
def Axd (x0:Aa) (x2:Int) (y40:Ad×Int) (n2:Nat) (a2:Aj) (z2:Unit):Option (Ctl Unit Unit):=
 (Ar [((a2.State==1),true)] (Xo x0 2 (cnt 0 n2)) default).bind λ y42=>(Ar [((a2.State==1),true)] (getI y42 0) default).bind λ y44=>(Ar [((a2.State==1),true)] (getI y40.1.Ai y44) default).bind λ y46=>(Ar [(((a2.State==1)&&(!y46)),true)] (getI x0.Ae (cnt 0 n2)) default).bind λ y48=>bif (A0l x2 a2 y46 y48) then none else some (.next ())
def Atm (x0:Aa) (x1:Ad) (x2:Int) (x3:Aw):Option (Ad×Int):=
 (F75 x0 x1).bind λ y1=>bif (y1 != 0) then none else bif (A0n x2 x3) then none else (F76 x1).bind λ y5=>bif (x3.Kind==1) then (A17 x0 x1 x3.Unit).bind λ y8=>some (y8.1,y8.2) else bif (x3.Kind==2) then none else bif (x3.Kind==6) then none else andThen (Axc x3) (λ _=>none) λ z0=>bif z0 then bif (A0m x0 x3) then none else (getI x1.Ae x3.Unit).bind λ y15=>(Xo x0 2 x3.Unit).bind λ y17=>(getI y17 0).bind λ y19=>bif (x3.Kind==3) then (Ar [((y15.State != 0),false)] (Hk x1 1 x3.Unit) default).bind λ y22=>bif ((y15.State != 0) || y22) then none else (getI y5.Ae x3.Unit).bind λ y25=>(setI y5.Ae x3.Unit ⟨1,x2,5000,0⟩).bind λ y27=>(getI x0.Ae x3.Unit).bind λ y29=>(Ar [((y29.Start==0),true)] (getI x1.Ai y19) default).bind λ y31=>andThen (Axb x3 y27 y29 y31) (λ _=>none) λ z1=>some (⟨y5.Ai,z1,y5.An,y5.Al⟩,0) else none else bif (x3.Kind==5) then none else bif (x3.Kind==7) then (A16 x0 x1).bind λ y40=>andThen (foldI (Axd x0 x2 y40) y40.1.Ae 0 ()) (λ _=>none) λ z2=>some (y40.1,0) else none
def A1z (x0:Aa) (x1:Ad) (x2:Int):Option Bool:=
 (getI x0.Ah x2).bind λ y1=>(Hk x1 3 y1.A).bind λ y3=>bif y3 then none else bif (y1.Kind==1) then none else bif (y1.Kind==2) then (Hk x1 1 y1.B).bind λ y8=>(Ar [(y8,false)] (getI x1.Ae y1.B) default).bind λ y10=>some (y8 || (y10.State != 2)) else (Hk x1 4 y1.B).bind λ y12=>some y12
def F74 (x0:Aa) (x1:Ad) (x2:Int):Option Bool:=
 (Pi x0 x1 x2).bind λ y1=>some (y1.2&&(decide ((y1.1.Ae.length:Int)>0)))
def A0g (x0:Aa) (z0:Int):Bool:=decide (z0<(x0.Ah.length:Int))
def Aw4 (x0:Aa) (x1:Ad) (y4:Ad) (z0:Int):Option (Ctl Int Unit):=
 bif (A0g x0 z0) then (getI y4.Ai z0).bind λ y7=>(Ar [(y7,true)] (A1z x0 x1 z0) default).bind λ y9=>bif (y7&&y9) then none else some (.next (w64 (z0+1))) else some (.brk z0)
def Aw3 (x0:Aa) (y4:Ad) (n1:Nat) (a1:Ak) (z1:Unit):Option (Ctl Unit Unit):=
 (Ar [((a1.Kind==3),true)] (getI y4.Ai (cnt 0 n1)) default).bind λ y12=>(Ar [(((a1.Kind==3)&&y12),true)] (F74 x0 y4 a1.A) default).bind λ y14=>bif (((a1.Kind==3)&&y12)&&(!y14)) then none else some (.next ())
def A15 (x0:Aa) (x1:Ad):Option (Ad×(List Aw)×Int):=
 (F75 x0 x1).bind λ y1=>bif (y1 != 0) then none else (F76 x1).bind λ y4=>andThen (whileN (Aw4 x0 x1 y4) 1152921504606846976 0) (λ _=>none) λ z0=>andThen (foldI (Aw3 x0 y4) x0.Ah 0 ()) (λ _=>none) λ z1=>(uX x0 y4).bind λ y17=>some (y17.1,[],0)
def Awy (z0:Int×(List Int)) (n1:Nat) (a1:A7) (z1:(List Int)):Option (Ctl ((List Int)) Unit):=
 bif (a1.Bz==z0.1) then (appI 9 z1 [cnt 0 n1]).bind λ y6=>some (.next y6) else some (.next z1)
def Awz (x0:Aa) (z0:Int×(List Int)):Option (Ctl (Int×(List Int)) Unit):=
 bif decide (z0.1<=15) then andThen (foldI (Awy z0) x0.Ag 0 z0.2) (λ _=>none) λ z1=>some (.next (w64 (z0.1+1),z1)) else some (.brk (z0.1,z0.2))
def A1y (x0:Aa):Option ((List Int)):=
 (Xr x0).bind λ y1=>bif (y1 != 0) then none else andThen (whileN (Awz x0) 18 (0,[])) (λ _=>none) λ z0=>some z0.2
def Az7 (y1:Ap×Bool):Bool:=((!y1.2) || ((y1.1.Ae.length:Int)==0))
def Awx (x1:Ad) (n0:Nat) (a0:Int) (z0:Int):Option (Ctl Int Unit):=
 (getI x1.An a0).bind λ y4=>some (.next (w64 (z0+y4)))
def Aj9 (x0:Aa) (x1:Ad) (x2:Int):Option Int:=
 (Pi x0 x1 x2).bind λ y1=>bif (Az7 y1) then some 0 else andThen (foldI (Awx x1) y1.1.Ag 0 0) (λ _=>none) λ z0=>some z0
def Aww (x0:Aa) (n0:Nat) (a0:Int) (z0:Int):Option (Ctl Int Unit):=
 (getI x0.Ae a0).bind λ y3=>some (.next (w64 (z0+y3.Rating)))
def Aj8 (x0:Aa) (x1:Ad) (x2:Int):Option Int:=
 (Pi x0 x1 x2).bind λ y1=>andThen (foldI (Aww x0) y1.1.Ae 0 0) (λ _=>none) λ z0=>some z0
def A0f (y12:Int) (y16:Int) (y18:A7) (y20:Bool) (y22:Int):Bool:=(((decide ((w64 (y12-y16))<=0)) || (!y20)) || (decide (y22<=y18.Least)))
def Aw1 (x0:Aa) (y4:Ad) (a0:Ap) (y12:Int) (y16:Int) (n1:Nat) (a1:Int) (z1:Unit):Option (Ctl Unit Unit):=
 (getI x0.Ag a1).bind λ y18=>(Ar [(decide ((w64 (y12-y16))<=0),false)] (Ph a0.Ag a1) default).bind λ y20=>(Ar [(((decide ((w64 (y12-y16))<=0)) || (!y20)),false)] (getI y4.An a1) default).bind λ y22=>bif (A0f y12 y16 y18 y20 y22) then some (.next ()) else none
def A0e (y12:Int) (y16:Int) (y25:Bool) (y27:Int):Bool:=(((decide ((w64 (y12-y16))<=0)) || (!y25)) || (y27==0))
def Aw0 (y4:Ad) (a0:Ap) (y12:Int) (y16:Int) (n2:Nat) (a2:Int) (z2:Unit):Option (Ctl Unit Unit):=
 (Ar [(decide ((w64 (y12-y16))<=0),false)] (Ph a0.Ag a2) default).bind λ y25=>(Ar [(((decide ((w64 (y12-y16))<=0)) || (!y25)),false)] (getI y4.An a2) default).bind λ y27=>bif (A0e y12 y16 y25 y27) then some (.next ()) else none
def Aw2 (x0:Aa) (x1:Ad) (y4:Ad) (y6:(List Int)) (n0:Nat) (a0:Ap) (z0:Unit):Option (Ctl Unit Unit):=
 (getI a0.Am 0).bind λ y10=>(Aj9 x0 x1 y10).bind λ y12=>(getI a0.Am 0).bind λ y14=>(Aj8 x0 x1 y14).bind λ y16=>andThen (foldI (Aw1 x0 y4 a0 y12 y16) y6 0 ()) (λ _=>none) λ z1=>andThen (foldI (Aw0 y4 a0 y12 y16) y6 0 ()) (λ _=>none) λ z2=>some (.next ())
def A14 (x0:Aa) (x1:Ad):Option (Ad×(List Aw)×Int):=
 (F75 x0 x1).bind λ y1=>bif (y1 != 0) then none else (F76 x1).bind λ y4=>(A1y x0).bind λ y6=>(uG x0 x1).bind λ y8=>andThen (foldI (Aw2 x0 x1 y4 y6) y8 0 ()) (λ _=>none) λ z0=>some (y4,[],0)
def A2b (x0:Aa) (x1:Ad):Option (Ad×(List Aw)×Int):=
 (A15 x0 x1).bind λ y1=>bif (y1.2.2 != 0) then none else (A14 x0 y1.1).bind λ y4=>(appI 25 y1.2.1 y4.2.1).bind λ y6=>some (y4.1,y6,0)
def Aet (x0:As) (x1:Aw) (x2:Int):Option As:=
 (appI 41 [] x0.Bh).bind λ y1=>(appI 41 y1 [⟨x0.Time,x1,x2⟩]).bind λ y3=>some ⟨x0.Time,x0.Power,x0.Ba,y3⟩
def As0 (x0:Aa) (x1:As) (x2:Aw):Option (Ctl (Int×(List Bool)×(List Aj)×(List Int)×(List Ab)) Unit):=
 bif (x2.Kind != 7) then (Atm x0 x1.Power x1.Time x2).bind λ y5=>some (.next (y5.2,y5.1.Ai,y5.1.Ae,y5.1.An,y5.1.Al)) else none
def Asz (a1:Aw) (y12:Ad):Option (Ctl ((List Bool)×(List Int)) Unit):=
 bif (a1.Kind==2) then (getI y12.Ai a1.Unit).bind λ y15=>(setI y12.Ai a1.Unit false).bind λ y17=>some (.next (y17,y12.An)) else (getI y12.An a1.Unit).bind λ y19=>(setI y12.An a1.Unit a1.Value).bind λ y21=>some (.next (y12.Ai,y21))
def As1 (n1:Nat) (a1:Aw) (z1:Int×(List Bool)×(List Aj)×(List Int)×(List Ab)×(List A9)×(List Bu)×(List Ad)×(List Bool)×(List Aj)×(List Int)×(List Ab)):Option (Ctl (Int×(List Bool)×(List Aj)×(List Int)×(List Ab)×(List A9)×(List Bu)×(List Ad)×(List Bool)×(List Aj)×(List Int)×(List Ab)) Unit):=
 (F76 ⟨z1.2.2.2.2.2.2.2.2.1,z1.2.2.2.2.2.2.2.2.2.1,z1.2.2.2.2.2.2.2.2.2.2.1,z1.2.2.2.2.2.2.2.2.2.2.2⟩).bind λ y12=>andThen (Asz a1 y12) (λ _=>none) λ z2=>(appI 97 z1.2.2.2.2.2.2.2.1 [⟨z2.1,y12.Ae,z2.2,y12.Al⟩]).bind λ y23=>(Aet ⟨z1.1,⟨z1.2.1,z1.2.2.1,z1.2.2.2.1,z1.2.2.2.2.1⟩,z1.2.2.2.2.2.1,z1.2.2.2.2.2.2.1⟩ a1 0).bind λ y25=>some (.next (y25.Time,y25.Power.Ai,y25.Power.Ae,y25.Power.An,y25.Power.Al,y25.Ba,y25.Bh,y23,z2.1,y12.Ae,z2.2,y12.Al))
def Ajw (x0:Aa) (x1:As) (x2:Aw):Option (As×(List Ad)×Int):=
 (F75 x0 x1.Power).bind λ y1=>bif (y1 != 0) then none else andThen (As0 x0 x1 x2) (λ _=>none) λ z0=>(Aet x1 x2 z0.1).bind λ y7=>bif (z0.1 != 0) then none else (A2b x0 ⟨z0.2.1,z0.2.2.1,z0.2.2.2.1,z0.2.2.2.2⟩).bind λ y10=>andThen (foldI As1 y10.2.1 0 (y7.Time,y7.Power.Ai,y7.Power.Ae,y7.Power.An,y7.Power.Al,y7.Ba,y7.Bh,[⟨z0.2.1,z0.2.2.1,z0.2.2.2.1,z0.2.2.2.2⟩],z0.2.1,z0.2.2.1,z0.2.2.2.1,z0.2.2.2.2)) (λ _=>none) λ z1=>(F63 y10.1 ⟨z1.2.2.2.2.2.2.2.2.1,z1.2.2.2.2.2.2.2.2.2.1,z1.2.2.2.2.2.2.2.2.2.2.1,z1.2.2.2.2.2.2.2.2.2.2.2⟩).bind λ y27=>bif !y27 then none else some (⟨z1.1,y10.1,z1.2.2.2.2.2.1,z1.2.2.2.2.2.2.1⟩,z1.2.2.2.2.2.2.2.1,0)
def Az6 (x1:Bt) (y1:Ap×Bool):Bool:=(((!y1.2) || (!(Jy x1))) || (decide ((y1.1.Ae.length:Int)<2)))
def Az5 (x1:Bt) (y14:Int) (y16:Int) (y18:B1):Bool:=decide ((w64 (100*y14))<=(w64 (x1.Stop*(w64 (y16-y18.Rating)))))
def Awt (x0:Aa) (x1:Bt) (x2:Ad) (x3:Int) (y1:Ap×Bool) (z0:Int):Option (Ctl Int Unit):=
 bif decide (z0>=0) then (getI y1.1.Ae z0).bind λ y5=>(Xo x0 2 y5).bind λ y7=>(getI y7 0).bind λ y9=>(Hk x2 2 y9).bind λ y11=>bif y11 then none else (Aj9 x0 x2 x3).bind λ y14=>(Aj8 x0 x2 x3).bind λ y16=>(getI x0.Ae y5).bind λ y18=>bif (Az5 x1 y14 y16 y18) then none else some (.next (w64 (z0-1))) else some (.brk z0)
def A1v (x0:Aa) (x1:Bt) (x2:Ad) (x3:Int):Option (Int×Bool):=
 (Pi x0 x2 x3).bind λ y1=>bif (Az6 x1 y1) then none else andThen (whileN (Awt x0 x1 x2 x3 y1) 1152921504606846976 (w64 ((y1.1.Ae.length:Int)-1))) (λ _=>none) λ z0=>some (0,false)
def A1u (x0:Aa) (x1:Bt) (x2:Ad) (x3:Int):Option Bool:=
 (Ar [(Jy x1,true)] (F74 x0 x2 x3) default).bind λ y1=>(Ar [(((Jy x1)&&y1),true)] (Aj9 x0 x2 x3) default).bind λ y3=>(Ar [(((Jy x1)&&y1),true)] (Aj8 x0 x2 x3) default).bind λ y5=>some (((Jy x1)&&y1)&&(decide ((w64 (100*y3))>(w64 (x1.Start*y5)))))
def Ath (x0:Bool) (x1:Int) (x2:Int):Option Int:=
 bif !x0 then some (-1) else none
def Az4 (x1:Ad) (z0:Int):Bool:=decide (z0<(x1.Ae.length:Int))
def Az3 (y5:Aj) (y13:Int×Bool) (y15:Bool) (y17:Bool) (y19:Bool) (y21:Bool):Bool:=((((((y5.State==2)&&(!y13.2))&&(!y15))&&(!y17))&&(!y19))&&y21)
def Aws (x0:Aa) (x1:Ad) (y1:Ap×Bool) (z0:Int):Option (Ctl Int Unit):=
 bif (Az4 x1 z0) then (getI x1.Ae z0).bind λ y5=>(Xo x0 2 z0).bind λ y7=>(getI y7 0).bind λ y9=>(getI x0.Ah y9).bind λ y11=>(Xn x0 x1 z0).bind λ y13=>(Ar [(((y5.State==2)&&(!y13.2)),true)] (Hk x1 1 z0) default).bind λ y15=>(Ar [((((y5.State==2)&&(!y13.2))&&(!y15)),true)] (Hk x1 2 y9) default).bind λ y17=>(Ar [(((((y5.State==2)&&(!y13.2))&&(!y15))&&(!y17)),true)] (Hk x1 3 y11.A) default).bind λ y19=>(Ar [((((((y5.State==2)&&(!y13.2))&&(!y15))&&(!y17))&&(!y19)),true)] (Ph y1.1.Am y11.A) default).bind λ y21=>bif (Az3 y5 y13 y15 y17 y19 y21) then none else some (.next (w64 (z0+1))) else some (.brk z0)
def Az2 (x1:Ad) (z1:Int):Bool:=decide (z1<(x1.Ae.length:Int))
def Az1 (y25:Aj) (y33:Int×Bool) (y35:Bool) (y37:Bool) (y39:Bool) (y41:Bool):Bool:=((((((y25.State==1)&&(!y33.2))&&(!y35))&&(!y37))&&(!y39))&&y41)
def Awr (x0:Aa) (x1:Ad) (y1:Ap×Bool) (z1:Int):Option (Ctl Int Unit):=
 bif (Az2 x1 z1) then (getI x1.Ae z1).bind λ y25=>(Xo x0 2 z1).bind λ y27=>(getI y27 0).bind λ y29=>(getI x0.Ah y29).bind λ y31=>(Xn x0 x1 z1).bind λ y33=>(Ar [(((y25.State==1)&&(!y33.2)),true)] (Hk x1 1 z1) default).bind λ y35=>(Ar [((((y25.State==1)&&(!y33.2))&&(!y35)),true)] (Hk x1 2 y29) default).bind λ y37=>(Ar [(((((y25.State==1)&&(!y33.2))&&(!y35))&&(!y37)),true)] (Hk x1 3 y31.A) default).bind λ y39=>(Ar [((((((y25.State==1)&&(!y33.2))&&(!y35))&&(!y37))&&(!y39)),true)] (Ph y1.1.Am y31.A) default).bind λ y41=>bif (Az1 y25 y33 y35 y37 y39 y41) then none else some (.next (w64 (z1+1))) else some (.brk z1)
def Avz (x1:Ad) (z2:Int):Bool:=decide (z2<(x1.Ae.length:Int))
def Avy (y45:Aj) (y53:Int×Bool) (y55:Bool) (y57:Bool) (y59:Bool) (y61:Bool):Bool:=((((((y45.State==0)&&(!y53.2))&&(!y55))&&(!y57))&&(!y59))&&y61)
def Awq (x0:Aa) (x1:Ad) (y1:Ap×Bool) (z2:Int):Option (Ctl Int Unit):=
 bif (Avz x1 z2) then (getI x1.Ae z2).bind λ y45=>(Xo x0 2 z2).bind λ y47=>(getI y47 0).bind λ y49=>(getI x0.Ah y49).bind λ y51=>(Xn x0 x1 z2).bind λ y53=>(Ar [(((y45.State==0)&&(!y53.2)),true)] (Hk x1 1 z2) default).bind λ y55=>(Ar [((((y45.State==0)&&(!y53.2))&&(!y55)),true)] (Hk x1 2 y49) default).bind λ y57=>(Ar [(((((y45.State==0)&&(!y53.2))&&(!y55))&&(!y57)),true)] (Hk x1 3 y51.A) default).bind λ y59=>(Ar [((((((y45.State==0)&&(!y53.2))&&(!y55))&&(!y57))&&(!y59)),true)] (Ph y1.1.Am y51.A) default).bind λ y61=>bif (Avy y45 y53 y55 y57 y59 y61) then none else some (.next (w64 (z2+1))) else some (.brk z2)
def A1t (x0:Aa) (x1:Ad) (x2:Int):Option (Int×Bool):=
 (Pi x0 x1 x2).bind λ y1=>bif !y1.2 then none else andThen (whileN (Aws x0 x1 y1) 1152921504606846976 0) (λ _=>none) λ z0=>andThen (whileN (Awr x0 x1 y1) 1152921504606846976 0) (λ _=>none) λ z1=>andThen (whileN (Awq x0 x1 y1) 1152921504606846976 0) (λ _=>none) λ z2=>some (0,false)
def A0d (x1:Bt) (x4:Int) (x5:A9):Bool:=(((((((!(Jy x1)) || (decide (x4<0))) || (decide (x4>2147483648))) || (decide (x5.High<(-1)))) || (decide (x5.High>x4))) || (decide (x5.Low<(-1)))) || (decide (x5.Low>x4)))
def A0c (x0:Aa) (x3:Int):Bool:=((decide (x3<0)) || (decide (x3>=x0.Am)))
def A0b (x1:Bt) (x4:Int) (y10:Int) (y14:Int×Bool):Bool:=(((decide (y10>=0))&&(decide ((w64 (x4-y10))>=x1.Delay)))&&y14.2)
def A0a (x1:Bt) (x4:Int) (y12:Int):Bool:=((decide (y12>=0))&&(decide ((w64 (x4-y12))>=x1.Delay)))
def A12 (x0:Aa) (x1:Bt) (x2:Ad) (x3:Int) (x4:Int) (x5:A9):Option (A9×(List Aw)×Int):=
 (F75 x0 x2).bind λ y1=>bif (y1 != 0) then none else bif (A0d x1 x4 x5) then none else bif (A0c x0 x3) then none else (A1v x0 x1 x2 x3).bind λ y6=>(A1u x0 x1 x2 x3).bind λ y8=>(Ath y8 x5.High x4).bind λ y10=>(Ath y6.2 x5.Low x4).bind λ y12=>(A1t x0 x2 x3).bind λ y14=>bif (A0b x1 x4 y10 y14) then none else bif (A0a x1 x4 y12) then none else some (⟨y10,y12⟩,[],0)
def Ap0 (x0:Aa) (n0:Nat) (a0:Aw) (z0:Sg2):Option (Ctl (Sg2) Unit):=
 (Ajw x0 ⟨z0.1,⟨z0.2.1,z0.2.2.1,z0.2.2.2.1,z0.2.2.2.2.1⟩,z0.2.2.2.2.2.1,z0.2.2.2.2.2.2.2⟩ a0).bind λ y6=>(appI 97 z0.2.2.2.2.2.2.1 y6.2.1).bind λ y8=>some (.next (y6.1.Time,y6.1.Power.Ai,y6.1.Power.Ae,y6.1.Power.An,y6.1.Power.Al,y6.1.Ba,y8,y6.1.Bh))
def Apz (n1:Nat) (a1:A9) (z1:(List A9)):Option (Ctl ((List A9)) Unit):=
 (getI z1 (cnt 0 n1)).bind λ y12=>(setI z1 (cnt 0 n1) ⟨(-1),(-1)⟩).bind λ y14=>some (.next y14)
def Ar8 (a2:Ap) (y20:Bool):Bool:=(((a2.Ae.length:Int)==0) || (!y20))
def Apx (x0:Aa) (n3:Nat) (a3:Aw) (z3:Sg2):Option (Ctl (Sg2) Unit):=
 (Ajw x0 ⟨z3.1,⟨z3.2.1,z3.2.2.1,z3.2.2.2.1,z3.2.2.2.2.1⟩,z3.2.2.2.2.2.1,z3.2.2.2.2.2.2.2⟩ a3).bind λ y31=>(appI 97 z3.2.2.2.2.2.2.1 y31.2.1).bind λ y33=>some (.next (y31.1.Time,y31.1.Power.Ai,y31.1.Power.Ae,y31.1.Power.An,y31.1.Power.Al,y31.1.Ba,y33,y31.1.Bh))
def Apy (x0:Aa) (x1:Bt) (n2:Nat) (a2:Ap) (z2:Int×(List Bool)×(List Aj)×(List Int)×(List Ab)×(List A9)×(List Ad)×(List Bu)×(List A9)):Option (Ctl (Int×(List Bool)×(List Aj)×(List Int)×(List Ab)×(List A9)×(List Ad)×(List Bu)×(List A9)) Unit):=
 (getI a2.Am 0).bind λ y18=>(Ar [(((a2.Ae.length:Int)==0),false)] (F74 x0 ⟨z2.2.1,z2.2.2.1,z2.2.2.2.1,z2.2.2.2.2.1⟩ y18) default).bind λ y20=>bif (Ar8 a2 y20) then none else (getI z2.2.2.2.2.2.1 y18).bind λ y23=>(A12 x0 x1 ⟨z2.2.1,z2.2.2.1,z2.2.2.2.1,z2.2.2.2.2.1⟩ y18 z2.1 y23).bind λ y25=>(getI z2.2.2.2.2.2.2.2.2 y18).bind λ y27=>(setI z2.2.2.2.2.2.2.2.2 y18 y25.1).bind λ y29=>andThen (foldI (Apx x0) y25.2.1 0 (z2.1,z2.2.1,z2.2.2.1,z2.2.2.2.1,z2.2.2.2.2.1,z2.2.2.2.2.2.1,z2.2.2.2.2.2.2.1,z2.2.2.2.2.2.2.2.1)) (λ _=>none) λ z3=>some (.next (z3.1,z3.2.1,z3.2.2.1,z3.2.2.2.1,z3.2.2.2.2.1,z3.2.2.2.2.2.1,z3.2.2.2.2.2.2.1,z3.2.2.2.2.2.2.2,y29))
def Ap1 (x0:Aa) (x1:Bt) (x2:As) (x3:List Aw):Option (As×(List Bu)×(List Ad)×Int):=
 (F58 x0 x1 x2).bind λ y1=>bif (y1 != 0) then none else bif decide ((x3.length:Int)>200) then none else bif decide (x2.Time>=2147483648) then none else andThen (foldI (Ap0 x0) x3 0 (x2.Time,x2.Power.Ai,x2.Power.Ae,x2.Power.An,x2.Power.Al,x2.Ba,[x2.Power],[])) (λ _=>none) λ z0=>(mkI 17 x0.Am ⟨0,0⟩).bind λ y10=>andThen (foldI Apz y10 0 y10) (λ _=>none) λ z1=>(uG x0 ⟨z0.2.1,z0.2.2.1,z0.2.2.2.1,z0.2.2.2.2.1⟩).bind λ y16=>andThen (foldI (Apy x0 x1) y16 0 (z0.1,z0.2.1,z0.2.2.1,z0.2.2.2.1,z0.2.2.2.2.1,z0.2.2.2.2.2.1,z0.2.2.2.2.2.2.1,z0.2.2.2.2.2.2.2,z1)) (λ _=>none) λ z2=>(Atm x0 ⟨z2.2.1,z2.2.2.1,z2.2.2.2.1,z2.2.2.2.2.1⟩ z2.1 ⟨7,0,0⟩).bind λ y35=>(appI 97 z2.2.2.2.2.2.2.1 [y35.1]).bind λ y37=>(appI 41 [] x2.Bh).bind λ y39=>(appI 41 y39 z2.2.2.2.2.2.2.2.1).bind λ y41=>bif decide ((y41.length:Int)>200) then none else some (⟨w64 (z2.1+1),y35.1,z2.2.2.2.2.2.2.2.2,y41⟩,z2.2.2.2.2.2.2.2.1,y37,0)
def Aum (x0:Aa) (x1:Bt) (x2:As) (x3:List Aw):Option (As×(List Bu)×Int):=
 (Ap1 x0 x1 x2 x3).bind λ y1=>some (y1.1,y1.2.1,y1.2.2.2)
def F42:Option (Bb×As):=
 (F80 ⟨1,[⟨2,0,0⟩,⟨2,0,1⟩,⟨3,0,0⟩,⟨3,0,1⟩],[⟨100,0,0⟩,⟨100,0,0⟩],[⟨40,0,0,0,[]⟩,⟨40,0,0,1,[]⟩],1800,0⟩ ⟨100,1,9⟩).bind λ y1=>(Aum ⟨1,[⟨2,0,0⟩,⟨2,0,1⟩,⟨3,0,0⟩,⟨3,0,1⟩],[⟨100,0,0⟩,⟨100,0,0⟩],[⟨40,0,0,0,[]⟩,⟨40,0,0,1,[]⟩],1800,0⟩ ⟨100,1,9⟩ y1.1 [⟨3,0,0⟩,⟨3,1,0⟩,⟨1,0,0⟩,⟨1,1,0⟩,⟨1,2,0⟩,⟨1,3,0⟩]).bind λ y3=>some (⟨⟨⟨[],[],[]⟩,⟨[],[],[]⟩,⟨[],[],[]⟩,0,0,0,0⟩,⟨0,1,[⟨2,0,100,0,1,[]⟩,⟨2,0,100,0,1,[]⟩]⟩,⟨1,[⟨2,0,0⟩,⟨2,0,1⟩,⟨3,0,0⟩,⟨3,0,1⟩],[⟨100,0,0⟩,⟨100,0,0⟩],[⟨40,0,0,0,[]⟩,⟨40,0,0,1,[]⟩],1800,0⟩,⟨100,1,9⟩,⟨[⟨1,0⟩,⟨1,1⟩,⟨3,0⟩],[],[]⟩,[],⟨0,0,0,0,0,0,0,0,0⟩,⟨⟨0,0⟩,0⟩,0,⟨ByteArray.empty,0,⟨⟨0,0⟩,0,0⟩,0⟩,⟨[]⟩⟩,y3.1)
def Bl (x0:Int) (x1:Int) (x2:Int):Bool:=
 ((decide (x0>=x1))&&(decide (x0<=x2)))
def Awk (x1:Int) (n0:Nat) (a0:Int) (z0:Unit):Option (Ctl Unit Int):=
 bif (x1==a0) then some (.ret (cnt 0 n0)) else some (.next ())
def Atb (x0:List Int) (x1:Int):Option Int:=
 andThen (foldI (Awk x1) x0 0 ()) some λ z0=>some (-1)
def Ux (x0:List Int) (x1:Int):Option Bool:=
 (Atb x0 x1).bind λ y1=>some (decide (y1>=0))
def Atg (x0:List Int):Bool:=
 ((x0.length:Int)==0)
def Ao8 (n0:Nat) (a0:List Int) (z0:Unit):Option (Ctl Unit Int):=
 bif Atg a0 then some (.ret (cnt 0 n0)) else some (.next ())
def Ad0 (x0:List (List Int)):Option Int:=
 andThen (foldI Ao8 x0 0 ()) some λ z0=>some (-1)
def Zg (x0:List (List Int)):Option Bool:=
 (Ad0 x0).bind λ y1=>some (decide (y1>=0))
def Acs (x0:Aa) (a0:Ak):Bool:=((a0.Kind==1)&&(Bl a0.B (w64 (a0.A+1)) (w64 (x0.Am-1))))
def Acr (z0:(List Int)×(List (List Int))) (a0:Ak) (y7:Int):Bool:=(((a0.Kind==2)&&(Bl a0.B 0 (w64 ((z0.1.length:Int)-1))))&&(y7==0))
def And (z0:(List Int)×(List (List Int))) (a0:Ak) (y16:Bool):Bool:=(((a0.Kind==3)&&(Bl a0.B 0 (w64 ((z0.2.length:Int)-1))))&&(!y16))
def Ag5 (x0:Aa) (n0:Nat) (a0:Ak) (z0:(List Int)×(List (List Int))):Option (Ctl ((List Int)×(List (List Int))) Bool):=
 bif !(Bl a0.A 0 (w64 (x0.Am-1))) then some (.ret false) else bif (Acs x0 a0) then some (.next (z0.1,z0.2)) else (Ar [(((a0.Kind==2)&&(Bl a0.B 0 (w64 ((z0.1.length:Int)-1)))),true)] (getI z0.1 a0.B) default).bind λ y7=>bif (Acr z0 a0 y7) then (getI z0.1 a0.B).bind λ y10=>(setI z0.1 a0.B (w64 (y10+1))).bind λ y12=>some (.next (y12,z0.2)) else (Ar [(((a0.Kind==3)&&(Bl a0.B 0 (w64 ((z0.2.length:Int)-1)))),true)] (getI z0.2 a0.B) default).bind λ y14=>(Ar [(((a0.Kind==3)&&(Bl a0.B 0 (w64 ((z0.2.length:Int)-1)))),true)] (Ux y14 a0.A) default).bind λ y16=>bif (And z0 a0 y16) then (getI z0.2 a0.B).bind λ y19=>(appI 9 y19 [a0.A]).bind λ y21=>(setI z0.2 a0.B y21).bind λ y23=>some (.next (z0.1,y23)) else some (.ret false)
def Akd (x0:Aa):Option Bool:=
 (mkI 9 (x0.Ae.length:Int) 0).bind λ y1=>(mkI 25 (x0.Ag.length:Int) ([]:List Int)).bind λ y3=>andThen (foldI (Ag5 x0) x0.Ah 0 (y1,y3)) some λ z0=>(Ux z0.1 0).bind λ y27=>(Ar [(!y27,true)] (Zg z0.2) default).bind λ y29=>some ((!y27)&&(!y29))
def Aed (x0:B1):Bool:=
 (((Bl x0.Rating 1 50000)&&(Bl x0.Least 0 x0.Rating))&&(Bl x0.Start 0 600))
def Anc (x1:Int) (n0:Nat) (a0:Int) (y1:Int):Bool:=((!(Bl a0 0 (w64 (x1-1)))) || ((decide ((cnt 0 n0)>0))&&(decide (y1>=a0))))
def qZ (x0:A7) (x1:Int) (n0:Nat) (a0:Int) (z0:Unit):Option (Ctl Unit Bool):=
 (Ar [(!(Bl a0 0 (w64 (x1-1))),false),(decide ((cnt 0 n0)>0),true)] (getI x0.Needs (w64 ((cnt 0 n0)-1))) default).bind λ y1=>bif (Anc x1 n0 a0 y1) then some (.ret false) else some (.next ())
def Aec (x0:A7) (x1:Int):Option Bool:=
 andThen (foldI (qZ x0 x1) x0.Needs 0 ()) some λ z0=>some (((((Bl x0.Load 0 50000)&&(Bl x0.Least 0 x0.Load))&&(Bl x0.Bz 0 15))&&(Bl x0.Thruster (-1) 7))&&(decide ((x0.Needs.length:Int)<=4)))
def Anq (x0:Aa):Bool:=((((!(Bl x0.Am 1 6)) || (decide ((x0.Ah.length:Int)>24))) || (decide ((x0.Ae.length:Int)>8))) || (decide ((x0.Ag.length:Int)>16)))
def Aw7 (n0:Nat) (a0:B1) (z0:Bool):Option (Ctl Bool Unit):=
 some (.next (z0&&(Aed a0)))
def Ahn (n1:Nat) (a1:A7) (z1:Bool):Option (Ctl Bool Unit):=
 (Ar [(z1,true)] (Aec a1 (cnt 0 n1)) default).bind λ y4=>some (.next (z1&&y4))
def Aen (x0:Aa):Option Int:=
 bif (Anq x0) then some 2 else (Akd x0).bind λ y2=>andThen (foldI Aw7 x0.Ae 0 ((y2&&(Bl x0.Phase 0 1800))&&(Bl x0.Aq 0 6000))) (λ _=>none) λ z0=>andThen (foldI Ahn x0.Ag 0 z0) (λ _=>none) λ z1=>bif !z1 then some 14 else some 0
def Mj (x0:Aa) (x1:Int):Int:=
 bif (x1==1) then (x0.Ae.length:Int) else bif (x1==2) then (x0.Ah.length:Int) else bif (x1==3) then x0.Am else bif (x1==4) then (x0.Ag.length:Int) else 0
def Pg (x0:Int):Bool:=
 (x0 != x0)
def Io (x0:Int) (x1:Int):Int:=
 bif Pg x0 then bif Pg x1 then 0 else (-1) else bif Pg x1 then 1 else bif decide (x0<x1) then (-1) else bif decide (x0>x1) then 1 else 0
def Qj (n0:Nat) (a0:Int) (z0:Unit):Option (Ctl Unit Int):=
 bif (a0 != 0) then some (.ret a0) else some (.next ())
def U5 (x0:List Int):Option Int:=
 andThen (foldI Qj x0 0 ()) some λ z0=>some 0
def Anp (x0:Aa) (n0:Nat) (a0:Ab) (y5:Int):Bool:=((!(Bl a0.Number 0 (w64 ((Mj x0 a0.Kind)-1)))) || ((decide ((cnt 0 n0)>0))&&(decide (y5>=0))))
def uL (x0:Aa) (x1:List Ab) (n0:Nat) (a0:Ab) (z0:Unit):Option (Ctl Unit Bool):=
 (Ar [(!(Bl a0.Number 0 (w64 ((Mj x0 a0.Kind)-1))),false),(decide ((cnt 0 n0)>0),true)] (getI x1 (w64 ((cnt 0 n0)-1))) default).bind λ y1=>(Ar [(!(Bl a0.Number 0 (w64 ((Mj x0 a0.Kind)-1))),false),(decide ((cnt 0 n0)>0),true)] (getI x1 (w64 ((cnt 0 n0)-1))) default).bind λ y3=>(Ar [(!(Bl a0.Number 0 (w64 ((Mj x0 a0.Kind)-1))),false),(decide ((cnt 0 n0)>0),true)] (U5 [Io y1.Kind a0.Kind,Io y3.Number a0.Number]) default).bind λ y5=>bif (Anp x0 n0 a0 y5) then some (.ret false) else some (.next ())
def Akp (x0:Aa) (x1:List Ab):Option Bool:=
 andThen (foldI (uL x0 x1) x1 0 ()) some λ z0=>some (decide ((x1.length:Int)<=32))
def U3 (x0:Aj):Bool:=
 ((((Bl x0.State 0 3)&&(Bl x0.Since 0 2147483648))&&(Bl x0.Aq 0 6000))&&(Bl x0.Phase 0 3599))
def Atj (x0:Aj):Bool:=
 !(U3 x0)
def Apo (n0:Nat) (a0:Aj) (z0:Unit):Option (Ctl Unit Int):=
 bif Atj a0 then some (.ret (cnt 0 n0)) else some (.next ())
def Aeb (x0:List Aj):Option Int:=
 andThen (foldI Apo x0 0 ()) some λ z0=>some (-1)
def U4 (x0:List Aj):Option Bool:=
 (Aeb x0).bind λ y1=>some (decide (y1>=0))
def Ano (x2:Int) (a0:Ak) (y1:Bool):Bool:=(((a0.Kind==3)&&(a0.B==x2))&&y1)
def Ahm (x1:Ad) (x2:Int) (n0:Nat) (a0:Ak) (z0:Int):Option (Ctl Int Unit):=
 (Ar [(((a0.Kind==3)&&(a0.B==x2)),true)] (getI x1.Ai (cnt 0 n0)) default).bind λ y1=>bif (Ano x2 a0 y1) then some (.next (w64 (z0+1))) else some (.next z0)
def Ako (x0:Aa) (x1:Ad) (x2:Int):Option Int:=
 andThen (foldI (Ahm x1 x2) x0.Ah 0 0) (λ _=>none) λ z0=>some z0
def Ac2 (x0:Aa) (x1:Ad):Bool:=((((x1.Ai.length:Int) != (x0.Ah.length:Int)) || ((x1.Ae.length:Int) != (x0.Ae.length:Int))) || ((x1.An.length:Int) != (x0.Ag.length:Int)))
def Ahw (x0:Aa) (x1:Ad) (n0:Nat) (a0:Int) (z0:Bool):Option (Ctl Bool Unit):=
 (Ar [(z0,true)] (getI x0.Ag (cnt 0 n0)) default).bind λ y9=>(Ar [((z0&&(Bl a0 0 y9.Load)),true)] (Ako x0 x1 (cnt 0 n0)) default).bind λ y11=>some (.next ((z0&&(Bl a0 0 y9.Load))&&(decide (y11<=1))))
def Ja (x0:Aa) (x1:Ad):Option Int:=
 (Aen x0).bind λ y1=>bif (y1 != 0) then some y1 else bif (Ac2 x0 x1) then some 8 else (Akp x0 x1.Al).bind λ y5=>(Ar [(y5,true)] (U4 x1.Ae) default).bind λ y7=>andThen (foldI (Ahw x0 x1) x1.An 0 (y5&&(!y7))) (λ _=>none) λ z0=>bif !z0 then some 11 else some 0
def uZ (x0:List Bool):Option (List Bool):=appI 2 [] x0
def uY (x0:List Aj):Option (List Aj):=appI 33 [] x0
def Pj (x0:List Int):Option (List Int):=appI 9 [] x0
def R7 (x0:List Ab):Option (List Ab):=appI 17 [] x0
def Ml (x0:Ad):Option Ad:=
 (uZ x0.Ai).bind λ y1=>(uY x0.Ae).bind λ y3=>(Pj x0.An).bind λ y5=>(R7 x0.Al).bind λ y7=>some ⟨y1,y3,y5,y7⟩
def Ag7 (n0:Nat) (a0:Int) (z0:(List Int)):Option (Ctl ((List Int)) Unit):=
 (getI z0 (cnt 0 n0)).bind λ y3=>(setI z0 (cnt 0 n0) (cnt 0 n0)).bind λ y5=>some (.next y5)
def uD (x1:Ad) (n2:Nat) (a2:Ak) (z2:(List Int)):Option (Ctl ((List Int)) Unit):=
 (Ar [((a2.Kind==1),true)] (getI x1.Ai (cnt 0 n2)) default).bind λ y7=>bif ((a2.Kind==1)&&y7) then (getI z2 a2.A).bind λ y10=>(getI z2 a2.B).bind λ y12=>(setI z2 a2.A (min y10 y12)).bind λ y14=>(getI y14 a2.B).bind λ y16=>(setI y14 a2.B (min y10 y12)).bind λ y18=>some (.next y18) else some (.next z2)
def Ag6 (x0:Aa) (x1:Ad) (n1:Nat) (a1:Int) (z1:(List Int)):Option (Ctl ((List Int)) Unit):=
 andThen (foldI (uD x1) x0.Ah 0 z1) (λ _=>none) λ z2=>some (.next z2)
def Aei (x0:Aa) (x1:Ad):Option ((List Int)):=
 (mkI 9 x0.Am 0).bind λ y1=>andThen (foldI Ag7 y1 0 y1) (λ _=>none) λ z0=>andThen (foldI (Ag6 x0 x1) z0 0 z0) (λ _=>none) λ z1=>some z1
def Anb (x2:Int) (x3:Int) (a0:Ak) (y1:Bool):Bool:=(((a0.Kind==x2)&&(a0.B==x3))&&y1)
def qY (x1:Ad) (x2:Int) (x3:Int) (n0:Nat) (a0:Ak) (z0:Unit):Option (Ctl Unit (Int×Bool)):=
 (Ar [(((a0.Kind==x2)&&(a0.B==x3)),true)] (getI x1.Ai (cnt 0 n0)) default).bind λ y1=>bif (Anb x2 x3 a0 y1) then some (.ret (a0.A,true)) else some (.next ())
def Ad5 (x0:Aa) (x1:Ad) (x2:Int) (x3:Int):Option (Int×Bool):=
 andThen (foldI (qY x1 x2 x3) x0.Ah 0 ()) some λ z0=>some (0,false)
def Yu (x1:Ad) (x2:Int) (y1:Aj):Bool:=((!(Bl x2 0 (w64 ((x1.Ae.length:Int)-1)))) || (y1.State != 2))
def uC (x0:Aa) (x1:Ad) (x2:Int):Option (Int×Bool):=
 (Ar [(!(Bl x2 0 (w64 ((x1.Ae.length:Int)-1))),false)] (getI x1.Ae x2) default).bind λ y1=>bif (Yu x1 x2 y1) then some (0,false) else (Ad5 x0 x1 2 x2).bind λ y4=>some (y4.1,y4.2)
def uB (x0:Aa) (x1:Ad) (x2:Int):Option (Int×Bool):=
 (Ad5 x0 x1 3 x2).bind λ y1=>some (y1.1,y1.2)
def Ake (x0:Ap):Bool:=
 ((x0.Am.length:Int)==0)
def Api (n0:Nat) (a0:Ap) (z0:Unit):Option (Ctl Unit Int):=
 bif Ake a0 then some (.ret (cnt 0 n0)) else some (.next ())
def Zh (x0:List Ap):Option Int:=
 andThen (foldI Api x0 0 ()) some λ z0=>some (-1)
def Acu (z0:Int×Int×(List Ap)):Bool:=decide (z0.2.1<(z0.2.2.length:Int))
def U1 (z0:Int×Int×(List Ap)):Option (Ctl (Int×Int×(List Ap)) Unit):=
 bif (Acu z0) then (getI z0.2.2 z0.2.1).bind λ y5=>bif !(Ake y5) then (getI z0.2.2 z0.1).bind λ y8=>(setI z0.2.2 z0.1 y5).bind λ y10=>some (.next (w64 (z0.1+1),w64 (z0.2.1+1),y10)) else some (.next (z0.1,w64 (z0.2.1+1),z0.2.2)) else some (.brk (z0.1,z0.2.1,z0.2.2))
def Qi (x0:List Ap):Option ((List Ap)):=
 (Zh x0).bind λ y1=>bif (y1==(-1)) then some x0 else andThen (whileN U1 1152921504606846976 (y1,w64 (y1+1),x0)) (λ _=>none) λ z0=>(bndI z0.2.2.length z0.1 (z0.2.2.length:Int)).bind λ u13=>(bndI (Hg z0.2.2 (Int.toNat z0.1) ((Int.toNat (z0.2.2.length:Int))-(Int.toNat z0.1)) ⟨[],[],[]⟩).length 0 z0.1).bind λ u15=>some ((Hg z0.2.2 (Int.toNat z0.1) ((Int.toNat (z0.2.2.length:Int))-(Int.toNat z0.1)) ⟨[],[],[]⟩).take ((Int.toNat z0.1)-0))
def Ahq (n0:Nat) (a0:Int) (z0:(List Ap)):Option (Ctl ((List Ap)) Unit):=
 (getI z0 a0).bind λ y8=>(appI 9 y8.Am [cnt 0 n0]).bind λ y10=>(setI z0 a0 ⟨y10,y8.Ae,y8.Ag⟩).bind λ y12=>some (.next y12)
def Anu (x0:Aa) (z1:Int×(List Ap)):Bool:=decide (z1.1<(x0.Ae.length:Int))
def Ahp (x0:Aa) (x1:Ad) (y4:(List Int)) (z1:Int×(List Ap)):Option (Ctl (Int×(List Ap)) Unit):=
 bif (Anu x0 z1) then (uC x0 x1 z1.1).bind λ y15=>bif y15.2 then (getI y4 y15.1).bind λ y18=>(getI z1.2 y18).bind λ y20=>(appI 9 y20.Ae [z1.1]).bind λ y22=>(setI z1.2 y18 ⟨y20.Am,y22,y20.Ag⟩).bind λ y24=>some (.next (w64 (z1.1+1),y24)) else some (.next (w64 (z1.1+1),z1.2)) else some (.brk (z1.1,z1.2))
def Ant (x0:Aa) (z2:Int×(List Ap)):Bool:=decide (z2.1<(x0.Ag.length:Int))
def Aho (x0:Aa) (x1:Ad) (y4:(List Int)) (z2:Int×(List Ap)):Option (Ctl (Int×(List Ap)) Unit):=
 bif (Ant x0 z2) then (uB x0 x1 z2.1).bind λ y27=>bif y27.2 then (getI y4 y27.1).bind λ y30=>(getI z2.2 y30).bind λ y32=>(appI 9 y32.Ag [z2.1]).bind λ y34=>(setI z2.2 y30 ⟨y32.Am,y32.Ae,y34⟩).bind λ y36=>some (.next (w64 (z2.1+1),y36)) else some (.next (w64 (z2.1+1),z2.2)) else some (.brk (z2.1,z2.2))
def uV (x0:Aa) (x1:Ad):Option ((List Ap)):=
 (Ja x0 x1).bind λ y1=>bif (y1 != 0) then some [] else (Aei x0 x1).bind λ y4=>(mkI 73 x0.Am ⟨[],[],[]⟩).bind λ y6=>andThen (foldI Ahq y4 0 y6) (λ _=>none) λ z0=>andThen (whileN (Ahp x0 x1 y4) 1152921504606846976 (0,z0)) (λ _=>none) λ z1=>andThen (whileN (Aho x0 x1 y4) 1152921504606846976 (0,z1.2)) (λ _=>none) λ z2=>(Qi z2.2).bind λ y38=>some y38
def zK (x2:Aj) (n0:Nat) (a0:Int) (z0:(List Aj)):Option (Ctl ((List Aj)) Unit):=
 (getI z0 a0).bind λ y1=>(setI z0 a0 ⟨y1.State,y1.Since,x2.Aq,y1.Phase⟩).bind λ y3=>(getI y3 a0).bind λ y5=>(setI y3 a0 ⟨y5.State,y5.Since,y5.Aq,x2.Phase⟩).bind λ y7=>some (.next y7)
def Qk (x0:Ad) (x1:List Int) (x2:Aj):Option ((List Aj)):=
 andThen (foldI (zK x2) x1 0 x0.Ae) (λ _=>none) λ z0=>some z0
def At5 (a0:Ap):Bool:=decide ((a0.Ae.length:Int)>0)
def Aob (x1:Ad) (y4:Ad) (n0:Nat) (a0:Ap) (z0:(List Aj)):Option (Ctl ((List Aj)) Unit):=
 bif (At5 a0) then (getI a0.Ae 0).bind λ y9=>(getI x1.Ae y9).bind λ y11=>(Qk ⟨y4.Ai,z0,y4.An,y4.Al⟩ a0.Ae y11).bind λ y13=>some (.next y13) else some (.next z0)
def F96 (x0:Aa) (x1:Ad):Option (Ad×Int):=
 (Ja x0 x1).bind λ y1=>bif (y1 != 0) then some (⟨[],[],[],[]⟩,y1) else (Ml x1).bind λ y4=>(uV x0 x1).bind λ y6=>andThen (foldI (Aob x1 y4) y6 0 y4.Ae) (λ _=>none) λ z0=>some (⟨y4.Ai,z0,y4.An,y4.Al⟩,0)
def F98 (x0:Bt):Bool:=
 ((((((decide (x0.Stop>=1))&&(decide (x0.Stop<=99)))&&(decide (x0.Start>x0.Stop)))&&(decide (x0.Start<=100)))&&(decide (x0.Delay>=0)))&&(decide (x0.Delay<=600)))
def uT (x1:List Bool) (n0:Nat) (a0:Bool) (z0:Unit):Option (Ctl Unit Bool):=
 (getI x1 (cnt 0 n0)).bind λ y2=>bif !(a0==y2) then some (.ret false) else some (.next ())
def uU (x0:List Bool) (x1:List Bool):Option Bool:=
 bif ((x0.length:Int) != (x1.length:Int)) then some false else andThen (foldI (uT x1) x0 0 ()) some λ z0=>some true
def Ans (a0:Aj) (y2:Aj):Bool:=!((a0.State==y2.State)&&((a0.Since==y2.Since)&&((a0.Aq==y2.Aq)&&((a0.Phase==y2.Phase)&&true))))
def uR (x1:List Aj) (n0:Nat) (a0:Aj) (z0:Unit):Option (Ctl Unit Bool):=
 (getI x1 (cnt 0 n0)).bind λ y2=>bif (Ans a0 y2) then some (.ret false) else some (.next ())
def uS (x0:List Aj) (x1:List Aj):Option Bool:=
 bif ((x0.length:Int) != (x1.length:Int)) then some false else andThen (foldI (uR x1) x0 0 ()) some λ z0=>some true
def uP (x1:List Int) (n0:Nat) (a0:Int) (z0:Unit):Option (Ctl Unit Bool):=
 (getI x1 (cnt 0 n0)).bind λ y2=>bif (a0 != y2) then some (.ret false) else some (.next ())
def uQ (x0:List Int) (x1:List Int):Option Bool:=
 bif ((x0.length:Int) != (x1.length:Int)) then some false else andThen (foldI (uP x1) x0 0 ()) some λ z0=>some true
def Anr (a0:Ab) (y2:Ab):Bool:=!((a0.Kind==y2.Kind)&&((a0.Number==y2.Number)&&true))
def uN (x1:List Ab) (n0:Nat) (a0:Ab) (z0:Unit):Option (Ctl Unit Bool):=
 (getI x1 (cnt 0 n0)).bind λ y2=>bif (Anr a0 y2) then some (.ret false) else some (.next ())
def uO (x0:List Ab) (x1:List Ab):Option Bool:=
 bif ((x0.length:Int) != (x1.length:Int)) then some false else andThen (foldI (uN x1) x0 0 ()) some λ z0=>some true
def F99 (x0:Ad) (x1:Ad):Option Bool:=
 (uU x0.Ai x1.Ai).bind λ y1=>(Ar [(y1,true)] (uS x0.Ae x1.Ae) default).bind λ y3=>(Ar [((y1&&y3),true)] (uQ x0.An x1.An) default).bind λ y5=>(Ar [(((y1&&y3)&&y5),true)] (uO x0.Al x1.Al) default).bind λ y7=>some (((y1&&y3)&&y5)&&y7)
def Y1 (x0:Int) (x1:As):Bool:=
 ((decide (x0>=(-1)))&&(decide (x0<=x1.Time)))
def Gh (x0:A9) (x1c0:As):Bool×As:=
 (((!(Y1 x0.High x1c0)) || (!(Y1 x0.Low x1c0))),x1c0)
def Acw (z0:Sg1) (a0:A9):Bool:=(Gh a0 (⟨z0.1,(⟨z0.2.1,z0.2.2.1,z0.2.2.2.1,z0.2.2.2.2.1⟩:Ad),z0.2.2.2.2.2.1,z0.2.2.2.2.2.2⟩:As)).1
def zJ (n0:Nat) (a0:A9) (z0:Sg1):Option (Ctl (Sg1) (Int×As)):=
 bif (Acw z0 a0) then some (.ret (cnt 0 n0,⟨((Gh a0 ⟨z0.1,⟨z0.2.1,z0.2.2.1,z0.2.2.2.1,z0.2.2.2.2.1⟩,z0.2.2.2.2.2.1,z0.2.2.2.2.2.2⟩).2).Time,(((Gh a0 ⟨z0.1,⟨z0.2.1,z0.2.2.1,z0.2.2.2.1,z0.2.2.2.2.1⟩,z0.2.2.2.2.2.1,z0.2.2.2.2.2.2⟩).2).Power),((Gh a0 ⟨z0.1,⟨z0.2.1,z0.2.2.1,z0.2.2.2.1,z0.2.2.2.2.1⟩,z0.2.2.2.2.2.1,z0.2.2.2.2.2.2⟩).2).Ba,((Gh a0 ⟨z0.1,⟨z0.2.1,z0.2.2.1,z0.2.2.2.1,z0.2.2.2.2.1⟩,z0.2.2.2.2.2.1,z0.2.2.2.2.2.2⟩).2).Bh⟩)) else some (.next (((Gh a0 ⟨z0.1,⟨z0.2.1,z0.2.2.1,z0.2.2.2.1,z0.2.2.2.2.1⟩,z0.2.2.2.2.2.1,z0.2.2.2.2.2.2⟩).2).Time,(((Gh a0 ⟨z0.1,⟨z0.2.1,z0.2.2.1,z0.2.2.2.1,z0.2.2.2.2.1⟩,z0.2.2.2.2.2.1,z0.2.2.2.2.2.2⟩).2).Power).Ai,(((Gh a0 ⟨z0.1,⟨z0.2.1,z0.2.2.1,z0.2.2.2.1,z0.2.2.2.2.1⟩,z0.2.2.2.2.2.1,z0.2.2.2.2.2.2⟩).2).Power).Ae,(((Gh a0 ⟨z0.1,⟨z0.2.1,z0.2.2.1,z0.2.2.2.1,z0.2.2.2.2.1⟩,z0.2.2.2.2.2.1,z0.2.2.2.2.2.2⟩).2).Power).An,(((Gh a0 ⟨z0.1,⟨z0.2.1,z0.2.2.1,z0.2.2.2.1,z0.2.2.2.2.1⟩,z0.2.2.2.2.2.1,z0.2.2.2.2.2.2⟩).2).Power).Al,((Gh a0 ⟨z0.1,⟨z0.2.1,z0.2.2.1,z0.2.2.2.1,z0.2.2.2.2.1⟩,z0.2.2.2.2.2.1,z0.2.2.2.2.2.2⟩).2).Ba,((Gh a0 ⟨z0.1,⟨z0.2.1,z0.2.2.1,z0.2.2.2.1,z0.2.2.2.2.1⟩,z0.2.2.2.2.2.1,z0.2.2.2.2.2.2⟩).2).Bh))
def Aer (x0:List A9) (x1c0c0:As):Option (Int×As):=
 andThen (foldI zJ x0 0 (x1c0c0.Time,x1c0c0.Power.Ai,x1c0c0.Power.Ae,x1c0c0.Power.An,x1c0c0.Power.Al,x1c0c0.Ba,x1c0c0.Bh)) some λ z0=>some ((-1),⟨z0.1,⟨z0.2.1,z0.2.2.1,z0.2.2.2.1,z0.2.2.2.2.1⟩,z0.2.2.2.2.2.1,z0.2.2.2.2.2.2⟩)
def Zv (x0:List A9) (x1c0c0:As):Option (Bool×As):=
 (Aer x0 x1c0c0).bind λ y1=>some (decide (y1.1>=0),y1.2)
def Auf (x1:Bt) (x2:As):Bool:=(((!(F98 x1)) || (decide (x2.Time<0))) || (decide (x2.Time>2147483648)))
def F49 (x0:Aa) (x1:Bt) (x2:As):Option Int:=
 (F96 x0 x2.Power).bind λ y1=>bif (y1.2 != 0) then some y1.2 else bif (Auf x1 x2) then some 1 else bif ((x2.Ba.length:Int) != x0.Am) then some 8 else (F99 x2.Power y1.1).bind λ y6=>(Ar [(!y6,false)] (Zv x2.Ba x2) (default,x2)).bind λ y8=>bif ((!y6) || y8.1) then some 11 else some 0
def Aeq (x0:Ab):Bool:=
 ((((decide (x0.Kind>=1))&&(decide (x0.Kind<=9)))&&(decide (x0.Number>=0)))&&(decide (x0.Number<=63)))
def uM (x0:Ab):Bool:=
 !(Aeq x0)
def App (n0:Nat) (a0:Ab) (z0:Unit):Option (Ctl Unit Int):=
 bif uM a0 then some (.ret (cnt 0 n0)) else some (.next ())
def Aeh (x0:List Ab):Option Int:=
 andThen (foldI App x0 0 ()) some λ z0=>some (-1)
def Zq (x0:List Ab):Option Bool:=
 (Aeh x0).bind λ y1=>some (decide (y1>=0))
def Mm (x0:Ab) (x1:Ab):Option Int:=
 (U5 [Io x0.Kind x1.Kind,Io x0.Number x1.Number]).bind λ y1=>some y1
def zI (x0:List Ab) (z0:Int):Option (Ctl Int Bool):=
 bif decide (z0<(x0.length:Int)) then (getI x0 (w64 (z0-1))).bind λ y2=>(getI x0 z0).bind λ y4=>(Mm y2 y4).bind λ y6=>bif decide (y6>=0) then some (.ret false) else some (.next (w64 (z0+1))) else some (.brk z0)
def U6 (x0:List Ab):Option Bool:=
 andThen (whileN (zI x0) 1152921504606846976 1) some λ z0=>some true
def Aky (x0:List Ab):Option Bool:=
 (Zq x0).bind λ y1=>(Ar [(!y1,true)] (U6 x0) default).bind λ y3=>some ((!y1)&&y3)
def A0i (x1:Ab) (a0:Ab):Bool:=((x1.Kind==a0.Kind)&&((x1.Number==a0.Number)&&true))
def Aw8 (x1:Ab) (n0:Nat) (a0:Ab) (z0:Unit):Option (Ctl Unit Int):=
 bif (A0i x1 a0) then some (.ret (cnt 0 n0)) else some (.next ())
def Akq (x0:List Ab) (x1:Ab):Option Int:=
 andThen (foldI (Aw8 x1) x0 0 ()) some λ z0=>some (-1)
def Aew (x0:List Ab) (x1:Ab):Option Bool:=
 (Akq x0 x1).bind λ y1=>some (decide (y1>=0))
def F53 (x0:List Ab) (x1:Ab):Option Bool:=
 (Aew x0 x1).bind λ y1=>some y1
def Akr (x0:A6) (x1:A6):Option Int:=
 (Mm x0.From x1.From).bind λ y1=>(Mm x0.To x1.To).bind λ y3=>(U5 [y1,y3]).bind λ y5=>some y5
def zH (x0:List A6) (z0:Int):Option (Ctl Int Bool):=
 bif decide (z0<(x0.length:Int)) then (getI x0 (w64 (z0-1))).bind λ y2=>(getI x0 z0).bind λ y4=>(Akr y2 y4).bind λ y6=>bif decide (y6>=0) then some (.ret false) else some (.next (w64 (z0+1))) else some (.brk z0)
def Zo (x0:List A6):Option Bool:=
 andThen (whileN (zH x0) 1152921504606846976 1) some λ z0=>some true
def An1 (a0:A6) (y1:Bool) (y3:Bool):Bool:=(((!y1) || (!y3)) || ((a0.From.Kind==a0.To.Kind)&&((a0.From.Number==a0.To.Number)&&true)))
def Ahy (x0:A4) (n0:Nat) (a0:A6) (z0:Unit):Option (Ctl Unit Bool):=
 (F53 x0.Parts a0.From).bind λ y1=>(Ar [(!y1,false)] (F53 x0.Parts a0.To) default).bind λ y3=>bif (An1 a0 y1 y3) then some (.ret false) else some (.next ())
def Akx (x0:A4):Option Bool:=
 andThen (foldI (Ahy x0) x0.Links 0 ()) some λ z0=>(Zo x0.Links).bind λ y6=>some y6
def A0k (x0:ByteArray):Bool:=((decide ((x0.size:Int)<1)) || (decide ((x0.size:Int)>12)))
def A0j (n0:Nat) (a0:Int):Bool:=((!((decide (a0>=97))&&(decide (a0<=122))))&&(((cnt 0 n0)==0) || ((a0 != 45)&&((decide (a0<48)) || (decide (a0>57))))))
def Aw9 (n0:Nat) (a0:Int) (z0:Unit):Option (Ctl Unit Bool):=
 bif (A0j n0 a0) then some (.ret false) else some (.next ())
def Atk (x0:ByteArray):Option Bool:=
 bif (A0k x0) then some false else (Ac3 x0).bind λ y2=>andThen (foldI Aw9 y2 0 ()) some λ z0=>some true
def Aep (x0:Bn) (x1:Bn):Bool:=
 (x0.Name.toList==x1.Name.toList)
def zF (x1c0:Bn) (n0:Nat) (a0:Bn) (z0:Unit):Option (Ctl Unit (Int×Bn)):=
 bif Aep a0 x1c0 then some (.ret (cnt 0 n0,x1c0)) else some (.next ())
def Aef (x0:List Bn) (x1c0:Bn):Option (Int×Bn):=
 andThen (foldI (zF x1c0) x0 0 ()) some λ z0=>some ((-1),x1c0)
def Zn (x0:List Bn) (x1c0:Bn):Option (Bool×Bn):=
 (Aef x0 x1c0).bind λ y1=>some (decide (y1.1>=0),y1.2)
def Aeo (x0:Ab) (x1:A4):Option Bool:=
 (F53 x1.Parts x0).bind λ y1=>some (!y1)
def zG (x1c0:A4) (n0:Nat) (a0:Ab) (z0:Unit):Option (Ctl Unit (Int×A4)):=
 (Aeo a0 x1c0).bind λ y1=>bif y1 then some (.ret (cnt 0 n0,x1c0)) else some (.next ())
def Aeg (x0:List Ab) (x1c0:A4):Option (Int×A4):=
 andThen (foldI (zG x1c0) x0 0 ()) some λ z0=>some ((-1),x1c0)
def Zp (x0:List Ab) (x1c0:A4):Option (Bool×A4):=
 (Aeg x0 x1c0).bind λ y1=>some (decide (y1.1>=0),y1.2)
def An0 (y1:Bool) (y5:Bool×Bn) (y7:Bool×A4) (y9:Bool):Bool:=(((((!y1) || y5.1) || ((y5.2.Parts.length:Int)==0)) || y7.1) || (!y9))
def Ahx (n0:Nat) (a0:Bn) (z0:(List Ab)×(List A6)×(List Bn)):Option (Ctl ((List Ab)×(List A6)×(List Bn)) Bool):=
 (Atk a0.Name).bind λ y1=>(Ar [(!y1,false)] (cutI z0.2.2 0 (cnt 0 n0)) default).bind λ y4=>(Ar [(!y1,false)] (Zn y4 a0) (default,a0)).bind λ y5=>(Ar [((((!y1) || y5.1) || ((y5.2.Parts.length:Int)==0)),false)] (Zp y5.2.Parts ⟨z0.1,z0.2.1,z0.2.2⟩) (default,⟨z0.1,z0.2.1,z0.2.2⟩)).bind λ y7=>(Ar [(((((!y1) || y5.1) || ((y5.2.Parts.length:Int)==0)) || y7.1),false)] (U6 y5.2.Parts) default).bind λ y9=>bif (An0 y1 y5 y7 y9) then some (.ret false) else some (.next (y7.2.Parts,y7.2.Links,y7.2.Groups))
def Akw (x0:A4):Option Bool:=
 andThen (foldI Ahx x0.Groups 0 (x0.Parts,x0.Links,x0.Groups)) some λ z0=>some true
def Ajl (x0:A4):Bool:=(((decide ((x0.Parts.length:Int)>40)) || (decide ((x0.Links.length:Int)>60))) || (decide ((x0.Groups.length:Int)>6)))
def F50 (x0:A4):Option Int:=
 bif (Ajl x0) then some 2 else (Aky x0.Parts).bind λ y2=>(Ar [(!y2,false)] (Akx x0) default).bind λ y4=>(Ar [(((!y2) || (!y4)),false)] (Akw x0) default).bind λ y6=>bif (((!y2) || (!y4)) || (!y6)) then some 63 else some 0
def F52 (x0:List (List Ab)):Option (List Ab):=Vv 16 x0
def F51 (x0:A4) (x1:List Ab):Option (List Ab):=Yf F50 R7 x0 x1
def vB (x0:List A9):Option (List A9):=appI 17 [] x0
def vA (x0:List Bu):Option (List Bu):=appI 41 [] x0
def Akv (x0:Aa) (x1:As):Option Cm:=
 (Ml x1.Power).bind λ y1=>(vB x1.Ba).bind λ y3=>(vA x1.Bh).bind λ y5=>some ⟨⟨x1.Time,y1,y3,y5⟩,x0,[],[]⟩
def Hy (x0:Aa) (x1:Int) (x2:Int):Bool:=
 bif (x1==1) then ((decide (x2>=0))&&(decide (x2<(x0.Ae.length:Int)))) else bif (x1==2) then ((decide (x2>=0))&&(decide (x2<(x0.Ah.length:Int)))) else bif (x1==3) then ((decide (x2>=0))&&(decide (x2<x0.Am))) else bif (x1==4) then ((decide (x2>=0))&&(decide (x2<(x0.Ag.length:Int)))) else ((decide (x2>=0))&&(decide (x2<0)))
def Ag4 (x1:Aw):Option (Ctl Bool Unit):=
 bif (x1.Kind==1) then some (.next (x1.Kind==1)) else some (.next (x1.Kind==2))
def Ag3 (x1:Aw):Option (Ctl Bool Unit):=
 bif (x1.Kind==3) then some (.next (x1.Kind==3)) else some (.next (x1.Kind==4))
def Akc (x0:Aa) (x1:Aw):Option Bool:=
 andThen (Ag4 x1) (λ _=>none) λ z0=>bif z0 then some (Hy x0 2 x1.Unit) else andThen (Ag3 x1) (λ _=>none) λ z1=>bif z1 then some (Hy x0 1 x1.Unit) else bif (x1.Kind==5) then some (Hy x0 4 x1.Unit) else bif (x1.Kind==6) then some ((Hy x0 1 x1.Unit)&&(Hy x0 3 x1.Value)) else bif (x1.Kind==8) then some (Hy x0 x1.Value x1.Unit) else bif (x1.Kind==9) then some (Hy x0 x1.Value x1.Unit) else some true
def Mk (x0:Ad) (x1:Int) (x2:Int):Option Bool:=
 (Aew x0.Al ⟨x1,x2⟩).bind λ y1=>some y1
def Aem (x0:Aa) (x1:Ad) (x2:Int):Option (Int×Bool):=
 (Ja x0 x1).bind λ y1=>bif (y1 != 0) then some (0,false) else (uB x0 x1 x2).bind λ y4=>some (y4.1,y4.2)
def Aj1 (x0:Aa) (x1:Ad) (x2:Int):Option Bool:=
 (getI x0.Ah x2).bind λ y1=>(getI x1.Ai x2).bind λ y3=>(Ar [(y3,false)] (Mk x1 2 x2) default).bind λ y5=>(Ar [((y3 || y5),false)] (Mk x1 3 y1.A) default).bind λ y7=>bif ((y3 || y5) || y7) then some false else bif (y1.Kind==1) then (Mk x1 3 y1.B).bind λ y11=>some (!y11) else bif (y1.Kind==2) then (Mk x1 1 y1.B).bind λ y14=>(Ar [(!y14,true)] (getI x1.Ae y1.B) default).bind λ y16=>some ((!y14)&&(y16.State==2)) else (Aem x0 x1 y1.B).bind λ y18=>(Mk x1 4 y1.B).bind λ y20=>some ((!y20)&&(!y18.2))
def Qh (x2:Int) (n0:Nat) (a0:Ap) (z0:Unit):Option (Ctl Unit (Ap×Bool)):=
 (Ux a0.Am x2).bind λ y3=>bif y3 then some (.ret (a0,true)) else some (.next ())
def Jv (x0:Aa) (x1:Ad) (x2:Int):Option (Ap×Bool):=
 (uV x0 x1).bind λ y1=>andThen (foldI (Qh x2) y1 0 ()) some λ z0=>some (⟨[],[],[]⟩,false)
def qW (x0:Aa) (x1:Ad) (x2:Int):Option (Int×Bool):=
 (Jv x0 x1 x2).bind λ y1=>bif ((y1.1.Ae.length:Int)==0) then some (0,false) else (getI y1.1.Ae 0).bind λ y4=>some (y4,true)
def E0 (x0:Int):Int:=
 bif decide ((Int.tmod x0 3600)<0) then w64 ((Int.tmod x0 3600)+3600) else Int.tmod x0 3600
def Azp (x0:Int) (x1:Int):Bool:=decide ((E0 (w64 ((E0 x1)-(E0 x0))))>1800)
def Ajy (x0:Int) (x1:Int):Int:=
 bif (Azp x0 x1) then w64 ((E0 (w64 ((E0 x1)-(E0 x0))))-3600) else E0 (w64 ((E0 x1)-(E0 x0)))
def Azr (x1:Aj) (x2:Aj):Bool:=((decide ((min x1.Aq x2.Aq)<0)) || (decide ((max x1.Aq x2.Aq)>6000)))
def Adv (x0:Aa) (x1:Aj) (x2:Aj):Bool:=
 bif (Azr x1 x2) then false else ((decide ((max (w64 (x1.Aq-x2.Aq)) (w64 (x2.Aq-x1.Aq)))<=x0.Aq))&&(decide ((max (Ajy x1.Phase x2.Phase) (w64 (0-Ajy x1.Phase x2.Phase)))<=x0.Phase)))
def Aj0 (x0:Aa) (x1:Ad) (x2:Ak):Option Bool:=
 (qW x0 x1 x2.A).bind λ y1=>bif !y1.2 then some true else bif (x2.Kind==1) then (qW x0 x1 x2.B).bind λ y5=>(Ar [(!y5.2,false)] (getI x1.Ae y1.1) default).bind λ y7=>(Ar [(!y5.2,false)] (getI x1.Ae y5.1) default).bind λ y9=>some ((!y5.2) || (Adv x0 y7 y9)) else bif (x2.Kind==2) then (getI x1.Ae y1.1).bind λ y12=>(getI x1.Ae x2.B).bind λ y14=>some (Adv x0 y12 y14) else some true
def Am7 (x0:Aa) (x2:Int):Bool:=((decide (x2<0)) || (decide (x2>=(x0.Ah.length:Int))))
def Aj3 (x0:Aa) (x1:Ad) (x2:Int):Option Int:=
 (Ja x0 x1).bind λ y1=>bif (y1 != 0) then some y1 else bif (Am7 x0 x2) then some 10 else (Aj1 x0 x1 x2).bind λ y5=>bif !y5 then some 11 else (getI x0.Ah x2).bind λ y8=>(Jv x0 x1 y8.A).bind λ y10=>(Ar [((y8.Kind==1),true)] (Ux y10.1.Am y8.B) default).bind λ y12=>(Ar [(!((y8.Kind==1)&&y12),true)] (Aj0 x0 x1 y8) default).bind λ y14=>bif ((!((y8.Kind==1)&&y12))&&(!y14)) then some 12 else some 0
def Aj7 (x0:Aa) (x1:Ad) (x2:Int):Option (Ad×Int):=
 (Aj3 x0 x1 x2).bind λ y1=>bif (y1 != 0) then some (⟨[],[],[],[]⟩,y1) else (Ml x1).bind λ y4=>(getI y4.Ai x2).bind λ y6=>(setI y4.Ai x2 true).bind λ y8=>(F96 x0 ⟨y8,y4.Ae,y4.An,y4.Al⟩).bind λ y10=>some (y10.1,y10.2)
def Ana (x0:Aa) (x2:Int):Bool:=((decide (x2<0)) || (decide (x2>=(x0.Ah.length:Int))))
def Aj6 (x0:Aa) (x1:Ad) (x2:Int):Option (Ad×Int):=
 (Ja x0 x1).bind λ y1=>bif (y1 != 0) then some (⟨[],[],[],[]⟩,y1) else bif (Ana x0 x2) then some (⟨[],[],[],[]⟩,10) else (getI x1.Ai x2).bind λ y5=>(Ar [(!y5,false)] (Mk x1 2 x2) default).bind λ y7=>bif ((!y5) || y7) then some (⟨[],[],[],[]⟩,11) else (Ml x1).bind λ y10=>(getI y10.Ai x2).bind λ y12=>(setI y10.Ai x2 false).bind λ y14=>some (⟨y14,y10.Ae,y10.An,y10.Al⟩,0)
def Ata (x0:Aa) (x1:Ad) (x2:Int):Option (Int×Bool):=
 (Ja x0 x1).bind λ y1=>bif (y1 != 0) then some (0,false) else (uC x0 x1 x2).bind λ y4=>some (y4.1,y4.2)
def Am9 (x0:Aa) (x2:Int) (x3:Int):Bool:=((((decide (x2<0)) || (decide (x2>=(x0.Ae.length:Int)))) || (decide (x3<0))) || (decide (x3>=x0.Am)))
def Aj5 (x0:Aa) (x1:Ad) (x2:Int) (x3:Int):Option (Ad×Int):=
 (Ja x0 x1).bind λ y1=>bif (y1 != 0) then some (⟨[],[],[],[]⟩,y1) else bif (Am9 x0 x2 x3) then some (⟨[],[],[],[]⟩,10) else (qW x0 x1 x3).bind λ y5=>(Ar [(!y5.2,false)] (getI x1.Ae x2) default).bind λ y7=>bif ((!y5.2) || (y7.State != 2)) then some (⟨[],[],[],[]⟩,11) else (Ml x1).bind λ y10=>(Ata x0 x1 x2).bind λ y12=>bif y12.2 then (Jv x0 x1 y12.1).bind λ y15=>(getI x1.Ae y5.1).bind λ y17=>(Qk y10 y15.1.Ae y17).bind λ y19=>some (⟨y10.Ai,y19,y10.An,y10.Al⟩,0) else (getI x1.Ae y5.1).bind λ y21=>(Qk y10 [x2] y21).bind λ y23=>some (⟨y10.Ai,y23,y10.An,y10.Al⟩,0)
def Adt (x0:Ak) (x1:Int):Bool:=
 ((x0.Kind==2)&&(x0.B==x1))
def Uk (x1c0:Int) (n0:Nat) (a0:Ak) (z0:Unit):Option (Ctl Unit (Int×Int)):=
 bif Adt a0 x1c0 then some (.ret (cnt 0 n0,x1c0)) else some (.next ())
def Adu (x0:List Ak) (x1c0:Int):Option (Int×Int):=
 andThen (foldI (Uk x1c0) x0 0 ()) some λ z0=>some ((-1),x1c0)
def Ajz (x0:Aa) (x1:Int):Option Int:=
 (Adu x0.Ah x1).bind λ y1=>some y1.1
def Qg (x0:Bc) (x1:Int):Option Bool:=
 (Ajz x0.Ao x1).bind λ y1=>(getI x0.Au.Ai y1).bind λ y3=>some (!y3)
def Zf (x0:Bc) (x1:Int):Option (Int×Bc):=
 (getI x0.Au.Ae x1).bind λ y1=>(Ar [((y1.State != 0),false)] (Mk x0.Au 1 x1) default).bind λ y3=>bif ((y1.State != 0) || y3) then some (11,x0) else (getI x0.Ao.Ae x1).bind λ y6=>(Ar [((y6.Start==0),true)] (Qg x0 x1) default).bind λ y8=>bif ((y6.Start==0)&&y8) then (setI x0.Au.Ae x1 ⟨2,x0.time,5000,0⟩).bind λ y11=>some (0,⟨x0.Ao,⟨x0.Au.Ai,y11,x0.Au.An,x0.Au.Al⟩,x0.time⟩) else (setI x0.Au.Ae x1 ⟨1,x0.time,5000,0⟩).bind λ y13=>some (0,⟨x0.Ao,⟨x0.Au.Ai,y13,x0.Au.An,x0.Au.Al⟩,x0.time⟩)
def Ar5 (y1:Aj) (y3:Bool):Bool:=(((y1.State != 1)&&(y1.State != 2)) || (!y3))
def Ze (x0:Bc) (x1:Int):Option (Int×Bc):=
 (getI x0.Au.Ae x1).bind λ y1=>(Ar [(((y1.State != 1)&&(y1.State != 2)),false)] (Qg x0 x1) default).bind λ y3=>bif (Ar5 y1 y3) then some (11,x0) else (setI x0.Au.Ae x1 ⟨0,y1.Since,y1.Aq,y1.Phase⟩).bind λ y6=>some (0,⟨x0.Ao,⟨x0.Au.Ai,y6,x0.Au.An,x0.Au.Al⟩,x0.time⟩)
def Acp (x2:Int) (y1:A7):Bool:=((decide (x2<0)) || (decide (x2>y1.Load)))
def Zd (x0:Bc) (x1:Int) (x2:Int):Option (Int×Bc):=
 (Ar [(decide (x2<0),false)] (getI x0.Ao.Ag x1) default).bind λ y1=>bif (Acp x2 y1) then some (1,x0) else (getI x0.Au.An x1).bind λ y4=>(setI x0.Au.An x1 x2).bind λ y6=>some (0,⟨x0.Ao,⟨x0.Au.Ai,x0.Au.Ae,y6,x0.Au.Al⟩,x0.time⟩)
def Ag1 (n0:Nat) (a0:Aj) (z0:(List Aj)):Option (Ctl ((List Aj)) Unit):=
 bif (a0.State==2) then (getI z0 (cnt 0 n0)).bind λ y7=>(setI z0 (cnt 0 n0) ⟨y7.State,y7.Since,y7.Aq,E0 (w64 (a0.Phase+(w64 (36*(w64 (a0.Aq-5000))))))⟩).bind λ y9=>some (.next y9) else some (.next z0)
def Aj2 (x0:Aa) (x1:Ad):Option (Ad×Int):=
 (Ja x0 x1).bind λ y1=>bif (y1 != 0) then some (⟨[],[],[],[]⟩,y1) else (Ml x1).bind λ y4=>andThen (foldI Ag1 x1.Ae 0 y4.Ae) (λ _=>none) λ z0=>some (⟨y4.Ai,z0,y4.An,y4.Al⟩,0)
def Aco (y1:Ad×Int) (z0:Int×(List Aj)):Bool:=decide (z0.1<(y1.1.Ae.length:Int))
def Ar4 (x0:Bc) (y4:Aj) (y6:Bool) (y8:B1):Bool:=(((y4.State==1)&&y6)&&(decide ((w64 (y4.Since+y8.Start))<=(w64 (x0.time+1)))))
def zC (x0:Bc) (y1:Ad×Int) (z0:Int×(List Aj)):Option (Ctl (Int×(List Aj)) Unit):=
 bif (Aco y1 z0) then (getI z0.2 z0.1).bind λ y4=>(Ar [((y4.State==1),true)] (Qg ⟨x0.Ao,⟨y1.1.Ai,z0.2,y1.1.An,y1.1.Al⟩,x0.time⟩ z0.1) default).bind λ y6=>(Ar [(((y4.State==1)&&y6),true)] (getI x0.Ao.Ae z0.1) default).bind λ y8=>bif (Ar4 x0 y4 y6 y8) then (setI z0.2 z0.1 ⟨2,y4.Since,y4.Aq,y4.Phase⟩).bind λ y11=>some (.next (w64 (z0.1+1),y11)) else some (.next (w64 (z0.1+1),z0.2)) else some (.brk (z0.1,z0.2))
def Zc (x0:Bc):Option Bc:=
 (Aj2 x0.Ao x0.Au).bind λ y1=>andThen (whileN (zC x0 y1) 1152921504606846976 (0,y1.1.Ae)) (λ _=>none) λ z0=>some ⟨x0.Ao,⟨y1.1.Ai,z0.2,y1.1.An,y1.1.Al⟩,x0.time⟩
def R5 (x0:Ab) (x1:Ab):Int:=
 bif (x0.Kind != x1.Kind) then w64 (x0.Kind-x1.Kind) else w64 (x0.Number-x1.Number)
def yU (x0:List Ab) (x1:Ab) (z0:Int×Int):Option (Ctl (Int×Int) Unit):=
 bif decide (z0.1<z0.2) then (getI x0 (w64 (Sq .u64 (IntKind.wrap .u64 (w64 (z0.1+z0.2))) 1))).bind λ y2=>bif decide ((R5 y2 x1)<0) then some (.next (w64 ((w64 (Sq .u64 (IntKind.wrap .u64 (w64 (z0.1+z0.2))) 1))+1),z0.2)) else some (.next (z0.1,w64 (Sq .u64 (IntKind.wrap .u64 (w64 (z0.1+z0.2))) 1))) else some (.brk (z0.1,z0.2))
def Y7 (x0:List Ab) (x1:Ab):Option (Int×Bool):=
 andThen (whileN (yU x0 x1) 1152921504606846976 (0,(x0.length:Int))) (λ _=>none) λ z0=>(Ar [(decide (z0.1<(x0.length:Int)),true)] (getI x0 z0.1) default).bind λ y5=>some (z0.1,((decide (z0.1<(x0.length:Int)))&&((R5 y5 x1)==0)))
def Qf (x0:List Ab) (x1:Int) (x2:List Ab):Option ((List Ab)):=
 (bndI x0.length x1 (x0.length:Int)).bind λ u2=>bif ((x2.length:Int)==0) then some x0 else bif (x1==(x0.length:Int)) then (appI 17 x0 x2).bind λ y5=>some y5 else insI 17 x0 x1 x2
def Un (x0:List Ab) (x1:Int) (x2:Int):Option ((List Ab)):=
 (bnd3I x0.length x1 x2 (x0.length:Int)).bind λ u2=>bif (x1==x2) then some x0 else (bndI x0.length 0 x1).bind λ u5=>(bndI x0.length x2 (x0.length:Int)).bind λ u7=>(appPI x0 ((Int.toNat x1)-0) ((x0.drop (Int.toNat x2)).take ((Int.toNat (x0.length:Int))-(Int.toNat x2)))).bind λ y8=>(bndI (y8.length-0) (((((Int.toNat x1)-0)+((x0.drop (Int.toNat x2)).take ((Int.toNat (x0.length:Int))-(Int.toNat x2))).length):Nat):Int) (x0.length:Int)).bind λ u11=>some ((Hg y8 (0+(Int.toNat (((((Int.toNat x1)-0)+((x0.drop (Int.toNat x2)).take ((Int.toNat (x0.length:Int))-(Int.toNat x2))).length):Nat):Int))) ((Int.toNat (x0.length:Int))-(Int.toNat (((((Int.toNat x1)-0)+((x0.drop (Int.toNat x2)).take ((Int.toNat (x0.length:Int))-(Int.toNat x2))).length):Nat):Int))) ⟨0,0⟩).take (((Int.toNat x1)-0)+((x0.drop (Int.toNat x2)).take ((Int.toNat (x0.length:Int))-(Int.toNat x2))).length))
def Rt (x0:Bc) (x2:Bool):Bool:=(x2&&(decide ((x0.Au.Al.length:Int)>=32)))
def Uw (x0:Bc) (x1:Ab) (x2:Bool) (y1:Int×Bool):Option (Ctl ((List Ab)) Unit):=
 bif x2 then (Qf x0.Au.Al y1.1 [x1]).bind λ y6=>some (.next y6) else (Un x0.Au.Al y1.1 (w64 (y1.1+1))).bind λ y8=>some (.next y8)
def Jd (x0:Bc) (x1:Ab) (x2:Bool):Option (Int×Bc):=
 (Y7 x0.Au.Al x1).bind λ y1=>bif (y1.2==x2) then some (11,x0) else bif (Rt x0 x2) then some (2,x0) else andThen (Uw x0 x1 x2 y1) (λ _=>none) λ z0=>bif (x1.Kind==1) then (getI x0.Au.Ae x1.Number).bind λ y11=>(setI x0.Au.Ae x1.Number ⟨0,y11.Since,y11.Aq,y11.Phase⟩).bind λ y13=>bif x2 then (getI y13 x1.Number).bind λ y16=>(setI y13 x1.Number ⟨3,y16.Since,y16.Aq,y16.Phase⟩).bind λ y18=>some (0,⟨x0.Ao,⟨x0.Au.Ai,y18,x0.Au.An,z0⟩,x0.time⟩) else some (0,⟨x0.Ao,⟨x0.Au.Ai,y13,x0.Au.An,z0⟩,x0.time⟩) else some (0,⟨x0.Ao,⟨x0.Au.Ai,x0.Au.Ae,x0.Au.An,z0⟩,x0.time⟩)
def Zk (x0:Bc) (x1:Aw):Option (Int×Bc):=
 bif (x1.Kind==1) then (Aj7 x0.Ao x0.Au x1.Unit).bind λ y2=>some (y2.2,⟨x0.Ao,y2.1,x0.time⟩) else bif (x1.Kind==2) then (Aj6 x0.Ao x0.Au x1.Unit).bind λ y5=>some (y5.2,⟨x0.Ao,y5.1,x0.time⟩) else bif (x1.Kind==6) then (Aj5 x0.Ao x0.Au x1.Unit x1.Value).bind λ y8=>some (y8.2,⟨x0.Ao,y8.1,x0.time⟩) else bif (x1.Kind==3) then (Zf x0 x1.Unit).bind λ y11=>some (y11.1,y11.2) else bif (x1.Kind==4) then (Ze x0 x1.Unit).bind λ y14=>some (y14.1,y14.2) else bif (x1.Kind==5) then (Zd x0 x1.Unit x1.Value).bind λ y17=>some (y17.1,y17.2) else bif (x1.Kind==7) then (Zc x0).bind λ y20=>some (0,y20) else (Jd x0 ⟨x1.Value,x1.Unit⟩ (x1.Kind==8)).bind λ y22=>some (y22.1,y22.2)
def Ann (x2:Int) (x3:Aw):Bool:=((((decide (x2<0)) || (decide (x2>2147483648))) || (decide (x3.Kind<1))) || (decide (x3.Kind>9)))
def uK (x0:Aa) (x1:Ad) (x2:Int) (x3:Aw):Option (Ad×Int):=
 (Ja x0 x1).bind λ y1=>bif (y1 != 0) then some (⟨[],[],[],[]⟩,y1) else bif (Ann x2 x3) then some (⟨[],[],[],[]⟩,1) else (Akc x0 x3).bind λ y5=>bif !y5 then some (⟨[],[],[],[]⟩,10) else (Ml x1).bind λ y8=>(Zk ⟨x0,y8,x2⟩ x3).bind λ y10=>bif (y10.1 != 0) then some (⟨[],[],[],[]⟩,y10.1) else some (y10.2.Au,0)
def U2 (x0:Cm) (x1:Aw) (x2:Int):Option Cm:=
 (appI 41 x0.events [⟨x0.Bg.Time,x1,x2⟩]).bind λ y1=>some ⟨x0.Bg,x0.Ao,y1,x0.states⟩
def N_ (x0:Cm) (x1:Ad):Option Cm:=
 (Ml x1).bind λ y3=>(appI 97 x0.states [y3]).bind λ y5=>some ⟨x0.Bg,x0.Ao,x0.events,y5⟩
def N9 (x0:Int) (x1:Int) (x2:A2):Option (Bool×A2):=
 (Mk x2.Au x0 x1).bind λ y1=>some (y1,x2)
def Y9 (x0:A2) (x1:Ak):Option (Bool×A2):=
 (N9 3 x1.A x0).bind λ y1=>bif y1.1 then some (true,y1.2) else bif (x1.Kind==1) then (N9 3 x1.B y1.2).bind λ y5=>some (y5.1,y5.2) else bif (x1.Kind==2) then (N9 1 x1.B y1.2).bind λ y8=>(Ar [(y8.1,false)] (getI y8.2.Au.Ae x1.B) default).bind λ y10=>some ((y8.1 || (y10.State != 2)),y8.2) else (N9 4 x1.B y1.2).bind λ y12=>some (y12.1,y12.2)
def Qe (x0:A2) (x1:Int):Option A2:=
 (getI x0.Au.Ai x1).bind λ y1=>(setI x0.Au.Ai x1 false).bind λ y3=>(appI 25 x0.acts [⟨2,x1,0⟩]).bind λ y5=>some ⟨x0.Ao,⟨y3,x0.Au.Ae,x0.Au.An,x0.Au.Al⟩,y5⟩
def zA (n0:Nat) (a0:Ak) (z0:Ajs):Option (Ctl (Ajs) Unit):=
 (getI z0.2.2.2.2.2.2.2.1 (cnt 0 n0)).bind λ y1=>(Ar [(y1,true)] (Y9 ⟨⟨z0.1,z0.2.1,z0.2.2.1,z0.2.2.2.1,z0.2.2.2.2.1,z0.2.2.2.2.2.1⟩,⟨z0.2.2.2.2.2.2.2.1,z0.2.2.2.2.2.2.2.2.1,z0.2.2.2.2.2.2.2.2.2.1,z0.2.2.2.2.2.2.2.2.2.2.1⟩,z0.2.2.2.2.2.2.2.2.2.2.2⟩ a0) (default,⟨⟨z0.1,z0.2.1,z0.2.2.1,z0.2.2.2.1,z0.2.2.2.2.1,z0.2.2.2.2.2.1⟩,⟨z0.2.2.2.2.2.2.2.1,z0.2.2.2.2.2.2.2.2.1,z0.2.2.2.2.2.2.2.2.2.1,z0.2.2.2.2.2.2.2.2.2.2.1⟩,z0.2.2.2.2.2.2.2.2.2.2.2⟩)).bind λ y3=>bif (y1&&y3.1) then (appI 9 z0.2.2.2.2.2.2.1 [cnt 0 n0]).bind λ y6=>some (.next (y3.2.Ao.Am,y3.2.Ao.Ah,y3.2.Ao.Ae,y3.2.Ao.Ag,y3.2.Ao.Phase,y3.2.Ao.Aq,y6,y3.2.Au.Ai,y3.2.Au.Ae,y3.2.Au.An,y3.2.Au.Al,y3.2.acts)) else some (.next (y3.2.Ao.Am,y3.2.Ao.Ah,y3.2.Ao.Ae,y3.2.Ao.Ag,y3.2.Ao.Phase,y3.2.Ao.Aq,z0.2.2.2.2.2.2.1,y3.2.Au.Ai,y3.2.Au.Ae,y3.2.Au.An,y3.2.Au.Al,y3.2.acts))
def Uv (n1:Nat) (a1:Int) (z1:Sg9):Option (Ctl (Sg9) Unit):=
 (Qe ⟨⟨z1.1,z1.2.1,z1.2.2.1,z1.2.2.2.1,z1.2.2.2.2.1,z1.2.2.2.2.2.1⟩,⟨z1.2.2.2.2.2.2.1,z1.2.2.2.2.2.2.2.1,z1.2.2.2.2.2.2.2.2.1,z1.2.2.2.2.2.2.2.2.2.1⟩,z1.2.2.2.2.2.2.2.2.2.2⟩ a1).bind λ y8=>some (.next (y8.Ao.Am,y8.Ao.Ah,y8.Ao.Ae,y8.Ao.Ag,y8.Ao.Phase,y8.Ao.Aq,y8.Au.Ai,y8.Au.Ae,y8.Au.An,y8.Au.Al,y8.acts))
def Zb (x0:A2):Option A2:=
 andThen (foldI zA x0.Ao.Ah 0 (x0.Ao.Am,x0.Ao.Ah,x0.Ao.Ae,x0.Ao.Ag,x0.Ao.Phase,x0.Ao.Aq,[],x0.Au.Ai,x0.Au.Ae,x0.Au.An,x0.Au.Al,x0.acts)) (λ _=>none) λ z0=>andThen (foldI Uv z0.2.2.2.2.2.2.1 0 (z0.1,z0.2.1,z0.2.2.1,z0.2.2.2.1,z0.2.2.2.2.1,z0.2.2.2.2.2.1,z0.2.2.2.2.2.2.2.1,z0.2.2.2.2.2.2.2.2.1,z0.2.2.2.2.2.2.2.2.2.1,z0.2.2.2.2.2.2.2.2.2.2.1,z0.2.2.2.2.2.2.2.2.2.2.2)) (λ _=>none) λ z1=>some ⟨⟨z1.1,z1.2.1,z1.2.2.1,z1.2.2.2.1,z1.2.2.2.2.1,z1.2.2.2.2.2.1⟩,⟨z1.2.2.2.2.2.2.1,z1.2.2.2.2.2.2.2.1,z1.2.2.2.2.2.2.2.2.1,z1.2.2.2.2.2.2.2.2.2.1⟩,z1.2.2.2.2.2.2.2.2.2.2⟩
def Ael (x0:Aa) (x1:Ad) (x2:Int):Option Bool:=
 (Jv x0 x1 x2).bind λ y1=>some (decide ((y1.1.Ae.length:Int)>0))
def Y8 (x0:Ak) (x1:A2):Option (Bool×A2):=
 (Ar [((x0.Kind==3),true)] (Ael x1.Ao x1.Au x0.A) default).bind λ y1=>some (((x0.Kind==3)&&(!y1)),x1)
def yZ (n0:Nat) (a0:Ak) (z0:Ajs):Option (Ctl (Ajs) Unit):=
 (getI z0.2.2.2.2.2.2.2.1 (cnt 0 n0)).bind λ y1=>(Ar [(y1,true)] (Y8 a0 ⟨⟨z0.1,z0.2.1,z0.2.2.1,z0.2.2.2.1,z0.2.2.2.2.1,z0.2.2.2.2.2.1⟩,⟨z0.2.2.2.2.2.2.2.1,z0.2.2.2.2.2.2.2.2.1,z0.2.2.2.2.2.2.2.2.2.1,z0.2.2.2.2.2.2.2.2.2.2.1⟩,z0.2.2.2.2.2.2.2.2.2.2.2⟩) (default,⟨⟨z0.1,z0.2.1,z0.2.2.1,z0.2.2.2.1,z0.2.2.2.2.1,z0.2.2.2.2.2.1⟩,⟨z0.2.2.2.2.2.2.2.1,z0.2.2.2.2.2.2.2.2.1,z0.2.2.2.2.2.2.2.2.2.1,z0.2.2.2.2.2.2.2.2.2.2.1⟩,z0.2.2.2.2.2.2.2.2.2.2.2⟩)).bind λ y3=>bif (y1&&y3.1) then (appI 9 z0.2.2.2.2.2.2.1 [cnt 0 n0]).bind λ y6=>some (.next (y3.2.Ao.Am,y3.2.Ao.Ah,y3.2.Ao.Ae,y3.2.Ao.Ag,y3.2.Ao.Phase,y3.2.Ao.Aq,y6,y3.2.Au.Ai,y3.2.Au.Ae,y3.2.Au.An,y3.2.Au.Al,y3.2.acts)) else some (.next (y3.2.Ao.Am,y3.2.Ao.Ah,y3.2.Ao.Ae,y3.2.Ao.Ag,y3.2.Ao.Phase,y3.2.Ao.Aq,z0.2.2.2.2.2.2.1,y3.2.Au.Ai,y3.2.Au.Ae,y3.2.Au.An,y3.2.Au.Al,y3.2.acts))
def Apg (n1:Nat) (a1:Int) (z1:Sg9):Option (Ctl (Sg9) Unit):=
 (Qe ⟨⟨z1.1,z1.2.1,z1.2.2.1,z1.2.2.2.1,z1.2.2.2.2.1,z1.2.2.2.2.2.1⟩,⟨z1.2.2.2.2.2.2.1,z1.2.2.2.2.2.2.2.1,z1.2.2.2.2.2.2.2.2.1,z1.2.2.2.2.2.2.2.2.2.1⟩,z1.2.2.2.2.2.2.2.2.2.2⟩ a1).bind λ y8=>some (.next (y8.Ao.Am,y8.Ao.Ah,y8.Ao.Ae,y8.Ao.Ag,y8.Ao.Phase,y8.Ao.Aq,y8.Au.Ai,y8.Au.Ae,y8.Au.An,y8.Au.Al,y8.acts))
def Za (x0:A2):Option A2:=
 andThen (foldI yZ x0.Ao.Ah 0 (x0.Ao.Am,x0.Ao.Ah,x0.Ao.Ae,x0.Ao.Ag,x0.Ao.Phase,x0.Ao.Aq,[],x0.Au.Ai,x0.Au.Ae,x0.Au.An,x0.Au.Al,x0.acts)) (λ _=>none) λ z0=>andThen (foldI Apg z0.2.2.2.2.2.2.1 0 (z0.1,z0.2.1,z0.2.2.1,z0.2.2.2.1,z0.2.2.2.2.1,z0.2.2.2.2.2.1,z0.2.2.2.2.2.2.2.1,z0.2.2.2.2.2.2.2.2.1,z0.2.2.2.2.2.2.2.2.2.1,z0.2.2.2.2.2.2.2.2.2.2.1,z0.2.2.2.2.2.2.2.2.2.2.2)) (λ _=>none) λ z1=>some ⟨⟨z1.1,z1.2.1,z1.2.2.1,z1.2.2.2.1,z1.2.2.2.2.1,z1.2.2.2.2.2.1⟩,⟨z1.2.2.2.2.2.2.1,z1.2.2.2.2.2.2.2.1,z1.2.2.2.2.2.2.2.2.1,z1.2.2.2.2.2.2.2.2.2.1⟩,z1.2.2.2.2.2.2.2.2.2.2⟩
def Zj (x0:A2):Option A2:=
 (Zb x0).bind λ y1=>(Za y1).bind λ y3=>(F96 y3.Ao y3.Au).bind λ y5=>some ⟨y3.Ao,y5.1,y3.acts⟩
def Qd (x0:Int) (x1:Int) (x2:Aa):Option Int:=
 (getI x2.Ag x0).bind λ y1=>(getI x2.Ag x1).bind λ y3=>some (Io y1.Bz y3.Bz)
def Xb (x1:Int) (z1:Int×(List Int)) (y12:Int):Bool:=((decide (z1.1>x1))&&(decide (y12<0)))
def Uj (x1:Int) (x3c0:Aa) (z1:Int×(List Int)):Option (Ctl (Int×(List Int)) Unit):=
 (Ar [(decide (z1.1>x1),true)] (getI z1.2 z1.1) default).bind λ y8=>(Ar [(decide (z1.1>x1),true)] (getI z1.2 (w64 (z1.1-1))) default).bind λ y10=>(Ar [(decide (z1.1>x1),true)] (Qd y8 y10 x3c0) default).bind λ y12=>bif (Xb x1 z1 y12) then (getI z1.2 (w64 (z1.1-1))).bind λ y15=>(getI z1.2 z1.1).bind λ y17=>(setI z1.2 z1.1 y15).bind λ y19=>(getI y19 (w64 (z1.1-1))).bind λ y21=>(setI y19 (w64 (z1.1-1)) y17).bind λ y23=>some (.next (w64 (z1.1-1),y23)) else some (.brk (z1.1,z1.2))
def yR (x1:Int) (x2:Int) (x3c0:Aa) (z0:Int×(List Int)):Option (Ctl (Int×(List Int)) Unit):=
 bif decide (z0.1<x2) then andThen (whileN (Uj x1 x3c0) 1152921504606846976 (z0.1,z0.2)) (λ _=>none) λ z1=>some (.next (w64 (z0.1+1),z1.2)) else some (.brk (z0.1,z0.2))
def Y3 (x0:List Int) (x1:Int) (x2:Int) (x3c0:Aa):Option ((List Int)×Aa):=
 andThen (whileN (yR x1 x2 x3c0) 1152921504606846976 (w64 (x1+1),x0)) (λ _=>none) λ z0=>some (z0.2,x3c0)
def yT (x1:Int) (z0:Int×Int×(List Int)×Int×(List Ak)×(List B1)×(List A7)×Int×Int):Option (Ctl (Int×Int×(List Int)×Int×(List Ak)×(List B1)×(List A7)×Int×Int) Unit):=
 bif decide (z0.2.1<=x1) then (Y3 z0.2.2.1 z0.1 z0.2.1 ⟨z0.2.2.2.1,z0.2.2.2.2.1,z0.2.2.2.2.2.1,z0.2.2.2.2.2.2.1,z0.2.2.2.2.2.2.2.1,z0.2.2.2.2.2.2.2.2⟩).bind λ y2=>some (.next (z0.2.1,w64 (z0.2.1+20),y2.1,y2.2.Am,y2.2.Ah,y2.2.Ae,y2.2.Ag,y2.2.Phase,y2.2.Aq)) else some (.brk (z0.1,z0.2.1,z0.2.2.1,z0.2.2.2.1,z0.2.2.2.2.1,z0.2.2.2.2.2.1,z0.2.2.2.2.2.2.1,z0.2.2.2.2.2.2.2.1,z0.2.2.2.2.2.2.2.2))
def A26 (x1:Int) (z2:Unit):Option (Ctl Unit Unit):=
 bif decide (40<=x1) then none else some (.brk ())
def yS (x1:Int) (z1:Unit):Option (Ctl Unit Unit):=
 bif decide (20<x1) then none else some (.brk ())
def Ady (x0:List Int) (x1:Int) (x2c0:Aa):Option ((List Int)×Aa):=
 andThen (whileN (yT x1) 1152921504606846976 (0,20,x0,x2c0.Am,x2c0.Ah,x2c0.Ae,x2c0.Ag,x2c0.Phase,x2c0.Aq)) (λ _=>none) λ z0=>(Y3 z0.2.2.1 z0.1 x1 ⟨z0.2.2.2.1,z0.2.2.2.2.1,z0.2.2.2.2.2.1,z0.2.2.2.2.2.2.1,z0.2.2.2.2.2.2.2.1,z0.2.2.2.2.2.2.2.2⟩).bind λ y4=>andThen (whileN (yS x1) 1152921504606846976 ()) (λ _=>none) λ z1=>some (y4.1,y4.2)
def Y6 (x0:List Int) (x1c0:Aa):Option ((List Int)×Aa):=
 (Ady x0 (x0.length:Int) x1c0).bind λ y1=>some (y1.1,y1.2)
def Am8 (x0:Aa) (z0:Int×(List Int)):Bool:=decide (z0.1<(x0.Ag.length:Int))
def Ag2 (x0:Aa) (z0:Int×(List Int)):Option (Ctl (Int×(List Int)) Unit):=
 bif (Am8 x0 z0) then (appI 9 z0.2 [z0.1]).bind λ y5=>some (.next (w64 (z0.1+1),y5)) else some (.brk (z0.1,z0.2))
def qX (x0:Aa):Option ((List Int)):=
 (Aen x0).bind λ y1=>bif (y1 != 0) then some [] else andThen (whileN (Ag2 x0) 1152921504606846976 (0,[])) (λ _=>none) λ z0=>(Y6 z0.2 x0).bind λ y7=>some y7.1
def Us (x0:Int) (x1:Ap):Option Bool:=
 (Ux x1.Ag x0).bind λ y1=>some (!y1)
def Uz (x1c0:Ap) (n0:Nat) (a0:Int) (z0:Unit):Option (Ctl Unit (Int×Ap)):=
 (Us a0 x1c0).bind λ y1=>bif y1 then some (.ret (cnt 0 n0,x1c0)) else some (.next ())
def Ad7 (x0:List Int) (x1c0:Ap):Option (Int×Ap):=
 andThen (foldI (Uz x1c0) x0 0 ()) some λ z0=>some ((-1),x1c0)
def Acn (z0:Int×Int×(List Int)):Bool:=decide (z0.2.1<(z0.2.2.length:Int))
def Ut (y1:Int×Ap) (z0:Int×Int×(List Int)):Option (Ctl (Int×Int×(List Int)) Unit):=
 bif (Acn z0) then (getI z0.2.2 z0.2.1).bind λ y5=>(Us y5 y1.2).bind λ y7=>bif !y7 then (getI z0.2.2 z0.1).bind λ y10=>(setI z0.2.2 z0.1 y5).bind λ y12=>some (.next (w64 (z0.1+1),w64 (z0.2.1+1),y12)) else some (.next (z0.1,w64 (z0.2.1+1),z0.2.2)) else some (.brk (z0.1,z0.2.1,z0.2.2))
def Uu (x0:List Int) (x1c0:Ap):Option ((List Int)×Ap):=
 (Ad7 x0 x1c0).bind λ y1=>bif (y1.1==(-1)) then some (x0,y1.2) else andThen (whileN (Ut y1) 1152921504606846976 (y1.1,w64 (y1.1+1),x0)) (λ _=>none) λ z0=>(bndI z0.2.2.length z0.1 (z0.2.2.length:Int)).bind λ u15=>(bndI (Hg z0.2.2 (Int.toNat z0.1) ((Int.toNat (z0.2.2.length:Int))-(Int.toNat z0.1)) 0).length 0 z0.1).bind λ u17=>some (((Hg z0.2.2 (Int.toNat z0.1) ((Int.toNat (z0.2.2.length:Int))-(Int.toNat z0.1)) 0).take ((Int.toNat z0.1)-0)),y1.2)
def qV (x1:Ad) (y1:Ap×Bool) (n0:Nat) (a0:Int) (z0:Int):Option (Ctl Int Unit):=
 bif decide ((y1.1.Ae.length:Int)>0) then (getI x1.An a0).bind λ y4=>some (.next (w64 (z0+y4))) else some (.next z0)
def Adx (x0:Aa) (x1:Ad) (x2:Int):Option Int:=
 (Jv x0 x1 x2).bind λ y1=>andThen (foldI (qV x1 y1) y1.1.Ag 0 0) (λ _=>none) λ z0=>some z0
def Ag0 (x0:Aa) (n0:Nat) (a0:Int) (z0:Int):Option (Ctl Int Unit):=
 (getI x0.Ae a0).bind λ y3=>some (.next (w64 (z0+y3.Rating)))
def Adw (x0:Aa) (x1:Ad) (x2:Int):Option Int:=
 (Jv x0 x1 x2).bind λ y1=>andThen (foldI (Ag0 x0) y1.1.Ae 0 0) (λ _=>none) λ z0=>some z0
def Um (x0:A2) (x1:Int):Option Int:=
 (Adx x0.Ao x0.Au x1).bind λ y1=>(Adw x0.Ao x0.Au x1).bind λ y3=>some (max 0 (w64 (y1-y3)))
def Apt (n0:Nat) (a0:Int) (z0:(List Ap)):Option (Ctl ((List Ap)) Unit):=
 (getI z0 a0).bind λ y8=>(appI 9 y8.Am [cnt 0 n0]).bind λ y10=>(setI z0 a0 ⟨y10,y8.Ae,y8.Ag⟩).bind λ y12=>some (.next y12)
def Ar7 (x0:Aa) (z1:Int×(List Ap)):Bool:=decide (z1.1<(x0.Ae.length:Int))
def Aps (x0:Aa) (x1:Ad) (y4:(List Int)) (z1:Int×(List Ap)):Option (Ctl (Int×(List Ap)) Unit):=
 bif (Ar7 x0 z1) then (uC x0 x1 z1.1).bind λ y15=>bif y15.2 then (getI y4 y15.1).bind λ y18=>(getI z1.2 y18).bind λ y20=>(appI 9 y20.Ae [z1.1]).bind λ y22=>(setI z1.2 y18 ⟨y20.Am,y22,y20.Ag⟩).bind λ y24=>some (.next (w64 (z1.1+1),y24)) else some (.next (w64 (z1.1+1),z1.2)) else some (.brk (z1.1,z1.2))
def Ar6 (x0:Aa) (z2:Int×(List Ap)):Bool:=decide (z2.1<(x0.Ag.length:Int))
def Apr (x0:Aa) (x1:Ad) (y4:(List Int)) (z2:Int×(List Ap)):Option (Ctl (Int×(List Ap)) Unit):=
 bif (Ar6 x0 z2) then (uB x0 x1 z2.1).bind λ y27=>bif y27.2 then (getI y4 y27.1).bind λ y30=>(getI z2.2 y30).bind λ y32=>(appI 9 y32.Ag [z2.1]).bind λ y34=>(setI z2.2 y30 ⟨y32.Am,y32.Ae,y34⟩).bind λ y36=>some (.next (w64 (z2.1+1),y36)) else some (.next (w64 (z2.1+1),z2.2)) else some (.brk (z2.1,z2.2))
def Apu (x0:Aa) (x1:Ad):Option ((List Ap)):=
 (Ja x0 x1).bind λ y1=>bif (y1 != 0) then some [] else (Aei x0 x1).bind λ y4=>(mkI 73 x0.Am ⟨[],[],[]⟩).bind λ y6=>andThen (foldI Apt y4 0 y6) (λ _=>none) λ z0=>andThen (whileN (Aps x0 x1 y4) 1152921504606846976 (0,z0)) (λ _=>none) λ z1=>andThen (whileN (Apr x0 x1 y4) 1152921504606846976 (0,z1.2)) (λ _=>none) λ z2=>(Qi z2.2).bind λ y38=>some y38
def Xd (y1:Int) (y3:Int) (y5:A7):Bool:=decide ((min y1 (w64 (y3-y5.Least)))>0)
def yX (x0:A2) (x2:Int) (n0:Nat) (a0:Int) (z0:(List Int)×(List Aw)):Option (Ctl ((List Int)×(List Aw)) Unit):=
 (Um ⟨x0.Ao,⟨x0.Au.Ai,x0.Au.Ae,z0.1,x0.Au.Al⟩,z0.2⟩ x2).bind λ y1=>(getI z0.1 a0).bind λ y3=>(getI x0.Ao.Ag a0).bind λ y5=>bif (Xd y1 y3 y5) then (setI z0.1 a0 (w64 (y3-(min y1 (w64 (y3-y5.Least)))))).bind λ y8=>(getI y8 a0).bind λ y10=>(appI 25 z0.2 [⟨5,a0,y10⟩]).bind λ y12=>some (.next (y8,y12)) else some (.next (z0.1,z0.2))
def Ur (x0:A2) (x1:List Int) (x2:Int):Option A2:=
 andThen (foldI (yX x0 x2) x1 0 (x0.Au.An,x0.acts)) (λ _=>none) λ z0=>some ⟨x0.Ao,⟨x0.Au.Ai,x0.Au.Ae,z0.1,x0.Au.Al⟩,z0.2⟩
def Adz (x0:Ak) (x1:Int):Bool:=
 ((x0.Kind==3)&&(x0.B==x1))
def yY (x0:A2) (x1c0:Int) (n0:Nat) (a0:Ak) (z0:(List Int)):Option (Ctl ((List Int)) Unit):=
 (getI x0.Au.Ai (cnt 0 n0)).bind λ y1=>bif (y1&&(Adz a0 x1c0)) then (appI 9 z0 [cnt 0 n0]).bind λ y4=>some (.next y4) else some (.next z0)
def Apf (n1:Nat) (a1:Int) (z1:Sg9):Option (Ctl (Sg9) Unit):=
 (Qe ⟨⟨z1.1,z1.2.1,z1.2.2.1,z1.2.2.2.1,z1.2.2.2.2.1,z1.2.2.2.2.2.1⟩,⟨z1.2.2.2.2.2.2.1,z1.2.2.2.2.2.2.2.1,z1.2.2.2.2.2.2.2.2.1,z1.2.2.2.2.2.2.2.2.2.1⟩,z1.2.2.2.2.2.2.2.2.2.2⟩ a1).bind λ y6=>some (.next (y6.Ao.Am,y6.Ao.Ah,y6.Ao.Ae,y6.Ao.Ag,y6.Ao.Phase,y6.Ao.Aq,y6.Au.Ai,y6.Au.Ae,y6.Au.An,y6.Au.Al,y6.acts))
def Y_ (x0:A2) (x1c0:Int):Option (A2×Int):=
 andThen (foldI (yY x0 x1c0) x0.Ao.Ah 0 []) (λ _=>none) λ z0=>andThen (foldI Apf z0 0 (x0.Ao.Am,x0.Ao.Ah,x0.Ao.Ae,x0.Ao.Ag,x0.Ao.Phase,x0.Ao.Aq,x0.Au.Ai,x0.Au.Ae,x0.Au.An,x0.Au.Al,x0.acts)) (λ _=>none) λ z1=>some (⟨⟨z1.1,z1.2.1,z1.2.2.1,z1.2.2.2.1,z1.2.2.2.2.1,z1.2.2.2.2.2.1⟩,⟨z1.2.2.2.2.2.2.1,z1.2.2.2.2.2.2.2.1,z1.2.2.2.2.2.2.2.2.1,z1.2.2.2.2.2.2.2.2.2.1⟩,z1.2.2.2.2.2.2.2.2.2.2⟩,x1c0)
def yW (x2:Int) (n0:Nat) (a0:Int) (z0:Sg9):Option (Ctl (Sg9) Unit):=
 (getI z0.2.2.2.2.2.2.2.2.1 a0).bind λ y1=>(Ar [(decide (y1>0),true)] (Um ⟨⟨z0.1,z0.2.1,z0.2.2.1,z0.2.2.2.1,z0.2.2.2.2.1,z0.2.2.2.2.2.1⟩,⟨z0.2.2.2.2.2.2.1,z0.2.2.2.2.2.2.2.1,z0.2.2.2.2.2.2.2.2.1,z0.2.2.2.2.2.2.2.2.2.1⟩,z0.2.2.2.2.2.2.2.2.2.2⟩ x2) default).bind λ y3=>bif ((decide (y1>0))&&(decide (y3>0))) then (Y_ ⟨⟨z0.1,z0.2.1,z0.2.2.1,z0.2.2.2.1,z0.2.2.2.2.1,z0.2.2.2.2.2.1⟩,⟨z0.2.2.2.2.2.2.1,z0.2.2.2.2.2.2.2.1,z0.2.2.2.2.2.2.2.2.1,z0.2.2.2.2.2.2.2.2.2.1⟩,z0.2.2.2.2.2.2.2.2.2.2⟩ a0).bind λ y6=>some (.next (y6.1.Ao.Am,y6.1.Ao.Ah,y6.1.Ao.Ae,y6.1.Ao.Ag,y6.1.Ao.Phase,y6.1.Ao.Aq,y6.1.Au.Ai,y6.1.Au.Ae,y6.1.Au.An,y6.1.Au.Al,y6.1.acts)) else some (.next (z0.1,z0.2.1,z0.2.2.1,z0.2.2.2.1,z0.2.2.2.2.1,z0.2.2.2.2.2.1,z0.2.2.2.2.2.2.1,z0.2.2.2.2.2.2.2.1,z0.2.2.2.2.2.2.2.2.1,z0.2.2.2.2.2.2.2.2.2.1,z0.2.2.2.2.2.2.2.2.2.2))
def Uq (x0:A2) (x1:List Int) (x2:Int):Option A2:=
 andThen (foldI (yW x2) x1 0 (x0.Ao.Am,x0.Ao.Ah,x0.Ao.Ae,x0.Ao.Ag,x0.Ao.Phase,x0.Ao.Aq,x0.Au.Ai,x0.Au.Ae,x0.Au.An,x0.Au.Al,x0.acts)) (λ _=>none) λ z0=>some ⟨⟨z0.1,z0.2.1,z0.2.2.1,z0.2.2.2.1,z0.2.2.2.2.1,z0.2.2.2.2.2.1⟩,⟨z0.2.2.2.2.2.2.1,z0.2.2.2.2.2.2.2.1,z0.2.2.2.2.2.2.2.2.1,z0.2.2.2.2.2.2.2.2.2.1⟩,z0.2.2.2.2.2.2.2.2.2.2⟩
def zE (y1:(List Int)) (n0:Nat) (a0:Ap) (z0:Sg9):Option (Ctl (Sg9) Unit):=
 (Pj y1).bind λ y5=>(Uu y5 a0).bind λ y7=>bif decide ((y7.2.Ae.length:Int)>0) then (getI y7.2.Am 0).bind λ y10=>(Ur ⟨⟨z0.1,z0.2.1,z0.2.2.1,z0.2.2.2.1,z0.2.2.2.2.1,z0.2.2.2.2.2.1⟩,⟨z0.2.2.2.2.2.2.1,z0.2.2.2.2.2.2.2.1,z0.2.2.2.2.2.2.2.2.1,z0.2.2.2.2.2.2.2.2.2.1⟩,z0.2.2.2.2.2.2.2.2.2.2⟩ y7.1 y10).bind λ y12=>(getI y7.2.Am 0).bind λ y14=>(Uq y12 y7.1 y14).bind λ y16=>some (.next (y16.Ao.Am,y16.Ao.Ah,y16.Ao.Ae,y16.Ao.Ag,y16.Ao.Phase,y16.Ao.Aq,y16.Au.Ai,y16.Au.Ae,y16.Au.An,y16.Au.Al,y16.acts)) else some (.next (z0.1,z0.2.1,z0.2.2.1,z0.2.2.2.1,z0.2.2.2.2.1,z0.2.2.2.2.2.1,z0.2.2.2.2.2.2.1,z0.2.2.2.2.2.2.2.1,z0.2.2.2.2.2.2.2.2.1,z0.2.2.2.2.2.2.2.2.2.1,z0.2.2.2.2.2.2.2.2.2.2))
def U0 (x0:A2):Option A2:=
 (qX x0.Ao).bind λ y1=>(Apu x0.Ao x0.Au).bind λ y3=>andThen (foldI (zE y1) y3 0 (x0.Ao.Am,x0.Ao.Ah,x0.Ao.Ae,x0.Ao.Ag,x0.Ao.Phase,x0.Ao.Aq,x0.Au.Ai,x0.Au.Ae,x0.Au.An,x0.Au.Al,x0.acts)) (λ _=>none) λ z0=>some ⟨⟨z0.1,z0.2.1,z0.2.2.1,z0.2.2.2.1,z0.2.2.2.2.1,z0.2.2.2.2.2.1⟩,⟨z0.2.2.2.2.2.2.1,z0.2.2.2.2.2.2.2.1,z0.2.2.2.2.2.2.2.2.1,z0.2.2.2.2.2.2.2.2.2.1⟩,z0.2.2.2.2.2.2.2.2.2.2⟩
def Ad9 (x0:A2):Option A2:=
 (Zj x0).bind λ y1=>(U0 y1).bind λ y3=>some y3
def Aea (x0:Aa) (x1:Ad):Option (Ad×(List Aw)×Int):=
 (Ja x0 x1).bind λ y1=>bif (y1 != 0) then some (⟨[],[],[],[]⟩,[],y1) else (Ml x1).bind λ y4=>(Ad9 ⟨x0,y4,[]⟩).bind λ y6=>some (y6.Au,y6.acts,0)
def Akn (x0:Aa) (x1:Ad):Option (Ad×(List Aw)×Int):=
 (Aea x0 x1).bind λ y1=>some (y1.1,y1.2.1,y1.2.2)
def zL (x1:Aw) (y1:Ad×Int):Option (Ctl Int Unit):=
 bif (x1.Kind==7) then some (.next 1) else some (.next y1.2)
def zM (y1:Ad×Int) (n1:Nat) (a1:Aw) (z1:Int×Int×(List Ak)×(List B1)×(List A7)×Int×Int×(List Bool)×(List Aj)×(List Int)×(List Ab)×(List A9)×(List Bu)×(List Bool)×(List Bu)×(List Ad)×(List Int)):Option (Ctl (Int×Int×(List Ak)×(List B1)×(List A7)×Int×Int×(List Bool)×(List Aj)×(List Int)×(List Ab)×(List A9)×(List Bu)×(List Bool)×(List Bu)×(List Ad)×(List Int)) Unit):=
 (U2 ⟨⟨z1.1,⟨z1.2.2.2.2.2.2.2.1,z1.2.2.2.2.2.2.2.2.1,z1.2.2.2.2.2.2.2.2.2.1,z1.2.2.2.2.2.2.2.2.2.2.1⟩,z1.2.2.2.2.2.2.2.2.2.2.2.1,z1.2.2.2.2.2.2.2.2.2.2.2.2.1⟩,⟨z1.2.1,z1.2.2.1,z1.2.2.2.1,z1.2.2.2.2.1,z1.2.2.2.2.2.1,z1.2.2.2.2.2.2.1⟩,z1.2.2.2.2.2.2.2.2.2.2.2.2.2.2.1,z1.2.2.2.2.2.2.2.2.2.2.2.2.2.2.2.1⟩ a1 0).bind λ y11=>bif (a1.Kind==2) then (getI z1.2.2.2.2.2.2.2.2.2.2.2.2.2.1 a1.Unit).bind λ y14=>(setI z1.2.2.2.2.2.2.2.2.2.2.2.2.2.1 a1.Unit false).bind λ y16=>(N_ y11 ⟨y16,y1.1.Ae,z1.2.2.2.2.2.2.2.2.2.2.2.2.2.2.2.2,y1.1.Al⟩).bind λ y18=>some (.next (y18.Bg.Time,y18.Ao.Am,y18.Ao.Ah,y18.Ao.Ae,y18.Ao.Ag,y18.Ao.Phase,y18.Ao.Aq,y18.Bg.Power.Ai,y18.Bg.Power.Ae,y18.Bg.Power.An,y18.Bg.Power.Al,y18.Bg.Ba,y18.Bg.Bh,y16,y18.events,y18.states,z1.2.2.2.2.2.2.2.2.2.2.2.2.2.2.2.2)) else (getI z1.2.2.2.2.2.2.2.2.2.2.2.2.2.2.2.2 a1.Unit).bind λ y20=>(setI z1.2.2.2.2.2.2.2.2.2.2.2.2.2.2.2.2 a1.Unit a1.Value).bind λ y22=>(N_ y11 ⟨z1.2.2.2.2.2.2.2.2.2.2.2.2.2.1,y1.1.Ae,y22,y1.1.Al⟩).bind λ y24=>some (.next (y24.Bg.Time,y24.Ao.Am,y24.Ao.Ah,y24.Ao.Ae,y24.Ao.Ag,y24.Ao.Phase,y24.Ao.Aq,y24.Bg.Power.Ai,y24.Bg.Power.Ae,y24.Bg.Power.An,y24.Bg.Power.Al,y24.Bg.Ba,y24.Bg.Bh,z1.2.2.2.2.2.2.2.2.2.2.2.2.2.1,y24.events,y24.states,y22))
def Zu (x0:Cm) (x1:Aw):Option Cm:=
 (uK x0.Ao x0.Bg.Power x0.Bg.Time x1).bind λ y1=>andThen (zL x1 y1) (λ _=>none) λ z0=>(U2 x0 x1 z0).bind λ y4=>bif (z0 != 0) then some y4 else (N_ y4 y1.1).bind λ y7=>(Akn y7.Ao y1.1).bind λ y9=>andThen (foldI (zM y1) y9.2.1 0 (y7.Bg.Time,y7.Ao.Am,y7.Ao.Ah,y7.Ao.Ae,y7.Ao.Ag,y7.Ao.Phase,y7.Ao.Aq,y7.Bg.Power.Ai,y7.Bg.Power.Ae,y7.Bg.Power.An,y7.Bg.Power.Al,y7.Bg.Ba,y7.Bg.Bh,y1.1.Ai,y7.events,y7.states,y1.1.An)) (λ _=>none) λ z1=>(F99 ⟨z1.2.2.2.2.2.2.2.2.2.2.2.2.2.1,y1.1.Ae,z1.2.2.2.2.2.2.2.2.2.2.2.2.2.2.2.2,y1.1.Al⟩ y9.1).bind λ y26=>bif !y26 then (N_ ⟨⟨z1.1,⟨z1.2.2.2.2.2.2.2.1,z1.2.2.2.2.2.2.2.2.1,z1.2.2.2.2.2.2.2.2.2.1,z1.2.2.2.2.2.2.2.2.2.2.1⟩,z1.2.2.2.2.2.2.2.2.2.2.2.1,z1.2.2.2.2.2.2.2.2.2.2.2.2.1⟩,⟨z1.2.1,z1.2.2.1,z1.2.2.2.1,z1.2.2.2.2.1,z1.2.2.2.2.2.1,z1.2.2.2.2.2.2.1⟩,z1.2.2.2.2.2.2.2.2.2.2.2.2.2.2.1,z1.2.2.2.2.2.2.2.2.2.2.2.2.2.2.2.1⟩ y9.1).bind λ y29=>some ⟨⟨y29.Bg.Time,y9.1,y29.Bg.Ba,y29.Bg.Bh⟩,y29.Ao,y29.events,y29.states⟩ else some ⟨⟨z1.1,y9.1,z1.2.2.2.2.2.2.2.2.2.2.2.1,z1.2.2.2.2.2.2.2.2.2.2.2.2.1⟩,⟨z1.2.1,z1.2.2.1,z1.2.2.2.1,z1.2.2.2.2.1,z1.2.2.2.2.2.1,z1.2.2.2.2.2.2.1⟩,z1.2.2.2.2.2.2.2.2.2.2.2.2.2.2.1,z1.2.2.2.2.2.2.2.2.2.2.2.2.2.2.2.1⟩
def F54 (x0:Aa) (x1:As) (x2:Aw):Option (As×(List Ad)×Int):=
 (Ja x0 x1.Power).bind λ y1=>bif (y1 != 0) then some (⟨0,⟨[],[],[],[]⟩,[],[]⟩,[],y1) else (Akv x0 x1).bind λ y4=>(Zu y4 x2).bind λ y6=>(appI 41 y6.Bg.Bh y6.events).bind λ y8=>some (⟨y6.Bg.Time,y6.Bg.Power,y6.Bg.Ba,y8⟩,y6.states,0)
def Dp (x0:Int) (x1:Int) (x2:Int):Bool:=
 ((decide (x0>=x1))&&(decide (x0<=x2)))
def Uo (x0:Int):Bool:=
 ((decide (x0>=0))&&(decide (x0<3600)))
def Atf (x0:Cf):Int:=
 E0 (w64 (x0.To-x0.From))
def Xm (x0:Cf):Bool:=
 (((Uo x0.From)&&(Uo x0.To))&&(decide ((Atf x0)<1800)))
def Akb (x0:Cf):Bool:=
 !(Xm x0)
def yV (n0:Nat) (a0:Cf) (z0:Unit):Option (Ctl Unit Int):=
 bif Akb a0 then some (.ret (cnt 0 n0)) else some (.next ())
def Ad4 (x0:List Cf):Option Int:=
 andThen (foldI yV x0 0 ()) some λ z0=>some (-1)
def Zi (x0:List Cf):Option Bool:=
 (Ad4 x0).bind λ y1=>some (decide (y1>=0))
def Xq (x0:Ay):Option Bool:=
 (Ar [(((((((Dp x0.Kind 1 3)&&(Dp x0.Station 0 1))&&(Dp x0.Max 0 5000))&&(Dp x0.Rate 0 5000))&&(Dp x0.Cost 1 100))&&(decide ((x0.Db.length:Int)<=4))),true)] (Zi x0.Db) default).bind λ y1=>some (((((((Dp x0.Kind 1 3)&&(Dp x0.Station 0 1))&&(Dp x0.Max 0 5000))&&(Dp x0.Rate 0 5000))&&(Dp x0.Cost 1 100))&&(decide ((x0.Db.length:Int)<=4)))&&(!y1))
def Ati (x0:Ay):Option Bool:=
 (Xq x0).bind λ y1=>some (!y1)
def zD (n0:Nat) (a0:Ay) (z0:Unit):Option (Ctl Unit Int):=
 (Ati a0).bind λ y1=>bif y1 then some (.ret (cnt 0 n0)) else some (.next ())
def Ad8 (x0:List Ay):Option Int:=
 andThen (foldI zD x0 0 ()) some λ z0=>some (-1)
def Zm (x0:List Ay):Option Bool:=
 (Ad8 x0).bind λ y1=>some (decide (y1>=0))
def Ac1 (x0:Ca):Bool:=(((decide ((min x0.Bow x0.Stern)<0)) || (decide ((max x0.Bow x0.Stern)>200))) || ((x0.Bow==0)&&(x0.Stern==0)))
def Xs (x0:Ca):Option Int:=
 bif decide ((x0.A3.length:Int)>8) then some 2 else bif (Ac1 x0) then some 1 else (Zm x0.A3).bind λ y3=>bif y3 then some 14 else some 0
def Aev (x0:A7) (x1:Int):Bool:=
 (x0.Thruster==x1)
def Vf (x1c0:Int) (n0:Nat) (a0:A7) (z0:Unit):Option (Ctl Unit (Int×Int)):=
 bif Aev a0 x1c0 then some (.ret (cnt 0 n0,x1c0)) else some (.next ())
def Zt (x0:List A7) (x1c0:Int):Option (Int×Int):=
 andThen (foldI (Vf x1c0) x0 0 ()) some λ z0=>some ((-1),x1c0)
def Aek (rec116:Aa->Ad->Int->Option Bool) (x0:Int) (x1:Aa) (x2:Ad):Option Bool:=
 (rec116 x1 x2 x0).bind λ y1=>some (!y1)
def Uy (x1c0:Aa) (x1c1:Ad) (rec116:Aa->Ad->Int->Option Bool) (n0:Nat) (a0:Int) (z0:Unit):Option (Ctl Unit (Int×Aa×Ad)):=
 (Aek rec116 a0 x1c0 x1c1).bind λ y1=>bif y1 then some (.ret (cnt 0 n0,x1c0,x1c1)) else some (.next ())
def Ad6 (rec116:Aa->Ad->Int->Option Bool) (x0:List Int) (x1c0:Aa) (x1c1:Ad):Option (Int×Aa×Ad):=
 andThen (foldI (Uy x1c0 x1c1 rec116) x0 0 ()) some λ z0=>some ((-1),x1c0,x1c1)
def Zl (rec116:Aa->Ad->Int->Option Bool) (x0:List Int) (x1c0:Aa) (x1c1:Ad):Option (Bool×Aa×Ad):=
 (Ad6 rec116 x0 x1c0 x1c1).bind λ y1=>some (decide (y1.1>=0),y1.2.1,y1.2.2)
def P5 (y1:Int×Bool) (y3:Bool) (y5:Bool) (y7:Int) (y9:A7):Bool:=((((!y1.2) || (!y3)) || y5) || (decide (y7<y9.Least)))
def Zs (rec116:Aa->Ad->Int->Option Bool) (x0:Aa) (x1:Ad) (x2:Int):Option Bool:=
 (Aem x0 x1 x2).bind λ y1=>(Ar [(!y1.2,false)] (Ael x0 x1 y1.1) default).bind λ y3=>(Ar [(((!y1.2) || (!y3)),false)] (Mk x1 4 x2) default).bind λ y5=>(Ar [((((!y1.2) || (!y3)) || y5),false)] (getI x1.An x2) default).bind λ y7=>(Ar [((((!y1.2) || (!y3)) || y5),false)] (getI x0.Ag x2) default).bind λ y9=>bif (P5 y1 y3 y5 y7 y9) then some false else (getI x0.Ag x2).bind λ y12=>(Zl rec116 y12.Needs x0 x1).bind λ y14=>some (!y14.1)
def Zr:Nat->Aa->Ad->Int->Option Bool
 | 0=>λ _ _ _=>none
 | n+1=>Zs (Zr n)
def Ato (x0:Aa) (x1:Ad) (x2:Int):Option Bool:=Zr 1000 x0 x1 x2
def Xl (x0:Cg):Bool:=
 ((decide ((max x0.X x0.Y)<=5000))&&(decide ((min x0.X x0.Y)>=(-5000))))
def Ad2 (x0:Int) (x1:Int):Option Int:=
 (nzI x1).bind λ u2=>(nzI x1).bind λ u4=>bif decide ((Int.tmod x0 x1)<0) then some (w64 ((w64 (Int.tdiv x0 x1))-1)) else some (w64 (Int.tdiv x0 x1))
def Ate (x0:Int) (x1:Int):Option Int:=
 (Ad2 (w64 (0-x0)) x1).bind λ y1=>some (w64 (0-y1))
def Xc (x0:Int) (x1:Int):Bool:=((((decide (x0<(-1000000000000000000))) || (decide (x0>1000000000000000000))) || (decide (x1<1))) || (decide (x1>1000000000)))
def Ad3 (x0:Int) (x1:Int):Option (Int×Int):=
 bif (Xc x0 x1) then some (0,1) else (Ate x0 x1).bind λ y2=>some (y2,0)
def Aka (x0:Int) (x1:Int):Option (Int×Int):=
 (Ad3 x0 x1).bind λ y1=>some (y1.1,y1.2)
def Akm (x0:Ay) (x1:Cg):Option (Int×Int):=
 (Xq x0).bind λ y1=>bif ((!y1) || (!(Xl x1))) then some (0,1) else (Aka (w64 ((w64 ((w64 (x1.X*x1.X))+(w64 (x1.Y*x1.Y))))*x0.Cost)) 1000).bind λ y4=>some (y4.1,y4.2)
def Anm (x0:Int):Bool:=((decide (x0<0)) || (decide (x0>1000000000000000000)))
def Anl (x0:Int) (z0:Int×Int):Bool:=decide ((w64 ((w64 (Int.tdiv (w64 ((w64 (z0.1+z0.2))+1)) 2))*(w64 (Int.tdiv (w64 ((w64 (z0.1+z0.2))+1)) 2))))<=x0)
def Ahl (x0:Int) (z0:Int×Int):Option (Ctl (Int×Int) Unit):=
 bif decide (z0.1<z0.2) then bif (Anl x0 z0) then some (.next (w64 (Int.tdiv (w64 ((w64 (z0.1+z0.2))+1)) 2),z0.2)) else some (.next (z0.1,w64 ((w64 (Int.tdiv (w64 ((w64 (z0.1+z0.2))+1)) 2))-1))) else some (.brk (z0.1,z0.2))
def Akl (x0:Int):Option (Int×Int):=
 bif (Anm x0) then some (0,1) else andThen (whileN (Ahl x0) 1152921504606846976 (0,1000000000)) (λ _=>none) λ z0=>some (z0.1,0)
def Aku (x0:Ay) (x1:Int):Option Int:=
 (Akm x0 ⟨x0.Max,0⟩).bind λ y1=>bif ((y1.2 != 0) || (decide (x1<0))) then some 0 else bif decide (x1>=y1.1) then some x0.Max else (nzI x0.Cost).bind λ u6=>(Akl (w64 (Int.tdiv (w64 (1000*x1)) x0.Cost))).bind λ y7=>some y7.1
def Aos (x1:Aa) (x2:Ad) (n0:Nat) (a0:Ay) (z0:(List Int)):Option (Ctl ((List Int)) Unit):=
 (Zt x1.Ag (cnt 0 n0)).bind λ y9=>(Ar [(decide (y9.1>=0),true)] (Ato x1 x2 y9.1) default).bind λ y11=>bif ((decide (y9.1>=0))&&y11) then (getI x2.An y9.1).bind λ y14=>(Aku a0 y14).bind λ y16=>(getI z0 y9.2).bind λ y18=>(setI z0 y9.2 y16).bind λ y20=>some (.next y20) else some (.next z0)
def F55 (x0:Ca) (x1:Aa) (x2:Ad):Option ((List Int)×Int):=
 (Xs x0).bind λ y1=>bif (y1 != 0) then some ([],y1) else (Ja x1 x2).bind λ y4=>bif (y4 != 0) then some ([],y4) else (mkI 9 (x0.A3.length:Int) 0).bind λ y7=>andThen (foldI (Aos x1 x2) x0.A3 0 y7) (λ _=>none) λ z0=>some (z0,0)
def F56 (x0:As):Option As:=
 (vB x0.Ba).bind λ y1=>(vA x0.Bh).bind λ y3=>(uZ x0.Power.Ai).bind λ y5=>(uY x0.Power.Ae).bind λ y7=>(Pj x0.Power.An).bind λ y9=>(R7 x0.Power.Al).bind λ y11=>some ⟨x0.Time,⟨y5,y7,y9,y11⟩,y1,y3⟩
def Ajk (z0:(List Int)) (a0:Int):Bool:=((decide (a0>=0))&&(decide (a0<(z0.length:Int))))
def Aor (n0:Nat) (a0:Int) (z0:(List Int)):Option (Ctl ((List Int)) Unit):=
 bif (Ajk z0 a0) then (getI z0 a0).bind λ y4=>(setI z0 a0 0).bind λ y6=>some (.next y6) else some (.next z0)
def F57 (x0:List Int) (x1:List Int):Option ((List Int)):=
 (Pj x0).bind λ y1=>andThen (foldI Aor x1 0 y1) (λ _=>none) λ z0=>some z0
def Apv (z0:Sg0) (a0:Ab):Option (Ctl ((List Int)) Unit):=
 bif (a0.Kind==5) then (appI 9 z0.1 [a0.Number]).bind λ y12=>some (.next y12) else some (.next z0.1)
def Apw (x0:Bb) (x1:As) (n0:Nat) (a0:Ab) (z0:Sg0):Option (Ctl (Sg0) (As×(List Int)×Int)):=
 andThen (Apv z0 a0) (λ _=>none) λ z1=>(Ar [(decide (a0.Kind>4),false)] (F53 x1.Power.Al a0) default).bind λ y14=>bif ((decide (a0.Kind>4)) || y14) then some (.next (z1,z0.2.1,z0.2.2.1,z0.2.2.2.1,z0.2.2.2.2.1,z0.2.2.2.2.2.1,z0.2.2.2.2.2.2.1,z0.2.2.2.2.2.2.2)) else (F54 x0.Board ⟨z0.2.1,⟨z0.2.2.1,z0.2.2.2.1,z0.2.2.2.2.1,z0.2.2.2.2.2.1⟩,z0.2.2.2.2.2.2.1,z0.2.2.2.2.2.2.2⟩ ⟨8,a0.Number,a0.Kind⟩).bind λ y17=>bif (y17.2.2 != 0) then some (.ret (⟨0,⟨[],[],[],[]⟩,[],[]⟩,[],y17.2.2)) else some (.next (z1,y17.1.Time,y17.1.Power.Ai,y17.1.Power.Ae,y17.1.Power.An,y17.1.Power.Al,y17.1.Ba,y17.1.Bh))
def F14 (x0:Bb) (x1:As) (x2:List Ab) (x3:List Ab):Option (As×(List Int)×Int):=
 (F49 x0.Board x0.Table x1).bind λ y1=>bif (y1 != 0) then some (⟨0,⟨[],[],[],[]⟩,[],[]⟩,[],y1) else (F50 x0.Design).bind λ y4=>bif (y4 != 0) then some (⟨0,⟨[],[],[],[]⟩,[],[]⟩,[],y4) else (F52 [x2,x1.Power.Al,x3]).bind λ y7=>(F51 x0.Design y7).bind λ y9=>andThen (foldI (Apw x0 x1) y9 0 ([],x1.Time,x1.Power.Ai,x1.Power.Ae,x1.Power.An,x1.Power.Al,x1.Ba,x1.Bh)) some λ z0=>(F55 x0.Ship x0.Board ⟨z0.2.2.1,z0.2.2.2.1,z0.2.2.2.2.1,z0.2.2.2.2.2.1⟩).bind λ y20=>bif (y20.2 != 0) then some (⟨0,⟨[],[],[],[]⟩,[],[]⟩,[],y20.2) else (F56 ⟨z0.2.1,⟨z0.2.2.1,z0.2.2.2.1,z0.2.2.2.2.1,z0.2.2.2.2.2.1⟩,z0.2.2.2.2.2.2.1,z0.2.2.2.2.2.2.2⟩).bind λ y23=>(F57 y20.1 z0.1).bind λ y25=>some (y23,y25,0)
def F68 (x0:List Ab) (x1:List Ab):Option (List Ab):=Ak7 x0 x1
def F21 (x0:A4) (x1:As) (x2:List Ab):Option ((List Ab)):=
 (F68 x2 x1.Power.Al).bind λ y1=>(F51 x0 y1).bind λ y3=>some y3
def Azu (x0:Int) (a0:Int):Bool:=((decide (a0<(w64 (0-x0)))) || (decide (a0>x0)))
def Awj (x0:Int) (n0:Nat) (a0:Int) (z0:Unit):Option (Ctl Unit Unit):=
 bif (Azu x0 a0) then none else some (.next ())
def A1l (x0:Int) (x1:List Int):Option Bool:=
 andThen (foldI (Awj x0) x1 0 ()) (λ _=>none) λ z0=>some true
def A1r (x0:Bj):Option Bool:=
 (A1l 1000000 [x0.Surge,x0.Sway,x0.Yaw]).bind λ y1=>some y1
def Xk (x0:Int):Int:=
 w64 (0-x0)
def Ad1 (x0:Bj):Bj:=
 ⟨Xk x0.Surge,Xk x0.Sway,Xk x0.Yaw⟩
def Ao2 (x0:Int) (x1:Int) (x2:Int):Bool:=
 ((decide (x0<x1)) || (decide (x0>x2)))
def Apl (x1c0:Int) (x1c1:Int) (n0:Nat) (a0:Int) (z0:Unit):Option (Ctl Unit (Int×Int×Int)):=
 bif Ao2 a0 x1c0 x1c1 then some (.ret (cnt 0 n0,x1c0,x1c1)) else some (.next ())
def Apm (x0:List Int) (x1c0:Int) (x1c1:Int):Option (Int×Int×Int):=
 andThen (foldI (Apl x1c0 x1c1) x0 0 ()) some λ z0=>some ((-1),x1c0,x1c1)
def Apq (x0:List Int) (x1c0:Int) (x1c1:Int):Option (Bool×Int×Int):=
 (Apm x0 x1c0 x1c1).bind λ y1=>some (decide (y1.1>=0),y1.2.1,y1.2.2)
def Ul (x0:List Int) (x1:Int) (x2:Int):Option Bool:=
 (Apq x0 x1 x2).bind λ y1=>some (!y1.1)
def A1g (x0:Int) (x1:Int):Option Int:=
 (Ad2 (w64 ((w64 (2*x0))+x1)) (w64 (2*x1))).bind λ y1=>some y1
def Ar3 (x0:Int) (x1:Int):Bool:=((((decide (x0<(-1000000000000000000))) || (decide (x0>1000000000000000000))) || (decide (x1<1))) || (decide (x1>1000000000)))
def Apa (x0:Int) (x1:Int):Option (Int×Int):=
 bif (Ar3 x0 x1) then some (0,1) else (A1g x0 x1).bind λ y2=>some (y2,0)
def As9 (x0:Int) (x1:Int):Option (Int×Int):=
 (Apa x0 x1).bind λ y1=>some (y1.1,y1.2)
def A1q (x0:Ca) (x1:Bj):Option (Ck×Int):=
 (Xs x0).bind λ y1=>bif (y1 != 0) then none else (Ul [x1.Surge,x1.Sway] (-5000) 5000).bind λ y4=>(Ar [(!y4,false)] (Ul [x1.Yaw] (-500000) 500000) default).bind λ y6=>bif ((!y4) || (!y6)) then none else (As9 (w64 (x1.Yaw+(w64 (x1.Sway*x0.Stern)))) (w64 (x0.Bow+x0.Stern))).bind λ y9=>(Ul [y9.1,w64 (x1.Sway-y9.1)] (-500000) 500000).bind λ y11=>bif !y11 then none else some (⟨x1.Surge,y9.1,w64 (x1.Sway-y9.1)⟩,0)
def A1x (x0:Ca) (x1:Bj):Option (Ck×Int):=
 (A1r x1).bind λ y1=>bif !y1 then none else (A1q x0 (Ad1 x1)).bind λ y4=>some (y4.1,y4.2)
def As4 (x0:List Cf):Option (List Cf):=appI 17 [] x0
def A1f (x0:Ay) (x1:Int):Option Ay:=
 (As4 x0.Db).bind λ y1=>some ⟨x0.Kind,x0.Station,min x0.Max (max x1 0),x0.Rate,x0.Cost,y1⟩
def Ar1 (x0:Ca) (x1:List Int) (x2:List Cg) (x3:List Int):Bool:=((((x1.length:Int) != (x0.A3.length:Int)) || ((decide ((x2.length:Int)>0))&&((x2.length:Int) != (x0.A3.length:Int)))) || ((x3.length:Int) != (x0.A3.length:Int)))
def Ao6 (x1:List Int) (n0:Nat) (a0:Ay) (z0:(List Ay)):Option (Ctl ((List Ay)) Unit):=
 (getI x1 (cnt 0 n0)).bind λ y14=>(A1f a0 y14).bind λ y16=>(appI 65 z0 [y16]).bind λ y18=>some (.next y18)
def Ao5 (n1:Nat) (a1:Cg) (z1:Unit):Option (Ctl Unit (Cc×Int)):=
 (Ul [a1.X,a1.Y] (-5000) 5000).bind λ y20=>bif !y20 then some (.ret (⟨[],[]⟩,1)) else some (.next ())
def Ao7 (x0:Ca) (x1:List Int) (x2:List Cg) (x3:List Int):Option (Cc×Int):=
 (Xs x0).bind λ y1=>bif (y1 != 0) then none else bif (Ar1 x0 x1 x2 x3) then none else (Ul x1 0 5000).bind λ y5=>(Ar [(!y5,false)] (Ul x3 (-5000) 5000) default).bind λ y7=>bif ((!y5) || (!y7)) then none else andThen (foldI (Ao6 x1) x0.A3 0 []) (λ _=>none) λ z0=>andThen (foldI Ao5 x2 0 ()) some λ z1=>some (⟨z0,x2⟩,0)
def A1p (x0:Ca) (x1:List Int) (x2:List Cg) (x3:Ck):Option (Cc×Int):=
 (mkI 9 (x0.A3.length:Int) 0).bind λ y1=>(Ao7 x0 x1 x2 y1).bind λ y3=>(Ar [((y3.2==0),true)] (Ul [x3.Surge,x3.Bow,x3.Stern] (-500000) 500000) default).bind λ y5=>bif ((y3.2==0)&&(!y5)) then none else some (y3.1,y3.2)
def Ads (x0:Int) (x1:Int):Bool:=
 ((decide ((max x0 x1)<=1000000000))&&(decide ((min x0 x1)>=(-1000000000))))
def Awf (x0:Int):Option (Ctl (Int×Int) Unit):=
 bif decide ((E0 x0)>1800) then some (.next (w64 ((E0 x0)-1800),(-1))) else some (.next (E0 x0,1))
def Ajx (x0:Int):Option Int:=
 andThen (Awf x0) (λ _=>none) λ z0=>(As9 (w64 (40000*(w64 (z0.1*(w64 (1800-z0.1)))))) (w64 (4050000-(w64 (z0.1*(w64 (1800-z0.1))))))).bind λ y2=>some (w64 (z0.2*y2.1))
def As2 (x0:Int):Option Int:=
 (Ajx (w64 ((E0 x0)+900))).bind λ y1=>some y1
def As3 (x0:Int) (x1:Int) (x2:Int):Option Int:=
 bif !(Ads x1 x2) then some 0 else (As2 x0).bind λ y2=>(Ajx x0).bind λ y4=>some (w64 ((w64 (y2*x2))-(w64 (y4*x1))))
def Azq (x0:Cf) (x1:Int) (x2:Int):Bool:=(((!(Xm x0)) || ((x1==0)&&(x2==0))) || (!(Ads x1 x2)))
def A1d (x0:Cf) (x1:Int) (x2:Int):Option Bool:=
 bif (Azq x0 x1 x2) then some false else (As3 x0.From x1 x2).bind λ y2=>(Ar [(decide (y2>0),false)] (As2 x0.From) default).bind λ y4=>(Ar [(decide (y2>0),false)] (Ajx x0.From) default).bind λ y6=>(Ar [(decide (y2>=0),true)] (As3 x0.To x1 x2) default).bind λ y8=>some (((decide (y2>=0))&&(decide (y8<=0)))&&((decide (y2>0)) || (decide ((w64 ((w64 (y4*x1))+(w64 (y6*x2))))>0))))
def Aov (x0:Cf) (x1:Int) (x2:Int):Option Bool:=
 (A1d x0 x1 x2).bind λ y1=>some y1
def Apd (x1c0:Int) (x1c1:Int) (n0:Nat) (a0:Cf) (z0:Unit):Option (Ctl Unit (Int×Int×Int)):=
 (Aov a0 x1c0 x1c1).bind λ y1=>bif y1 then some (.ret (cnt 0 n0,x1c0,x1c1)) else some (.next ())
def Ape (x0:List Cf) (x1c0:Int) (x1c1:Int):Option (Int×Int×Int):=
 andThen (foldI (Apd x1c0 x1c1) x0 0 ()) some λ z0=>some ((-1),x1c0,x1c1)
def Apn (x0:List Cf) (x1c0:Int) (x1c1:Int):Option (Bool×Int×Int):=
 (Ape x0 x1c0 x1c1).bind λ y1=>some (decide (y1.1>=0),y1.2.1,y1.2.2)
def Azs (x0:Ay) (x1:Int) (x2:Int):Bool:=(((((decide ((max x1 x2)>x0.Max)) || (decide ((min x1 x2)<(w64 (0-x0.Max))))) || (decide ((w64 ((w64 (x1*x1))+(w64 (x2*x2))))>(w64 (x0.Max*x0.Max))))) || ((x0.Kind==1)&&(x1 != 0))) || ((x0.Kind==2)&&(x2 != 0)))
def As5 (x0:Ay) (x1:Int) (x2:Int):Option Bool:=
 bif (Azs x0 x1 x2) then some false else (Apn x0.Db x1 x2).bind λ y2=>some (!y2.1)
def Y5 (x0:Int) (x1:Ay):Option Bool:=
 (As5 x1 0 x0).bind λ y1=>some y1
def Ao0 (x0c0:Ay) (z0:Int):Option (Ctl Int Unit):=
 (Y5 (w64 (z0-1)) x0c0).bind λ y6=>bif y6 then some (.next (w64 (z0-1))) else some (.brk z0)
def Aoz (x0c0:Ay) (z1:Int):Option (Ctl Int Unit):=
 (Y5 (w64 (z1+1)) x0c0).bind λ y11=>bif y11 then some (.next (w64 (z1+1))) else some (.brk z1)
def Ao1 (x0c0:Ay):Option (Int×Int×Ay):=
 (Y5 0 x0c0).bind λ y1=>bif !y1 then none else andThen (whileN (Ao0 x0c0) 1152921504606846976 0) (λ _=>none) λ z0=>andThen (whileN (Aoz x0c0) 1152921504606846976 0) (λ _=>none) λ z1=>some (z0,z1,x0c0)
def A1j (x0:Ay):Option (Int×Int):=
 (Xq x0).bind λ y1=>bif !y1 then none else (Ao1 x0).bind λ y4=>some (y4.1,y4.2.1)
def Ao4 (x0:Cc) (x1:Int) (x2:Int) (x3:Int):Option B5:=
 (getI x0.thrusters x1).bind λ y1=>bif decide ((x0.last.length:Int)>0) then none else some ⟨x2,x3,y1.Cost⟩
def Awn (x0:Cc) (x1:Int) (n0:Nat) (a0:Ay) (z0:(List B5)):Option (Ctl ((List B5)) Unit):=
 bif (a0.Station != x1) then (appI 25 z0 [⟨0,0,a0.Cost⟩]).bind λ y2=>some (.next y2) else (A1j a0).bind λ y4=>(Ao4 x0 (cnt 0 n0) y4.1 y4.2).bind λ y6=>(appI 25 z0 [y6]).bind λ y8=>some (.next y8)
def Atd (x0:Cc) (x1:Int):Option ((List B5)):=
 andThen (foldI (Awn x0 x1) x0.thrusters 0 []) (λ _=>none) λ z0=>some z0
def Azt (a0:B5):Bool:=(((((decide (a0.Low<(-5000))) || (decide (a0.Low>a0.High))) || (decide (a0.High>5000))) || (decide (a0.Cost<1))) || (decide (a0.Cost>100)))
def Awg (n0:Nat) (a0:B5) (z0:Unit):Option (Ctl Unit Unit):=
 bif (Azt a0) then none else some (.next ())
def A1e (x0:List B5):Option Int:=
 bif decide ((x0.length:Int)>8) then none else andThen (foldI Awg x0 0 ()) (λ _=>none) λ z0=>some 0
def Awi (n0:Nat) (a0:B5) (z0:Int×Int):Option (Ctl (Int×Int) Unit):=
 some (.next (w64 (z0.1+a0.Low),w64 (z0.2+a0.High)))
def A1k (x0:List B5):Option (Int×Int×Int):=
 (A1e x0).bind λ y1=>bif (y1 != 0) then none else andThen (foldI Awi x0 0 (0,0)) (λ _=>none) λ z0=>some (z0.1,z0.2,0)
def N8 (x0:Int) (x1:Int) (x2:Int):Int:=
 max x1 (min x0 x2)
def Ar2 (x0:Int) (x1:Int):Bool:=((((decide (x0<(-1000000000000000000))) || (decide (x0>1000000000000000000))) || (decide (x1<1))) || (decide (x1>1000000000)))
def Ao9 (x0:Int) (x1:Int):Option (Int×Int):=
 bif (Ar2 x0 x1) then some (0,1) else (Ad2 x0 x1).bind λ y2=>some (y2,0)
def As8 (x0:Int) (x1:Int):Option (Int×Int):=
 (Ao9 x0 x1).bind λ y1=>some (y1.1,y1.2)
def Awh (x1:Int) (n0:Nat) (a0:B5) (z0:Int×(List Int)):Option (Ctl (Int×(List Int)) Unit):=
 (As8 (w64 (x1+a0.Cost)) (w64 (2*a0.Cost))).bind λ y1=>(appI 9 z0.2 [N8 y1.1 a0.Low a0.High]).bind λ y3=>some (.next (w64 (z0.1+(N8 y1.1 a0.Low a0.High)),y3))
def As7 (x0:List B5) (x1:Int):Option ((List Int)×Int):=
 andThen (foldI (Awh x1) x0 0 (0,[])) (λ _=>none) λ z0=>some (z0.2,z0.1)
def As6 (x0:B5) (x1:Int):Int:=
 w64 (x0.Cost*(w64 ((w64 (2*x1))+1)))
def Azy (x1:Int):Bool:=((decide (x1<(-500000))) || (decide (x1>500000)))
def Awp (x0:List B5) (x1:Int) (y1:Int×Int×Int) (z0:Int×Int):Option (Ctl (Int×Int) Unit):=
 bif decide (z0.2<z0.1) then (As8 (w64 (z0.2+z0.1)) 2).bind λ y6=>(As7 x0 y6.1).bind λ y8=>bif decide (y8.2>=(N8 x1 y1.1 y1.2.1)) then some (.next (y6.1,z0.2)) else some (.next (z0.1,w64 (y6.1+1))) else some (.brk (z0.1,z0.2))
def Azx (x1:Int) (y1:Int×Int×Int) (z0:Int×Int) (z1:Int×(List Int)) (a1:B5) (y13:Int) (y15:Int):Bool:=(((decide (z1.1<(N8 x1 y1.1 y1.2.1)))&&(decide (y13<a1.High)))&&((As6 a1 y15)==z0.2))
def Awo (x1:Int) (y1:Int×Int×Int) (z0:Int×Int) (n1:Nat) (a1:B5) (z1:Int×(List Int)):Option (Ctl (Int×(List Int)) Unit):=
 (Ar [(decide (z1.1<(N8 x1 y1.1 y1.2.1)),true)] (getI z1.2 (cnt 0 n1)) default).bind λ y13=>(Ar [(((decide (z1.1<(N8 x1 y1.1 y1.2.1)))&&(decide (y13<a1.High))),true)] (getI z1.2 (cnt 0 n1)) default).bind λ y15=>bif (Azx x1 y1 z0 z1 a1 y13 y15) then (getI z1.2 (cnt 0 n1)).bind λ y18=>(setI z1.2 (cnt 0 n1) (w64 (y18+1))).bind λ y20=>some (.next (w64 (z1.1+1),y20)) else some (.next (z1.1,z1.2))
def Aj4 (x0:List B5) (x1:Int):Option ((List Int)×Int×Int):=
 (A1k x0).bind λ y1=>bif (y1.2.2 != 0) then none else bif (Azy x1) then none else andThen (whileN (Awp x0 x1 y1) 1152921504606846976 (1000200,(-1000200))) (λ _=>none) λ z0=>(As7 x0 (w64 (z0.2-1))).bind λ y11=>andThen (foldI (Awo x1 y1 z0) x0 0 (y11.2,y11.1)) (λ _=>none) λ z1=>some (z1.2,w64 (x1-(N8 x1 y1.1 y1.2.1)),0)
def Y4 (x0:Int) (x1:Ay) (x2:Int):Option Bool:=
 (As5 x1 x0 x2).bind λ y1=>some y1
def Aox (x0c0:Ay) (x0c1:Int) (z0:Int):Option (Ctl Int Unit):=
 (Y4 (w64 (z0-1)) x0c0 x0c1).bind λ y6=>bif y6 then some (.next (w64 (z0-1))) else some (.brk z0)
def Aow (x0c0:Ay) (x0c1:Int) (z1:Int):Option (Ctl Int Unit):=
 (Y4 (w64 (z1+1)) x0c0 x0c1).bind λ y11=>bif y11 then some (.next (w64 (z1+1))) else some (.brk z1)
def Aoy (x0c0:Ay) (x0c1:Int):Option (Int×Int×Ay×Int):=
 (Y4 0 x0c0 x0c1).bind λ y1=>bif !y1 then none else andThen (whileN (Aox x0c0 x0c1) 1152921504606846976 0) (λ _=>none) λ z0=>andThen (whileN (Aow x0c0 x0c1) 1152921504606846976 0) (λ _=>none) λ z1=>some (z0,z1,x0c0,x0c1)
def A1i (x0:Ay) (x1:Int):Option (Int×Int):=
 (Xq x0).bind λ y1=>bif !y1 then none else (Aoy x0 x1).bind λ y4=>some (y4.1,y4.2.1)
def Ao3 (x0:Cc) (x1:Int) (x2:Int) (x3:Int):Option B5:=
 (getI x0.thrusters x1).bind λ y1=>bif decide ((x0.last.length:Int)>0) then none else some ⟨x2,x3,y1.Cost⟩
def Awm (x0:Cc) (x1:List Int) (n0:Nat) (a0:Ay) (z0:(List B5)):Option (Ctl ((List B5)) Unit):=
 (getI x1 (cnt 0 n0)).bind λ y1=>(A1i a0 y1).bind λ y3=>(Ao3 x0 (cnt 0 n0) y3.1 y3.2).bind λ y5=>(appI 25 z0 [y5]).bind λ y7=>some (.next y7)
def A1o (x0:Cc) (x1:List Int):Option ((List B5)):=
 andThen (foldI (Awm x0 x1) x0.thrusters 0 []) (λ _=>none) λ z0=>some z0
def Azw (x0:Ca) (x1:List Cg):Bool:=((x1.length:Int) != (x0.A3.length:Int))
def Awl (x0:Ca) (n0:Nat) (a0:Cg) (z0:Int×Int):Option (Ctl (Int×Int) Unit):=
 bif !(Xl a0) then none else (getI x0.A3 (cnt 0 n0)).bind λ y6=>bif (y6.Station==0) then some (.next (w64 (z0.1+a0.X),w64 (z0.2+a0.Y))) else none
def A1n (x0:Ca) (x1:List Cg):Option (Ck×Int):=
 (Xs x0).bind λ y1=>bif (y1 != 0) then none else bif (Azw x0 x1) then none else andThen (foldI (Awl x0) x1 0 (0,0)) (λ _=>none) λ z0=>some (⟨z0.1,z0.2,0⟩,0)
def Atc (x0:Ck) (x1:Ck):Ck:=
 ⟨w64 (x0.Surge-x1.Surge),w64 (x0.Bow-x1.Bow),w64 (x0.Stern-x1.Stern)⟩
def Awv (y6:(List Int)×Int×Int) (n0:Nat) (a0:Int) (z0:(List Int)):Option (Ctl ((List Int)) Unit):=
 (getI z0 (cnt 0 n0)).bind λ y12=>(getI y6.1 (cnt 0 n0)).bind λ y14=>(setI z0 (cnt 0 n0) (w64 (y12+y14))).bind λ y16=>some (.next y16)
def Awu (y20:(List Int)×Int×Int) (n1:Nat) (a1:Int) (z1:(List Cg)):Option (Ctl ((List Cg)) Unit):=
 (getI y20.1 (cnt 0 n1)).bind λ y22=>(appI 17 z1 [⟨y22,a1⟩]).bind λ y24=>some (.next y24)
def A1w (x0:Ca) (x1:List Int) (x2:List Cg) (x3:Ck):Option (I0×Int):=
 (A1p x0 x1 x2 x3).bind λ y1=>bif (y1.2 != 0) then none else (Atd y1.1 0).bind λ y4=>(Aj4 y4 x3.Bow).bind λ y6=>(Atd y1.1 1).bind λ y8=>(Aj4 y8 x3.Stern).bind λ y10=>andThen (foldI (Awv y6) y10.1 0 y10.1) (λ _=>none) λ z0=>(A1o y1.1 z0).bind λ y18=>(Aj4 y18 x3.Surge).bind λ y20=>andThen (foldI (Awu y20) z0 0 []) (λ _=>none) λ z1=>(A1n x0 z1).bind λ y26=>some (⟨z1,y26.1,(Atc x3 y26.1)⟩,0)
def A13 (x0:Ca) (x1:List Int) (x2:Bj):Option (Ck×Int):=
 (A1x x0 x2).bind λ y1=>bif (y1.2 != 0) then none else (A1w x0 x1 [] y1.1).bind λ y4=>bif (y4.2 != 0) then none else some (y4.1.Missing,0)
def A19 (x0:Ca) (x1:List Int) (x2:Bj):Option Bool:=
 (A13 x0 x1 x2).bind λ y1=>some ((y1.2==0)&&((y1.1.Surge==0)&&((y1.1.Bow==0)&&((y1.1.Stern==0)&&true))))
def F69 (x0:Bb) (x1:As) (x2:List Ab) (x3:List Ab) (x4:Bj):Option Bool:=
 (F14 x0 x1 x2 x3).bind λ y1=>(Ar [((y1.2.2==0),true)] (A19 x0.Ship y1.2.1 x4) default).bind λ y3=>some ((y1.2.2==0)&&y3)
def F26 (x0:Bb) (x1:As) (x2:List Ab) (x3:Bj):Option (List Be×Int):=Xf F14 F21 F53 F69 x0 x1 x2 x3
def A23 (a0:Be) (y2:Be):Bool:=!(((a0.Part.Kind==y2.Part.Kind)&&((a0.Part.Number==y2.Part.Number)&&true))&&((a0.Holds==y2.Holds)&&true))
def A1h (x1:List Be) (n0:Nat) (a0:Be) (z0:Unit):Option (Ctl Unit Unit):=
 (getI x1 (cnt 0 n0)).bind λ y2=>bif (A23 a0 y2) then none else some (.next ())
def F37 (x0:List Be) (x1:List Be):Option Bool:=
 bif ((x0.length:Int) != (x1.length:Int)) then none else andThen (foldI (A1h x1) x0 0 ()) (λ _=>none) λ z0=>some true
def F22 (x0:Bb) (x1:As) (x2:List Ab) (x3:Bj):Option Bool:=
 (F69 x0 x1 x2 [] x3).bind λ y1=>some y1
def F71 (x0:Bb) (x1:As) (x2:List Ab) (x3:Bj):Option (Ab×Bool):=Abr F21 F53 F69 x0 x1 x2 x3
def F25 (x0:Bb) (x1:As) (x2:List Ab) (x3:Bj):Option Bool:=
 (F22 x0 x1 x2 x3).bind λ y1=>bif !y1 then none else (F71 x0 x1 x2 x3).bind λ y4=>some (!y4.2)
def F9:Option Bool:=
 (F42).bind λ y1=>(F26 y1.1 y1.2 [] ⟨(-150),0,0⟩).bind λ y3=>(Ar [((y3.2==0),true)] (getI y1.1.Design.Parts 0) default).bind λ y5=>(Ar [((y3.2==0),true)] (getI y1.1.Design.Parts 1) default).bind λ y7=>(Ar [((y3.2==0),true)] (getI y1.1.Design.Parts 2) default).bind λ y9=>(Ar [((y3.2==0),true)] (F37 y3.1 [⟨y5,true⟩,⟨y7,true⟩,⟨y9,false⟩]) default).bind λ y11=>(Ar [(((y3.2==0)&&y11),true)] (F22 y1.1 y1.2 [] ⟨(-150),0,0⟩) default).bind λ y13=>(Ar [((((y3.2==0)&&y11)&&y13),true)] (F25 y1.1 y1.2 [] ⟨(-150),0,0⟩) default).bind λ y15=>(Ar [(((((y3.2==0)&&y11)&&y13)&&(!y15)),true)] (F22 y1.1 y1.2 [] ⟨(-201),0,0⟩) default).bind λ y17=>some (((((y3.2==0)&&y11)&&y13)&&(!y15))&&(!y17))
def F10 (x0:List Int):Option Af:=
 (cutI x0 0 (min (x0.length:Int) 600)).bind λ y2=>some ⟨y2,0⟩
def F94 (x0:Int) (x1:Int):Option Int:=
 bif decide (x1<1) then some 0 else (nzI x1).bind λ u3=>(nzI x1).bind λ u5=>some (Int.tmod (w64 ((Int.tmod x0 x1)+x1)) x1)
def F44 (x0:Af) (x1:Int):Option (Int×Af):=
 bif decide (x0.At>=(x0.L.length:Int)) then some (0,x0) else (getI x0.L (w64 ((w64 (x0.At+1))-1))).bind λ y2=>(F94 y2 x1).bind λ y4=>some (y4,⟨x0.L,w64 (x0.At+1)⟩)
def F20 (x0:Af) (x1:List Int):Option (Int×Af):=
 (F44 x0 (x1.length:Int)).bind λ y1=>(getI x1 y1.1).bind λ y3=>some (y3,y1.2)
def Ag8 (n0:Nat) (a0:Int) (z0:(List Int)×Int×(List Int)):Option (Ctl ((List Int)×Int×(List Int)) Unit):=
 (F20 ⟨z0.1,z0.2.1⟩ [0,100,(-300),700,(-1000),1000]).bind λ y3=>(getI z0.2.2 (cnt 0 n0)).bind λ y5=>(setI z0.2.2 (cnt 0 n0) y3.1).bind λ y7=>some (.next (y3.2.L,y3.2.At,y7))
def uE (x0:Af):Option ((List Int)×Af):=
 (mkI 9 12 0).bind λ y1=>andThen (foldI Ag8 y1 0 (x0.L,x0.At,y1)) (λ _=>none) λ z0=>some (z0.2.2,⟨z0.1,z0.2.1⟩)
def uW (x0:Af):Option (Hd×Af):=
 (uE x0).bind λ y1=>(uE y1.2).bind λ y3=>(uE y3.2).bind λ y5=>some (⟨y1.1,y3.1,y5.1⟩,y5.2)
def F82 (x0:Af):Option (Lc×Af):=
 (uW x0).bind λ y1=>(uW y1.2).bind λ y3=>(uW y3.2).bind λ y5=>(F20 y5.2 [1000,1,30,5000,1000000]).bind λ y7=>(F20 y7.2 [100000,1,500,1073741824]).bind λ y9=>(F20 y9.2 [0,1,w64 (Int.tdiv y7.1 10),y7.1]).bind λ y11=>(F20 y11.2 [0,1,w64 (Int.tdiv y9.1 10),y9.1]).bind λ y13=>some (⟨y1.1,y3.1,y5.1,y7.1,y9.1,min y11.1 y7.1,min y13.1 y9.1⟩,y13.2)
def F67 (x0:Af) (x1:Int) (x2:Int):Option (Int×Af):=
 (F44 x0 (w64 ((w64 (x2-x1))+1))).bind λ y1=>some (w64 (x1+y1.1),y1.2)
def Akf (x0:Af):Option (Cf×Af):=
 (F20 x0 [0,450,800,1350,1800,2600,3500]).bind λ y1=>(F20 y1.2 [0,100,300,900,1799]).bind λ y3=>some (⟨y1.1,Int.tmod (w64 (y1.1+y3.1)) 3600⟩,y3.2)
def Ahr (z0:Int×(List Int)×Int×(List Cf)):Option (Ctl (Int×(List Int)×Int×(List Cf)) Unit):=
 bif decide (z0.1>0) then (Akf ⟨z0.2.1,z0.2.2.1⟩).bind λ y14=>(appI 17 z0.2.2.2 [y14.1]).bind λ y16=>some (.next (w64 (z0.1-1),y14.2.L,y14.2.At,y16)) else some (.brk (z0.1,z0.2.1,z0.2.2.1,z0.2.2.2))
def Akt (x0:Af):Option (Ay×Af):=
 (F67 x0 1 3).bind λ y1=>(F44 y1.2 2).bind λ y3=>(F20 y3.2 [0,1,7,20,40]).bind λ y5=>(F20 y5.2 [0,1,5,50]).bind λ y7=>(F20 y7.2 [1,2,3,100]).bind λ y9=>(F44 y9.2 3).bind λ y11=>andThen (whileN Ahr 1152921504606846976 (y11.1,y11.2.L,y11.2.At,[])) (λ _=>none) λ z0=>some (⟨y1.1,y3.1,y5.1,y7.1,y9.1,z0.2.2.2⟩,⟨z0.2.1,z0.2.2.1⟩)
def Aoh (z0:Int×(List Int)×Int×(List Ay)):Option (Ctl (Int×(List Int)×Int×(List Ay)) Unit):=
 bif decide (z0.1>0) then (Akt ⟨z0.2.1,z0.2.2.1⟩).bind λ y10=>(appI 65 z0.2.2.2 [y10.1]).bind λ y12=>some (.next (w64 (z0.1-1),y10.2.L,y10.2.At,y12)) else some (.brk (z0.1,z0.2.1,z0.2.2.1,z0.2.2.2))
def F83 (x0:Af) (x1:Int):Option (Ca×Af):=
 (F20 x0 [0,1,30,60]).bind λ y1=>(F20 y1.2 [1,25,40]).bind λ y3=>(F44 y3.2 (w64 (x1+1))).bind λ y5=>andThen (whileN Aoh 1152921504606846976 (y5.1,y5.2.L,y5.2.At,[])) (λ _=>none) λ z0=>some (⟨y1.1,y3.1,z0.2.2.2⟩,⟨z0.2.1,z0.2.2.1⟩)
def Adn (y1:Int×Af) (z0:Sg3):Option (Ctl (Sg3) Unit):=
 bif decide (z0.1<y1.1) then (F44 ⟨z0.2.1,z0.2.2.1⟩ 6).bind λ y8=>bif decide (y8.1<5) then (F44 y8.2 z0.1).bind λ y11=>(appI 25 z0.2.2.2 [⟨1,y11.1,z0.1⟩]).bind λ y13=>some (.next (w64 (z0.1+1),y11.2.L,y11.2.At,y13)) else some (.next (w64 (z0.1+1),y8.2.L,y8.2.At,z0.2.2.2)) else some (.brk (z0.1,z0.2.1,z0.2.2.1,z0.2.2.2))
def Aog (y1:Int×Af) (z0:Sg3) (y15:Int×Af):Option (Ctl ((List Ak)) Unit):=
 bif ((decide (y1.1>2))&&(y15.1==1)) then (appI 25 z0.2.2.2 [⟨1,0,w64 (y1.1-1)⟩]).bind λ y18=>some (.next y18) else some (.next z0.2.2.2)
def Adm (y1:Int×Af) (z2:Int×(List Int)×Int×(List Ak)×(List B1)):Option (Ctl (Int×(List Int)×Int×(List Ak)×(List B1)) Unit):=
 bif decide (z2.1>0) then (F44 ⟨z2.2.1,z2.2.2.1⟩ y1.1).bind λ y23=>(appI 25 z2.2.2.2.1 [⟨2,y23.1,(z2.2.2.2.2.length:Int)⟩]).bind λ y25=>(F20 y23.2 [10,50,100]).bind λ y27=>(F20 y27.2 [0,5,y27.1]).bind λ y29=>(F20 y29.2 [0,1,3]).bind λ y31=>(appI 25 z2.2.2.2.2 [⟨y27.1,y29.1,y31.1⟩]).bind λ y33=>some (.next (w64 (z2.1-1),y31.2.L,y31.2.At,y25,y33)) else some (.brk (z2.1,z2.2.1,z2.2.2.1,z2.2.2.2.1,z2.2.2.2.2))
def Aof (y1:Int×Af) (z3:Sg4) (y38:Int×Af) (y40:List Ak) (y42:Int×Af):Option (Ctl ((List Ak)) Unit):=
 bif ((decide (y1.1>1))&&(y42.1==3)) then (nzI y1.1).bind λ u46=>(appI 25 y40 [⟨3,Int.tmod (w64 (y38.1+1)) y1.1,(z3.2.2.2.2.length:Int)⟩]).bind λ y47=>some (.next y47) else some (.next y40)
def At7 (z3:Sg4) (y57:Int×Af):Bool:=((decide ((z3.2.2.2.2.length:Int)>0))&&(y57.1==3))
def Adl (y1:Int×Af) (z3:Sg4):Option (Ctl (Sg4) Unit):=
 bif decide (z3.1>0) then (F44 ⟨z3.2.1,z3.2.2.1⟩ y1.1).bind λ y38=>(appI 25 z3.2.2.2.1 [⟨3,y38.1,(z3.2.2.2.2.length:Int)⟩]).bind λ y40=>(Ar [(decide (y1.1>1),true)] (F44 y38.2 4) (default,y38.2)).bind λ y42=>andThen (Aof y1 z3 y38 y40 y42) (λ _=>none) λ z4=>(F20 y42.2 [0,5,20,40]).bind λ y49=>(F20 y49.2 [0,w64 (Int.tdiv y49.1 2),y49.1]).bind λ y51=>(F44 y51.2 3).bind λ y53=>(F67 y53.2 (-1) 2).bind λ y55=>(Ar [(decide ((z3.2.2.2.2.length:Int)>0),true)] (F44 y55.2 4) (default,y55.2)).bind λ y57=>bif (At7 z3 y57) then (F44 y57.2 (z3.2.2.2.2.length:Int)).bind λ y60=>(appI 57 z3.2.2.2.2 [⟨y49.1,y51.1,y53.1,y55.1,[y60.1]⟩]).bind λ y62=>some (.next (w64 (z3.1-1),y60.2.L,y60.2.At,z4,y62)) else (appI 57 z3.2.2.2.2 [⟨y49.1,y51.1,y53.1,y55.1,[]⟩]).bind λ y64=>some (.next (w64 (z3.1-1),y57.2.L,y57.2.At,z4,y64)) else some (.brk (z3.1,z3.2.1,z3.2.2.1,z3.2.2.2.1,z3.2.2.2.2))
def F84 (x0:Af):Option (Aa×Af):=
 (F67 x0 1 4).bind λ y1=>(F20 y1.2 [0,50,200,1800]).bind λ y3=>(F20 y3.2 [0,10,50]).bind λ y5=>andThen (whileN (Adn y1) 1152921504606846976 (1,y5.2.L,y5.2.At,[])) (λ _=>none) λ z0=>(Ar [(decide (y1.1>2),true)] (F44 ⟨z0.2.1,z0.2.2.1⟩ 2) (default,⟨z0.2.1,z0.2.2.1⟩)).bind λ y15=>andThen (Aog y1 z0 y15) (λ _=>none) λ z1=>(F44 y15.2 5).bind λ y20=>andThen (whileN (Adm y1) 1152921504606846976 (y20.1,y20.2.L,y20.2.At,z1,[])) (λ _=>none) λ z2=>(F44 ⟨z2.2.1,z2.2.2.1⟩ 6).bind λ y35=>andThen (whileN (Adl y1) 1152921504606846976 (y35.1,y35.2.L,y35.2.At,z2.2.2.2.1,[])) (λ _=>none) λ z3=>some (⟨y1.1,z3.2.2.2.1,z2.2.2.2.2,z3.2.2.2.2,y3.1,y5.1⟩,⟨z3.2.1,z3.2.2.1⟩)
def F85 (x0:Af):Option (Bt×Af):=
 (F20 x0 [60,80,100]).bind λ y1=>(F20 y1.2 [1,30,50]).bind λ y3=>(F20 y3.2 [0,1,3]).bind λ y5=>some (⟨y1.1,y3.1,y5.1⟩,y5.2)
def Atl (x0:Af):Option (Dm×Af):=
 (F44 x0 4).bind λ y1=>(F20 y1.2 [0,10,100]).bind λ y3=>(F20 y3.2 [1,3,10]).bind λ y5=>(F20 y5.2 [0,0,2,4]).bind λ y7=>some (⟨y1.1,y3.1,y5.1,y7.1⟩,y7.2)
def Aoe (z0:Int×(List Int)×Int×(List Dm)):Option (Ctl (Int×(List Int)×Int×(List Dm)) Unit):=
 bif decide (z0.1>0) then (Atl ⟨z0.2.1,z0.2.2.1⟩).bind λ y4=>(appI 33 z0.2.2.2 [y4.1]).bind λ y6=>some (.next (w64 (z0.1-1),y4.2.L,y4.2.At,y6)) else some (.brk (z0.1,z0.2.1,z0.2.2.1,z0.2.2.2))
def F86 (x0:Af) (x1:Int):Option ((List Dm)×Af):=
 (F44 x0 (w64 (x1+1))).bind λ y1=>andThen (whileN Aoe 1152921504606846976 (y1.1,y1.2.L,y1.2.At,[])) (λ _=>none) λ z0=>some (z0.2.2.2,⟨z0.2.1,z0.2.2.1⟩)
def F87 (x0:Af):Option (L6×Af):=
 (F20 x0 [0,10,100,1000]).bind λ y1=>(F20 y1.2 [0,1,5]).bind λ y3=>(F20 y3.2 [0,50,500]).bind λ y5=>(F20 y5.2 [0,100]).bind λ y7=>(F20 y7.2 [0,3]).bind λ y9=>(F20 y9.2 [0,70]).bind λ y11=>(F20 y11.2 [0,500,10000]).bind λ y13=>(F20 y13.2 [0,20,60]).bind λ y15=>(F20 y15.2 [0,500,3000]).bind λ y17=>some (⟨y1.1,y3.1,y5.1,y7.1,y9.1,y11.1,y13.1,y15.1,y17.1⟩,y17.2)
def F79 (x0:Af) (x1:List ByteArray):Option (ByteArray×Af):=
 (F44 x0 (x1.length:Int)).bind λ y1=>(getI x1 y1.1).bind λ y3=>some (y3,y1.2)
def Aks (x0:Af):Option (Kw×Af):=
 (F20 x0 [0,300,500,2000]).bind λ y1=>(F20 y1.2 [0,0,200]).bind λ y3=>(F20 y3.2 [0,0,(-100)]).bind λ y5=>(F20 y5.2 [0,500,3000]).bind λ y7=>some (⟨⟨y3.1,y5.1⟩,y1.1,w64 (y1.1+y7.1)⟩,y7.2)
def F88 (x0:Af):Option (Hp×Af):=
 (F79 x0 [(⟨#[100,114,105,108,108]⟩:ByteArray),(⟨#[100,105,118,101]⟩:ByteArray),(⟨#[97,45,49]⟩:ByteArray)]).bind λ y1=>(F67 y1.2 1 3).bind λ y3=>(Aks y3.2).bind λ y5=>(F20 y5.2 [0,10,50,1000]).bind λ y7=>some (⟨y1.1,y3.1,y5.1,y7.1⟩,y7.2)
def Aoc (x1:Int) (x2:Int) (z0:Int×(List Int)×Int×(List Int)):Option (Ctl (Int×(List Int)×Int×(List Int)) Unit):=
 bif decide (z0.1<x1) then (F44 ⟨z0.2.1,z0.2.2.1⟩ x2).bind λ y2=>bif (y2.1==(w64 (x2-1))) then (appI 9 z0.2.2.2 [z0.1]).bind λ y5=>some (.next (w64 (z0.1+1),y2.2.L,y2.2.At,y5)) else some (.next (w64 (z0.1+1),y2.2.L,y2.2.At,z0.2.2.2)) else some (.brk (z0.1,z0.2.1,z0.2.2.1,z0.2.2.2))
def F91 (x0:Af) (x1:Int) (x2:Int):Option ((List Int)×Af):=
 andThen (whileN (Aoc x1 x2) 1152921504606846976 (0,x0.L,x0.At,[])) (λ _=>none) λ z0=>some (z0.2.2.2,⟨z0.2.1,z0.2.2.1⟩)
def At6 (z0:Sg8) (y3:Int×Af):Bool:=((decide (z0.1<=y3.1)) || (z0.1==0))
def Aod (z0:Sg8):Option (Ctl (Sg8) Unit):=
 (F44 ⟨z0.2.1,z0.2.2.1⟩ 5).bind λ y3=>bif (At6 z0 y3) then bif (z0.1==12) then some (.brk (z0.1,y3.2.L,y3.2.At,z0.2.2.2)) else (Ah2 [IntKind.wrap .u8 (w64 (97+z0.1))]).bind λ y17=>(nzI (Acl (⟨#[115]⟩:ByteArray) y17)).bind λ u20=>(F20 y3.2 [1,2,3,7]).bind λ y21=>(F67 y21.2 1 3).bind λ y23=>(F91 y23.2 z0.1 2).bind λ y25=>(appI 57 z0.2.2.2 [⟨((⟨#[115]⟩:ByteArray)++y17),y21.1,y23.1,y25.1⟩]).bind λ y27=>some (.next (w64 (z0.1+1),y25.2.L,y25.2.At,y27)) else some (.brk (z0.1,y3.2.L,y3.2.At,z0.2.2.2))
def F89 (x0:Af):Option (Kv×Af):=
 andThen (whileN Aod 1152921504606846976 (0,x0.L,x0.At,[])) (λ _=>none) λ z0=>some (⟨z0.2.2.2⟩,⟨z0.2.1,z0.2.2.1⟩)
def F90 (x0:Af):Option (Int×Af):=
 (F20 x0 [0,1,299,300,450,900,1800,2701,3599]).bind λ y1=>some (y1.1,y1.2)
def Agq (a0:Ab) (z1:(List Int)×Int×(List A6)) (a1:Ab) (y1:Int×Af):Bool:=(((!((a0.Kind==a1.Kind)&&((a0.Number==a1.Number)&&true)))&&(decide ((z1.2.2.length:Int)<20)))&&(y1.1==6))
def Adi (a0:Ab) (n1:Nat) (a1:Ab) (z1:(List Int)×Int×(List A6)):Option (Ctl ((List Int)×Int×(List A6)) Unit):=
 (Ar [(((!((a0.Kind==a1.Kind)&&((a0.Number==a1.Number)&&true)))&&(decide ((z1.2.2.length:Int)<20))),true)] (F44 ⟨z1.1,z1.2.1⟩ 7) (default,⟨z1.1,z1.2.1⟩)).bind λ y1=>bif (Agq a0 z1 a1 y1) then (appI 33 z1.2.2 [⟨a0,a1⟩]).bind λ y4=>some (.next (y1.2.L,y1.2.At,y4)) else some (.next (y1.2.L,y1.2.At,z1.2.2))
def Adk (x1:List Ab) (n0:Nat) (a0:Ab) (z0:(List Int)×Int×(List A6)):Option (Ctl ((List Int)×Int×(List A6)) Unit):=
 andThen (foldI (Adi a0) x1 0 (z0.1,z0.2.1,z0.2.2)) (λ _=>none) λ z1=>some (.next (z1.1,z1.2.1,z1.2.2))
def Aaj (x0:Af) (x1:List Ab):Option ((List A6)×Af):=
 andThen (foldI (Adk x1) x1 0 (x0.L,x0.At,[])) (λ _=>none) λ z0=>some (z0.2.2,⟨z0.1,z0.2.1⟩)
def F29 (x0:Ab) (x1:Ab):Bool:=
 ((decide (x0.Kind<x1.Kind)) || ((x0.Kind==x1.Kind)&&(decide (x0.Number<x1.Number))))
def qS (x0:List Ab) (x1:Ab) (z0:Int) (y3:Ab):Bool:=((decide (z0<(x0.length:Int)))&&(F29 y3 x1))
def Ado (x0:List Ab) (x1:Ab) (z0:Int):Option (Ctl Int Unit):=
 (Ar [(decide (z0<(x0.length:Int)),true)] (getI x0 z0) default).bind λ y3=>bif (qS x0 x1 z0 y3) then some (.next (w64 (z0+1))) else some (.brk z0)
def qR (x0:List Ab) (x1:Ab) (z0:Int) (y6:Ab):Bool:=((decide (z0<(x0.length:Int)))&&((y6.Kind==x1.Kind)&&((y6.Number==x1.Number)&&true)))
def Ow (x0:List Ab) (x1:Ab):Option ((List Ab)):=
 andThen (whileN (Ado x0 x1) 1152921504606846976 0) (λ _=>none) λ z0=>(Ar [(decide (z0<(x0.length:Int)),true)] (getI x0 z0) default).bind λ y6=>bif (qR x0 x1 z0 y6) then some x0 else (bndI x0.length 0 z0).bind λ u10=>(bndI x0.length z0 (x0.length:Int)).bind λ u12=>(appI 17 [x1] ((x0.drop (Int.toNat z0)).take ((Int.toNat (x0.length:Int))-(Int.toNat z0)))).bind λ y13=>(appI 17 (x0.take ((Int.toNat z0)-0)) y13).bind λ y15=>some y15
def Agp (x1:List Ab) (z0:Sg6):Bool:=((decide (z0.1>0))&&(decide ((x1.length:Int)>0)))
def Adg (n1:Nat) (a1:Ab) (z1:(List Int)×Int×(List Ab)):Option (Ctl ((List Int)×Int×(List Ab)) Unit):=
 (F44 ⟨z1.1,z1.2.1⟩ 4).bind λ y10=>bif (y10.1==3) then (Ow z1.2.2 a1).bind λ y13=>some (.next (y10.2.L,y10.2.At,y13)) else some (.next (y10.2.L,y10.2.At,z1.2.2))
def Adh (x1:List Ab) (z0:Sg6):Option (Ctl (Sg6) Unit):=
 bif (Agp x1 z0) then (getI [(⟨#[111,110,101]⟩:ByteArray),(⟨#[116,119,111]⟩:ByteArray),(⟨#[103,45,51]⟩:ByteArray),(⟨#[120]⟩:ByteArray)] z0.1).bind λ y4=>(F44 ⟨z0.2.1,z0.2.2.1⟩ (x1.length:Int)).bind λ y6=>(getI x1 y6.1).bind λ y8=>andThen (foldI Adg x1 0 (y6.2.L,y6.2.At,[y8])) (λ _=>none) λ z1=>(appI 41 z0.2.2.2 [⟨y4,z1.2.2⟩]).bind λ y15=>some (.next (w64 (z0.1-1),z1.1,z1.2.1,y15)) else some (.brk (z0.1,z0.2.1,z0.2.2.1,z0.2.2.2))
def Aai (x0:Af) (x1:List Ab):Option ((List Bn)×Af):=
 (F44 x0 4).bind λ y1=>andThen (whileN (Adh x1) 1152921504606846976 (y1.1,y1.2.L,y1.2.At,[])) (λ _=>none) λ z0=>some (z0.2.2.2,⟨z0.2.1,z0.2.2.1⟩)
def Aug (y5:Aa×Af) (z0:Sg5):Bool:=decide (z0.1<(y5.1.Ag.length:Int))
def Adr (y3:Ca×Af) (y5:Aa×Af) (z0:Sg5):Option (Ctl (Sg5) Unit):=
 bif (Aug y5 z0) then (F67 ⟨z0.2.1,z0.2.2.1⟩ (-1) (w64 ((y3.1.A3.length:Int)-1))).bind λ y26=>(getI z0.2.2.2 z0.1).bind λ y28=>(setI z0.2.2.2 z0.1 ⟨y28.Load,y28.Least,y28.Bz,y26.1,y28.Needs⟩).bind λ y30=>some (.next (w64 (z0.1+1),y26.2.L,y26.2.At,y30)) else some (.brk (z0.1,z0.2.1,z0.2.2.1,z0.2.2.2))
def Aou (n1:Nat) (n2:Nat) (a2:Int) (z2:(List Ab)):Option (Ctl ((List Ab)) Unit):=
 (appI 17 z2 [⟨cnt 0 n1,a2⟩]).bind λ y34=>some (.next y34)
def Adq (n1:Nat) (a1:Int) (z1:(List Int)×Int×(List Ab)):Option (Ctl ((List Int)×Int×(List Ab)) Unit):=
 (F91 ⟨z1.1,z1.2.1⟩ (min a1 3) 2).bind λ y32=>andThen (foldI (Aou n1) y32.1 0 z1.2.2) (λ _=>none) λ z2=>some (.next (y32.2.L,y32.2.At,z2))
def F43 (x0:Af):Option (Bb×Af):=
 (F82 x0).bind λ y1=>(F83 y1.2 2).bind λ y3=>(F84 y3.2).bind λ y5=>(F85 y5.2).bind λ y7=>(F86 y7.2 3).bind λ y9=>(F87 y9.2).bind λ y11=>(F20 y11.2 [0,1,3]).bind λ y13=>(F88 y13.2).bind λ y15=>(F89 y15.2).bind λ y17=>(F67 y17.2 (-50) 50).bind λ y19=>(F67 y19.2 (-50) 50).bind λ y21=>(F90 y21.2).bind λ y23=>andThen (whileN (Adr y3 y5) 1152921504606846976 (0,y23.2.L,y23.2.At,y5.1.Ag)) (λ _=>none) λ z0=>andThen (foldI Adq [0,(y5.1.Ae.length:Int),(y5.1.Ah.length:Int),y5.1.Am,(z0.2.2.2.length:Int),(y3.1.A3.length:Int),(y9.1.length:Int),0,0,2] 0 (z0.2.1,z0.2.2.1,[])) (λ _=>none) λ z1=>(Aaj ⟨z1.1,z1.2.1⟩ z1.2.2).bind λ y36=>(Aai y36.2 z1.2.2).bind λ y38=>some (⟨y1.1,y3.1,⟨y5.1.Am,y5.1.Ah,y5.1.Ae,z0.2.2.2,y5.1.Phase,y5.1.Aq⟩,y7.1,⟨z1.2.2,y36.1,y38.1⟩,y9.1,y11.1,⟨⟨y19.1,y21.1⟩,y23.1⟩,y13.1,y15.1,y17.1⟩,y38.2)
def A2w (a0:Ab) (z1:(List Int)×Int×(List A6)) (a1:Ab) (y1:Int×Af):Bool:=(((!((a0.Kind==a1.Kind)&&((a0.Number==a1.Number)&&true)))&&(decide ((z1.2.2.length:Int)<20)))&&(y1.1==6))
def A05 (a0:Ab) (n1:Nat) (a1:Ab) (z1:(List Int)×Int×(List A6)):Option (Ctl ((List Int)×Int×(List A6)) Unit):=
 (Ar [(((!((a0.Kind==a1.Kind)&&((a0.Number==a1.Number)&&true)))&&(decide ((z1.2.2.length:Int)<20))),true)] (F44 ⟨z1.1,z1.2.1⟩ 7) (default,⟨z1.1,z1.2.1⟩)).bind λ y1=>bif (A2w a0 z1 a1 y1) then (appI 33 z1.2.2 [⟨a0,a1⟩]).bind λ y4=>some (.next (y1.2.L,y1.2.At,y4)) else some (.next (y1.2.L,y1.2.At,z1.2.2))
def A06 (x1:List Ab) (n0:Nat) (a0:Ab) (z0:(List Int)×Int×(List A6)):Option (Ctl ((List Int)×Int×(List A6)) Unit):=
 andThen (foldI (A05 a0) x1 0 (z0.1,z0.2.1,z0.2.2)) (λ _=>none) λ z1=>some (.next (z1.1,z1.2.1,z1.2.2))
def F92 (x0:Af) (x1:List Ab):Option ((List A6)×Af):=
 andThen (foldI (A06 x1) x1 0 (x0.L,x0.At,[])) (λ _=>none) λ z0=>some (z0.2.2,⟨z0.1,z0.2.1⟩)
def A2v (x1:List Ab) (z0:Sg6):Bool:=((decide (z0.1>0))&&(decide ((x1.length:Int)>0)))
def A03 (n1:Nat) (a1:Ab) (z1:(List Int)×Int×(List Ab)):Option (Ctl ((List Int)×Int×(List Ab)) Unit):=
 (F44 ⟨z1.1,z1.2.1⟩ 4).bind λ y10=>bif (y10.1==3) then (Ow z1.2.2 a1).bind λ y13=>some (.next (y10.2.L,y10.2.At,y13)) else some (.next (y10.2.L,y10.2.At,z1.2.2))
def A04 (x1:List Ab) (z0:Sg6):Option (Ctl (Sg6) Unit):=
 bif (A2v x1 z0) then (getI [(⟨#[111,110,101]⟩:ByteArray),(⟨#[116,119,111]⟩:ByteArray),(⟨#[103,45,51]⟩:ByteArray),(⟨#[120]⟩:ByteArray)] z0.1).bind λ y4=>(F44 ⟨z0.2.1,z0.2.2.1⟩ (x1.length:Int)).bind λ y6=>(getI x1 y6.1).bind λ y8=>andThen (foldI A03 x1 0 (y6.2.L,y6.2.At,[y8])) (λ _=>none) λ z1=>(appI 41 z0.2.2.2 [⟨y4,z1.2.2⟩]).bind λ y15=>some (.next (w64 (z0.1-1),z1.1,z1.2.1,y15)) else some (.brk (z0.1,z0.2.1,z0.2.2.1,z0.2.2.2))
def F93 (x0:Af) (x1:List Ab):Option ((List Bn)×Af):=
 (F44 x0 4).bind λ y1=>andThen (whileN (A04 x1) 1152921504606846976 (y1.1,y1.2.L,y1.2.At,[])) (λ _=>none) λ z0=>some (z0.2.2.2,⟨z0.2.1,z0.2.2.1⟩)
def Aot (z0:Int×(List Int)×Int×(List Ak)×(List Ay)×(List A7)):Option (Ctl (Int×(List Int)×Int×(List Ak)×(List Ay)×(List A7)) Unit):=
 bif decide (z0.1<4) then (appI 25 z0.2.2.2.1 [⟨3,Int.tmod z0.1 2,z0.1⟩]).bind λ y16=>(F20 ⟨z0.2.1,z0.2.2.1⟩ [0,5,20]).bind λ y18=>(F44 y18.2 3).bind λ y20=>(appI 57 z0.2.2.2.2.2 [⟨20,y18.1,y20.1,z0.1,[]⟩]).bind λ y22=>(F20 y20.2 [50,50,5]).bind λ y24=>(F20 y24.2 [1,2]).bind λ y26=>(appI 65 z0.2.2.2.2.1 [⟨3,w64 (Int.tdiv z0.1 2),40,y24.1,y26.1,[]⟩]).bind λ y28=>some (.next (w64 (z0.1+1),y26.2.L,y26.2.At,y16,y28,y22)) else some (.brk (z0.1,z0.2.1,z0.2.2.1,z0.2.2.2.1,z0.2.2.2.2.1,z0.2.2.2.2.2))
def F45 (x0:Af):Option (Bb×Af):=
 (F43 x0).bind λ y1=>(appI 25 [⟨1,0,1⟩] [⟨2,0,0⟩]).bind λ y3=>(F44 y1.2 3).bind λ y5=>(appI 25 [] [⟨100,0,y5.1⟩]).bind λ y7=>(appI 25 y3 [⟨2,1,1⟩]).bind λ y9=>(F44 y5.2 3).bind λ y11=>(appI 25 y7 [⟨100,0,y11.1⟩]).bind λ y13=>andThen (whileN Aot 7 (0,y11.2.L,y11.2.At,y9,[],[])) (λ _=>none) λ z0=>(F92 ⟨z0.2.1,z0.2.2.1⟩ [⟨1,0⟩,⟨1,1⟩,⟨5,0⟩,⟨5,1⟩,⟨6,0⟩,⟨9,0⟩]).bind λ y30=>(F93 y30.2 [⟨1,0⟩,⟨1,1⟩,⟨5,0⟩,⟨5,1⟩,⟨6,0⟩,⟨9,0⟩]).bind λ y32=>some (⟨y1.1.Hull,⟨30,30,z0.2.2.2.2.1⟩,⟨2,z0.2.2.2.1,y13,z0.2.2.2.2.2,1800,50⟩,y1.1.Table,⟨[⟨1,0⟩,⟨1,1⟩,⟨5,0⟩,⟨5,1⟩,⟨6,0⟩,⟨9,0⟩],y30.1,y32.1⟩,[⟨0,100,3,0⟩,⟨1,100,3,0⟩,⟨2,100,3,0⟩],⟨10,0,5,0,0,0,0,20,100⟩,y1.1.Target,y1.1.Delay,⟨y1.1.Operation.Name,y1.1.Operation.Class,⟨y1.1.Target.Place,1000,3000⟩,y1.1.Operation.Drift⟩,y1.1.Sequence⟩,y32.2)
def Acy (x1:Aa) (z0:Int×(List Int)×Int×(List Bool)):Bool:=decide (z0.1<(x1.Ah.length:Int))
def Vb (x1:Aa) (z0:Int×(List Int)×Int×(List Bool)):Option (Ctl (Int×(List Int)×Int×(List Bool)) Unit):=
 bif (Acy x1 z0) then (F44 ⟨z0.2.1,z0.2.2.1⟩ 2).bind λ y2=>(appI 2 z0.2.2.2 [(y2.1==1)]).bind λ y4=>some (.next (w64 (z0.1+1),y2.2.L,y2.2.At,y4)) else some (.brk (z0.1,z0.2.1,z0.2.2.1,z0.2.2.2))
def Acx (x1:Aa) (z1:Int×(List Bool)):Bool:=decide (z1.1<(x1.Ag.length:Int))
def yK (z1:Int×(List Bool)) (a2:Ak) (y7:Bool):Bool:=(((a2.Kind==3)&&(a2.B==z1.1))&&y7)
def U_ (z1:Int×(List Bool)) (n2:Nat) (a2:Ak) (z2:Bool×(List Bool)):Option (Ctl (Bool×(List Bool)) Unit):=
 (Ar [(((a2.Kind==3)&&(a2.B==z1.1)),true)] (getI z2.2 (cnt 0 n2)) default).bind λ y7=>bif (yK z1 a2 y7) then (getI z2.2 (cnt 0 n2)).bind λ y10=>(setI z2.2 (cnt 0 n2) z2.1).bind λ y12=>some (.next (false,y12)) else some (.next (z2.1,z2.2))
def Va (x1:Aa) (z1:Int×(List Bool)):Option (Ctl (Int×(List Bool)) Unit):=
 bif (Acx x1 z1) then andThen (foldI (U_ z1) x1.Ah 0 (true,z1.2)) (λ _=>none) λ z2=>some (.next (w64 (z1.1+1),z2.2)) else some (.brk (z1.1,z1.2))
def yJ (x1:Aa) (z3:Sg7):Bool:=decide (z3.1<(x1.Ae.length:Int))
def U9 (x1:Aa) (z3:Sg7):Option (Ctl (Sg7) Unit):=
 bif (yJ x1 z3) then (F20 ⟨z3.2.1,z3.2.2.1⟩ [0,1,2,2,2,3]).bind λ y15=>(F44 y15.2 5).bind λ y17=>(F20 y17.2 [5000,5000,5005,4950]).bind λ y19=>(F20 y19.2 [0,0,40,1800,3590]).bind λ y21=>(appI 33 z3.2.2.2 [⟨y15.1,y17.1,y19.1,y21.1⟩]).bind λ y23=>some (.next (w64 (z3.1+1),y21.2.L,y21.2.At,y23)) else some (.brk (z3.1,z3.2.1,z3.2.2.1,z3.2.2.2))
def U8 (n4:Nat) (a4:A7) (z4:(List Int)×Int×(List Int)):Option (Ctl ((List Int)×Int×(List Int)) Unit):=
 (F20 ⟨z4.1,z4.2.1⟩ [a4.Load,a4.Load,a4.Least,w64 (Int.tdiv a4.Load 3)]).bind λ y25=>(appI 9 z4.2.2 [y25.1]).bind λ y27=>some (.next (y25.2.L,y25.2.At,y27))
def U7 (x1:Aa) (z5:Int×(List Int)×Int×(List Ab)):Option (Ctl (Int×(List Int)×Int×(List Ab)) Unit):=
 bif decide (z5.1<=4) then (F44 ⟨z5.2.1,z5.2.2.1⟩ 5).bind λ y30=>bif (y30.1==4) then (F44 y30.2 4).bind λ y33=>bif Ve x1 ⟨z5.1,y33.1⟩ then (appI 17 z5.2.2.2 [⟨z5.1,y33.1⟩]).bind λ y36=>some (.next (w64 (z5.1+1),y33.2.L,y33.2.At,y36)) else some (.next (w64 (z5.1+1),y33.2.L,y33.2.At,z5.2.2.2)) else some (.next (w64 (z5.1+1),y30.2.L,y30.2.At,z5.2.2.2)) else some (.brk (z5.1,z5.2.1,z5.2.2.1,z5.2.2.2))
def Vd (x0:Af) (x1:Aa):Option (Ad×Af):=
 andThen (whileN (Vb x1) 1152921504606846976 (0,x0.L,x0.At,[])) (λ _=>none) λ z0=>andThen (whileN (Va x1) 1152921504606846976 (0,z0.2.2.2)) (λ _=>none) λ z1=>andThen (whileN (U9 x1) 1152921504606846976 (0,z0.2.1,z0.2.2.1,[])) (λ _=>none) λ z3=>andThen (foldI U8 x1.Ag 0 (z3.2.1,z3.2.2.1,[])) (λ _=>none) λ z4=>andThen (whileN (U7 x1) 7 (1,z4.1,z4.2.1,[])) (λ _=>none) λ z5=>some (⟨z1.2,z3.2.2.2,z4.2.2,z5.2.2.2⟩,⟨z5.2.1,z5.2.2.1⟩)
def Aah (x0:Af) (x1:Aa):Option (Ad×Af):=
 (Vd x0 x1).bind λ y1=>(uX x1 y1.1).bind λ y3=>some (y3.1,y1.2)
def Adp (x1:Aa) (z0:Int×(List Int)×Int×(List A9)):Option (Ctl (Int×(List Int)×Int×(List A9)) Unit):=
 bif decide (z0.1<x1.Am) then (F67 ⟨z0.2.1,z0.2.2.1⟩ (-1) 4).bind λ y6=>(F67 y6.2 (-1) 4).bind λ y8=>(appI 17 z0.2.2.2 [⟨y6.1,y8.1⟩]).bind λ y10=>some (.next (w64 (z0.1+1),y8.2.L,y8.2.At,y10)) else some (.brk (z0.1,z0.2.1,z0.2.2.1,z0.2.2.2))
def Y2 (x0:Af) (x1:Aa):Option (As×Af):=
 (F67 x0 5 20).bind λ y1=>(Aah y1.2 x1).bind λ y3=>andThen (whileN (Adp x1) 1152921504606846976 (0,y3.2.L,y3.2.At,[])) (λ _=>none) λ z0=>some (⟨y1.1,y3.1,z0.2.2.2,[]⟩,⟨z0.2.1,z0.2.2.1⟩)
def F11 (x0:Af):Option (Bb×As×Af):=
 (F43 x0).bind λ y1=>(F44 y1.2 2).bind λ y3=>bif (y3.1==1) then (F45 y3.2).bind λ y6=>(Y2 y6.2 y6.1.Board).bind λ y8=>some (y6.1,y8.1,y8.2) else (Y2 y3.2 y1.1.Board).bind λ y10=>some (y1.1,y10.1,y10.2)
def F48 (x0:Af):Option (Ab×Af):=
 (F67 x0 1 9).bind λ y1=>(F44 y1.2 4).bind λ y3=>some (⟨y1.1,y3.1⟩,y3.2)
def Ap2 (z0:Int×(List Int)×Int×(List Ab)):Option (Ctl (Int×(List Int)×Int×(List Ab)) Unit):=
 bif decide (z0.1>0) then (F48 ⟨z0.2.1,z0.2.2.1⟩).bind λ y4=>(appI 17 z0.2.2.2 [y4.1]).bind λ y6=>some (.next (w64 (z0.1-1),y4.2.L,y4.2.At,y6)) else some (.brk (z0.1,z0.2.1,z0.2.2.1,z0.2.2.2))
def F13 (x0:Af) (x1:Int):Option ((List Ab)×Af):=
 (F44 x0 (w64 (x1+1))).bind λ y1=>andThen (whileN Ap2 1152921504606846976 (y1.1,y1.2.L,y1.2.At,[])) (λ _=>none) λ z0=>some (z0.2.2.2,⟨z0.2.1,z0.2.2.1⟩)
def Ajm (x0:Aa) (z0:Int):Bool:=((decide (z0<x0.Am))&&(decide (z0<6)))
def Aph (x0:Aa) (x1:Ad) (z0:Int):Option (Ctl Int Bool):=
 bif (Ajm x0 z0) then (F74 x0 x1 z0).bind λ y2=>bif y2 then some (.ret false) else some (.next (w64 (z0+1))) else some (.brk z0)
def F30 (x0:Aa) (x1:Ad):Option Bool:=
 andThen (whileN (Aph x0 x1) 9 0) some λ z0=>(F75 x0 x1).bind λ y5=>some (y5==0)
def Apc (x0:List Ab) (z0:Int×(List Ab)):Option (Ctl (Int×(List Ab)) Unit):=
 bif decide (z0.1<(x0.length:Int)) then (getI x0 z0.1).bind λ y2=>(Ow z0.2 y2).bind λ y4=>some (.next (w64 (z0.1+1),y4)) else some (.brk (z0.1,z0.2))
def Apb (x1:List Ab) (z1:Int×(List Ab)):Option (Ctl (Int×(List Ab)) Unit):=
 bif decide (z1.1<(x1.length:Int)) then (getI x1 z1.1).bind λ y7=>(Ow z1.2 y7).bind λ y9=>some (.next (w64 (z1.1+1),y9)) else some (.brk (z1.1,z1.2))
def F31 (x0:List Ab) (x1:List Ab):Option ((List Ab)):=
 andThen (whileN (Apc x0) 1152921504606846976 (0,[])) (λ _=>none) λ z0=>andThen (whileN (Apb x1) 1152921504606846976 (0,z0.2)) (λ _=>none) λ z1=>some z1.2
def Xp (x0:Ab):Bool:=
 ((((decide (x0.Kind>=1))&&(decide (x0.Kind<=9)))&&(decide (x0.Number>=0)))&&(decide (x0.Number<=63)))
def Anz (n0:Nat) (a0:Ab) (y1:Ab):Bool:=((!(Xp a0)) || ((decide ((cnt 0 n0)>0))&&(!(F29 y1 a0))))
def Ahv (x0:List Ab) (n0:Nat) (a0:Ab) (z0:Unit):Option (Ctl Unit Bool):=
 (Ar [(!(Xp a0),false),(decide ((cnt 0 n0)>0),true)] (getI x0 (w64 ((cnt 0 n0)-1))) default).bind λ y1=>bif (Anz n0 a0 y1) then some (.ret false) else some (.next ())
def Aeu (x0:List Ab):Option Bool:=
 andThen (foldI (Ahv x0) x0 0 ()) some λ z0=>some true
def Auh (x1:Ab) (a0:Ab):Bool:=((a0.Kind==x1.Kind)&&((a0.Number==x1.Number)&&true))
def Aee (x1:Ab) (n0:Nat) (a0:Ab) (z0:Unit):Option (Ctl Unit Bool):=
 bif (Auh x1 a0) then some (.ret true) else some (.next ())
def F23 (x0:List Ab) (x1:Ab):Option Bool:=
 andThen (foldI (Aee x1) x0 0 ()) some λ z0=>some false
def A0p (x0:ByteArray) (y1:UInt8) (y3:UInt8):Bool:=(((((x0.size:Int)==0) || (decide ((x0.size:Int)>12))) || (decide ((y1.toNat:Int)<97))) || (decide ((y3.toNat:Int)>122)))
def A0o (y7:UInt8) (y9:UInt8) (y11:UInt8) (y13:UInt8) (y15:UInt8):Bool:=!((((decide ((y7.toNat:Int)>=97))&&(decide ((y9.toNat:Int)<=122))) || ((decide ((y11.toNat:Int)>=48))&&(decide ((y13.toNat:Int)<=57)))) || ((y15.toNat:Int)==45))
def Axe (x0:ByteArray) (z0:Int):Option (Ctl Int Bool):=
 bif decide (z0<(x0.size:Int)) then (My x0 z0).bind λ y7=>(Ar [(decide ((y7.toNat:Int)>=97),true)] (My x0 z0) default).bind λ y9=>(Ar [(((decide ((y7.toNat:Int)>=97))&&(decide ((y9.toNat:Int)<=122))),false)] (My x0 z0) default).bind λ y11=>(Ar [(((decide ((y7.toNat:Int)>=97))&&(decide ((y9.toNat:Int)<=122))),false),(decide ((y11.toNat:Int)>=48),true)] (My x0 z0) default).bind λ y13=>(Ar [((((decide ((y7.toNat:Int)>=97))&&(decide ((y9.toNat:Int)<=122))) || ((decide ((y11.toNat:Int)>=48))&&(decide ((y13.toNat:Int)<=57)))),false)] (My x0 z0) default).bind λ y15=>bif (A0o y7 y9 y11 y13 y15) then some (.ret false) else some (.next (w64 (z0+1))) else some (.brk z0)
def Atn (x0:ByteArray):Option Bool:=
 (Ar [((((x0.size:Int)==0) || (decide ((x0.size:Int)>12))),false)] (My x0 0) default).bind λ y1=>(Ar [(((((x0.size:Int)==0) || (decide ((x0.size:Int)>12))) || (decide ((y1.toNat:Int)<97))),false)] (My x0 0) default).bind λ y3=>bif (A0p x0 y1 y3) then some false else andThen (whileN (Axe x0) 1152921504606846976 0) some λ z0=>some true
def Ajj (x0:A4):Bool:=(((decide ((x0.Parts.length:Int)>40)) || (decide ((x0.Links.length:Int)>60))) || (decide ((x0.Groups.length:Int)>6)))
def Aue (a0:A6) (y5:Bool) (y7:Bool):Bool:=(((!y5) || (!y7)) || ((a0.From.Kind==a0.To.Kind)&&((a0.From.Number==a0.To.Number)&&true)))
def Aud (n0:Nat) (a0:A6) (y10:A6) (y12:A6) (y14:A6):Bool:=((decide ((cnt 0 n0)>0))&&(!((F29 y10.From a0.From) || (((y12.From.Kind==a0.From.Kind)&&((y12.From.Number==a0.From.Number)&&true))&&(F29 y14.To a0.To)))))
def Aoq (x0:A4) (n0:Nat) (a0:A6) (z0:Unit):Option (Ctl Unit Int):=
 (F23 x0.Parts a0.From).bind λ y5=>(Ar [(!y5,false)] (F23 x0.Parts a0.To) default).bind λ y7=>bif (Aue a0 y5 y7) then some (.ret 63) else (Ar [(decide ((cnt 0 n0)>0),true)] (getI x0.Links (w64 ((cnt 0 n0)-1))) default).bind λ y10=>(Ar [(decide ((cnt 0 n0)>0),true),(F29 y10.From a0.From,false)] (getI x0.Links (w64 ((cnt 0 n0)-1))) default).bind λ y12=>(Ar [(decide ((cnt 0 n0)>0),true),(F29 y10.From a0.From,false),(((y12.From.Kind==a0.From.Kind)&&((y12.From.Number==a0.From.Number)&&true)),true)] (getI x0.Links (w64 ((cnt 0 n0)-1))) default).bind λ y14=>bif (Aud n0 a0 y10 y12 y14) then some (.ret 63) else some (.next ())
def Auc (a1:Bn) (y17:Bool) (y19:Bool):Bool:=(((!y17) || ((a1.Parts.length:Int)==0)) || (!y19))
def Aoo (x0:A4) (n2:Nat) (a2:Ab) (z2:Unit):Option (Ctl Unit Int):=
 (F23 x0.Parts a2).bind λ y22=>bif !y22 then some (.ret 63) else some (.next ())
def Aon (x0:A4) (n1:Nat) (a1:Bn) (z3:Int):Option (Ctl Int Int):=
 bif decide (z3<(cnt 0 n1)) then (getI x0.Groups z3).bind λ y26=>bif (y26.Name.toList==a1.Name.toList) then some (.ret 63) else some (.next (w64 (z3+1))) else some (.brk z3)
def Aop (x0:A4) (n1:Nat) (a1:Bn) (z1:Unit):Option (Ctl Unit Int):=
 (Atn a1.Name).bind λ y17=>(Ar [(((!y17) || ((a1.Parts.length:Int)==0)),false)] (Aeu a1.Parts) default).bind λ y19=>bif (Auc a1 y17 y19) then some (.ret 63) else andThen (foldI (Aoo x0) a1.Parts 0 ()) (λ v=>some (.ret v)) λ z2=>andThen (whileN (Aon x0 n1 a1) 1152921504606846976 0) (λ v=>some (.ret v)) λ z3=>some (.next ())
def F59 (x0:A4):Option Int:=
 bif (Ajj x0) then some 2 else (Aeu x0.Parts).bind λ y2=>bif !y2 then some 63 else andThen (foldI (Aoq x0) x0.Links 0 ()) some λ z0=>andThen (foldI (Aop x0) x0.Groups 0 ()) some λ z1=>some 0
def Apj (n1:Nat) (a1:A6) (z1:Bool×(List Ab)):Option (Ctl (Bool×(List Ab)) Unit):=
 (F23 z1.2 a1.From).bind λ y7=>(Ar [(y7,true)] (F23 z1.2 a1.To) default).bind λ y9=>bif (y7&&(!y9)) then (Ow z1.2 a1.To).bind λ y12=>some (.next (true,y12)) else some (.next (z1.1,z1.2))
def Apk (x0:A4) (z0:Bool×(List Ab)):Option (Ctl (Bool×(List Ab)) Unit):=
 bif z0.1 then andThen (foldI Apj x0.Links 0 (false,z0.2)) (λ _=>none) λ z1=>some (.next (z1.1,z1.2)) else some (.brk (z0.1,z0.2))
def F28 (x0:A4) (x1:List Ab):Option ((List Ab)):=
 (F31 x1 []).bind λ y1=>(F59 x0).bind λ y3=>bif (y3 != 0) then some y1 else andThen (whileN (Apk x0) 1152921504606846976 (true,y1)) (λ _=>none) λ z0=>some z0.2
def Azo (y6:Bb×As×Af) (y10:As×(List Int)×Int):Bool:=((y10.2.2 != 0) || ((y10.2.1.length:Int) != (y6.1.Ship.A3.length:Int)))
def Azn (y13:Bool) (a0:Int) (y19:Bool) (y21:Ay):Bool:=(((decide (a0<0)) || (decide (a0>y21.Max))) || ((y19 || y13)&&(a0 != 0)))
def Aun (y6:Bb×As×Af) (y8:(List Ab)×Af) (y13:Bool) (n0:Nat) (a0:Int) (z0:Unit):Option (Ctl Unit Bool):=
 (F31 y6.2.1.Power.Al y8.1).bind λ y15=>(F28 y6.1.Design y15).bind λ y17=>(F23 y17 ⟨5,cnt 0 n0⟩).bind λ y19=>(Ar [(decide (a0<0),false)] (getI y6.1.Ship.A3 (cnt 0 n0)) default).bind λ y21=>bif (Azn y13 a0 y19 y21) then some (.ret false) else some (.next ())
def F6 (x0:List Int):Option Bool:=
 bif decide ((x0.length:Int)>600) then (F9).bind λ y2=>some y2 else (F10 x0).bind λ y4=>(F11 y4).bind λ y6=>(F13 y6.2.2 3).bind λ y8=>(F14 y6.1 y6.2.1 [] y8.1).bind λ y10=>bif (Azo y6 y10) then some false else (F30 y6.1.Board y10.1.Power).bind λ y13=>andThen (foldI (Aun y6 y8 y13) y10.2.1 0 ()) some λ z0=>(F9).bind λ y24=>some y24
end Go.Proofs.YtiaaaghdkhnonaaGreat
