import Derived.Test.YtpdbkiafikdgpaaGreatDoorTy
import Derived.Test.YtpdbkiafikdgpaaGreatDoorTx
set_option linter.unusedVariables false
namespace Go.Proofs.YtpdbkiafikdgpaaGreatDoor
open Go.SL
abbrev Sg0:=Int×(List Bool)×(List Af)×(List Int)×(List Al)×(List Aw)×(List A6)
abbrev Sg1:=Int×(List Bool)×(List Af)×(List Int)×(List Al)×(List Aw)×(List A6)×Int×(List Int)
abbrev Sg2:=Int×(List Int)×Int×(List (List Am))
abbrev Sg3:=Int×(List Int)×Int×(List Aj)
abbrev Sg4:=Int×(List Int)×Int×(List Aj)×(List A5)
abbrev Sg5:=Int×(List Int)×Int×(List Aj)×(List Bg)
abbrev Sg6:=Int×(List Int)×Int×(List Aw)
abbrev Sg7:=Int×(List Int)×Int×(List Af)
abbrev Sg8:=Int×(List Aj)×(List Bg)×(List A5)×Int×Int×(List Bool)×(List Af)×(List Int)×(List Al)×(List Am)
abbrev Sg9:=Int×(List Aj)×(List Bg)×(List A5)×Int×Int×(List Int)×(List Bool)×(List Af)×(List Int)×(List Al)×(List Am)
abbrev X3:=Int×Int×(List Int)×Int×(List Aj)×(List Bg)×(List A5)×Int×Int
abbrev yJ:=Int×Int×(List Aj)×(List Bg)×(List A5)×Int×Int×(List Bool)×(List Af)×(List Int)×(List Al)×(List Aw)×(List A6)×(List Bool)×(List A6)×(List Ab)×(List Int)
abbrev K2:=Int×Int×(List Aj)×(List Bg)×(List A5)×Int×Int×(List Bool)×(List Af)×(List Int)×(List Al)×(List Aw)×(List A6)×(List A6)×(List Ab)
abbrev yI:=Int×Int×(List Aj)×(List Bg)×(List A5)×Int×Int×(List Aw)×(List Bool)×(List Af)×(List Int)×(List Al)×(List Aw)×(List A6)×(List A6)×(List Ab)
def F82 (x0:Int) (x1:Int) (x2:Int):Bool:=
 ((decide (x0>=x1))&&(decide (x0<=x2)))
def Lc (x1:Int) (x2:Int) (a0:Aj):Bool:=((a0.Kind==x1)&&((a0.B==x2) || ((x1==1)&&(a0.A==x2))))
def Aie (x1:Int) (x2:Int) (n0:Nat) (a0:Aj) (z0:(List Int)):Option (Ctl ((List Int)) Unit):=
 bif (Lc x1 x2 a0) then (appI 9 z0 [cnt 0 n0]).bind λ y2=>some (.next y2) else some (.next z0)
def F83 (x0:Aa) (x1:Int) (x2:Int):Option ((List Int)):=
 andThen (foldI (Aie x1 x2) x0.Ad 0 ([]:List Int)) (λ _=>none) λ z0=>some z0
def Ayy (x0:Aa) (a0:Aj):Bool:=!(F82 a0.B (w64 (a0.A+1)) (w64 (x0.An-1)))
def Ayx (x0:Aa) (a0:Aj):Bool:=!(F82 a0.B 0 (w64 ((x0.Ac.length:Int)-1)))
def Ayw (x0:Aa) (a0:Aj):Bool:=!(F82 a0.B 0 (w64 ((x0.Ae.length:Int)-1)))
def Aoc (a0:Aj) (a1:Aj):Bool:=((a1.Kind==a0.Kind)&&((a1.A==a0.A)&&((a1.B==a0.B)&&true)))
def qK (a0:Aj) (n1:Nat) (a1:Aj) (z1:Unit):Option (Ctl Unit Bool):=
 bif (Aoc a0 a1) then some (.ret false) else some (.next ())
def Aiy (x0:Aa) (n0:Nat) (a0:Aj) (z0:Unit):Option (Ctl Unit Bool):=
 bif !(F82 a0.A 0 (w64 (x0.An-1))) then some (.ret false) else bif (a0.Kind==1) then bif (Ayy x0 a0) then some (.ret false) else some (.next ()) else bif (a0.Kind==2) then bif (Ayx x0 a0) then some (.ret false) else some (.next ()) else bif (a0.Kind==3) then bif (Ayw x0 a0) then some (.ret false) else (cutI x0.Ad 0 (cnt 0 n0)).bind λ y9=>andThen (foldI (qK a0) y9 0 ()) (λ v=>some (.ret v)) λ z1=>some (.next ()) else some (.ret false)
def Atc (x0:Aa) (z2:Int):Bool:=decide (z2<(x0.Ac.length:Int))
def Aix (x0:Aa) (z2:Int):Option (Ctl Int Bool):=
 bif (Atc x0 z2) then (F83 x0 2 z2).bind λ y12=>bif ((y12.length:Int) != 1) then some (.ret false) else some (.next (w64 (z2+1))) else some (.brk z2)
def Atb (x0:Aa) (z3:Int):Bool:=decide (z3<(x0.Ae.length:Int))
def Aiw (x0:Aa) (z3:Int):Option (Ctl Int Bool):=
 bif (Atb x0 z3) then (F83 x0 3 z3).bind λ y16=>bif decide ((y16.length:Int)<1) then some (.ret false) else some (.next (w64 (z3+1))) else some (.brk z3)
def F59 (x0:Aa):Option Bool:=
 andThen (foldI (Aiy x0) x0.Ad 0 ()) some λ z0=>andThen (whileN (Aix x0) 1152921504606846976 0) some λ z2=>andThen (whileN (Aiw x0) 1152921504606846976 0) some λ z3=>some true
def Ayv (a0:Bg):Bool:=(((!(F82 a0.Rating 1 50000)) || (!(F82 a0.Least 0 a0.Rating))) || (!(F82 a0.Start 0 600)))
def Aiv (n0:Nat) (a0:Bg) (z0:Unit):Option (Ctl Unit Bool):=
 bif (Ayv a0) then some (.ret false) else some (.next ())
def F60 (x0:Aa):Option Bool:=
 andThen (foldI Aiv x0.Ac 0 ()) some λ z0=>some true
def Ayu (a0:A5):Bool:=(((((!(F82 a0.Load 0 50000)) || (!(F82 a0.Least 0 a0.Load))) || (!(F82 a0.Bl 0 15))) || (!(F82 a0.Thruster (-1) 7))) || (decide ((a0.Needs.length:Int)>4)))
def Ayt (n0:Nat) (n1:Nat) (a1:Int) (y2:Int):Bool:=((!(F82 a1 0 (w64 ((cnt 0 n0)-1)))) || ((decide ((cnt 0 n1)>0))&&(decide (y2>=a1))))
def Ait (n0:Nat) (a0:A5) (n1:Nat) (a1:Int) (z1:Unit):Option (Ctl Unit Bool):=
 (A4 [(!(F82 a1 0 (w64 ((cnt 0 n0)-1))),false),(decide ((cnt 0 n1)>0),true)] (getI a0.Needs (w64 ((cnt 0 n1)-1))) default).bind λ y2=>bif (Ayt n0 n1 a1 y2) then some (.ret false) else some (.next ())
def Aiu (n0:Nat) (a0:A5) (z0:Unit):Option (Ctl Unit Bool):=
 bif (Ayu a0) then some (.ret false) else andThen (foldI (Ait n0 a0) a0.Needs 0 ()) (λ v=>some (.ret v)) λ z1=>some (.next ())
def F61 (x0:Aa):Option Bool:=
 andThen (foldI Aiu x0.Ae 0 ()) some λ z0=>some true
def Aoe (x0:Aa):Bool:=(((((decide (x0.An<1)) || (decide (x0.An>6))) || (decide ((x0.Ad.length:Int)>24))) || (decide ((x0.Ac.length:Int)>8))) || (decide ((x0.Ae.length:Int)>16)))
def Aod (x0:Aa) (y2:Bool) (y4:Bool) (y6:Bool):Bool:=(((((((!y2) || (!y4)) || (!y6)) || (decide (x0.Phase<0))) || (decide (x0.Phase>1800))) || (decide (x0.Ap<0))) || (decide (x0.Ap>6000)))
def F43 (x0:Aa):Option Int:=
 bif (Aoe x0) then some 2 else (F59 x0).bind λ y2=>(A4 [(!y2,false)] (F60 x0) default).bind λ y4=>(A4 [(((!y2) || (!y4)),false)] (F61 x0) default).bind λ y6=>bif (Aod x0 y2 y4 y6) then some 14 else some 0
def F44 (x0:A2):Bool:=
 ((((((decide (x0.Stop>=1))&&(decide (x0.Stop<=99)))&&(decide (x0.Start>x0.Stop)))&&(decide (x0.Start<=100)))&&(decide (x0.Delay>=0)))&&(decide (x0.Delay<=600)))
def A50 (x0:Aa) (z0:Int×(List Af)):Bool:=decide (z0.1<(x0.Ac.length:Int))
def Avb (x0:Aa) (z0:Int×(List Af)):Option (Ctl (Int×(List Af)) Unit):=
 bif (A50 x0 z0) then (appI 33 z0.2 [(⟨0,0,5000,0⟩:Af)]).bind λ y8=>some (.next (w64 (z0.1+1),y8)) else some (.brk (z0.1,z0.2))
def Ava (n1:Nat) (a1:A5) (z1:(List Int)):Option (Ctl ((List Int)) Unit):=
 (appI 9 z1 [a1.Load]).bind λ y10=>some (.next y10)
def Au9 (x0:Aa) (z2:Int×(List Aw)):Option (Ctl (Int×(List Aw)) Unit):=
 bif decide (z2.1<x0.An) then (appI 17 z2.2 [(⟨(-1),(-1)⟩:Aw)]).bind λ y13=>some (.next (w64 (z2.1+1),y13)) else some (.brk (z2.1,z2.2))
def F24 (x0:Aa) (x1:A2):Option (As×Int):=
 (F43 x0).bind λ y1=>bif (y1 != 0) then none else bif !(F44 x1) then none else (mkI 2 (x0.Ad.length:Int) false).bind λ y5=>andThen (whileN (Avb x0) 1152921504606846976 (0,([]:List Af))) (λ _=>none) λ z0=>andThen (foldI Ava x0.Ae 0 ([]:List Int)) (λ _=>none) λ z1=>andThen (whileN (Au9 x0) 1152921504606846976 (0,([]:List Aw))) (λ _=>none) λ z2=>some ((⟨0,(⟨y5,z0.2,z1,([]:List Al)⟩:Ab),z2.2,([]:List A6)⟩:As),0)
def F91 (x0:Int) (x1:Int) (x2:Int):Bool:=
 ((decide (x0>=x1))&&(decide (x0<=x2)))
def Amo (x1:Int) (n0:Nat) (a0:Int) (z0:Unit):Option (Ctl Unit Int):=
 bif (x1==a0) then some (.ret (cnt 0 n0)) else some (.next ())
def Apr (x0:List Int) (x1:Int):Option Int:=
 andThen (foldI (Amo x1) x0 0 ()) some λ z0=>some (-1)
def My (x0:List Int) (x1:Int):Option Bool:=
 (Apr x0 x1).bind λ y1=>some (decide (y1>=0))
def Axt (x0:List Int):Bool:=
 ((x0.length:Int)==0)
def Ab7 (n0:Nat) (a0:List Int) (z0:Unit):Option (Ctl Unit Int):=
 bif Axt a0 then some (.ret (cnt 0 n0)) else some (.next ())
def qS (x0:List (List Int)):Option Int:=
 andThen (foldI Ab7 x0 0 ()) some λ z0=>some (-1)
def Uh (x0:List (List Int)):Option Bool:=
 (qS x0).bind λ y1=>some (decide (y1>=0))
def Agx (x0:Aa) (a0:Aj):Bool:=((a0.Kind==1)&&(F91 a0.B (w64 (a0.A+1)) (w64 (x0.An-1))))
def Agw (z0:(List Int)×(List (List Int))) (a0:Aj) (y7:Int):Bool:=(((a0.Kind==2)&&(F91 a0.B 0 (w64 ((z0.1.length:Int)-1))))&&(y7==0))
def Atl (z0:(List Int)×(List (List Int))) (a0:Aj) (y16:Bool):Bool:=(((a0.Kind==3)&&(F91 a0.B 0 (w64 ((z0.2.length:Int)-1))))&&(!y16))
def zL (x0:Aa) (n0:Nat) (a0:Aj) (z0:(List Int)×(List (List Int))):Option (Ctl ((List Int)×(List (List Int))) Bool):=
 bif !(F91 a0.A 0 (w64 (x0.An-1))) then some (.ret false) else bif (Agx x0 a0) then some (.next (z0.1,z0.2)) else (A4 [(((a0.Kind==2)&&(F91 a0.B 0 (w64 ((z0.1.length:Int)-1)))),true)] (getI z0.1 a0.B) default).bind λ y7=>bif (Agw z0 a0 y7) then (getI z0.1 a0.B).bind λ y10=>(setI z0.1 a0.B (w64 (y10+1))).bind λ y12=>some (.next (y12,z0.2)) else (A4 [(((a0.Kind==3)&&(F91 a0.B 0 (w64 ((z0.2.length:Int)-1)))),true)] (getI z0.2 a0.B) default).bind λ y14=>(A4 [(((a0.Kind==3)&&(F91 a0.B 0 (w64 ((z0.2.length:Int)-1)))),true)] (My y14 a0.A) default).bind λ y16=>bif (Atl z0 a0 y16) then (getI z0.2 a0.B).bind λ y19=>(appI 9 y19 [a0.A]).bind λ y21=>(setI z0.2 a0.B y21).bind λ y23=>some (.next (z0.1,y23)) else some (.ret false)
def Ajh (x0:Aa):Option Bool:=
 (mkI 9 (x0.Ac.length:Int) 0).bind λ y1=>(mkI 25 (x0.Ae.length:Int) ([]:List Int)).bind λ y3=>andThen (foldI (zL x0) x0.Ad 0 (y1,y3)) some λ z0=>(My z0.1 0).bind λ y27=>(A4 [(!y27,true)] (Uh z0.2) default).bind λ y29=>some ((!y27)&&(!y29))
def zK (x0:Bg):Bool:=
 (((F91 x0.Rating 1 50000)&&(F91 x0.Least 0 x0.Rating))&&(F91 x0.Start 0 600))
def Atk (x1:Int) (n0:Nat) (a0:Int) (y1:Int):Bool:=((!(F91 a0 0 (w64 (x1-1)))) || ((decide ((cnt 0 n0)>0))&&(decide (y1>=a0))))
def V9 (x0:A5) (x1:Int) (n0:Nat) (a0:Int) (z0:Unit):Option (Ctl Unit Bool):=
 (A4 [(!(F91 a0 0 (w64 (x1-1))),false),(decide ((cnt 0 n0)>0),true)] (getI x0.Needs (w64 ((cnt 0 n0)-1))) default).bind λ y1=>bif (Atk x1 n0 a0 y1) then some (.ret false) else some (.next ())
def zJ (x0:A5) (x1:Int):Option Bool:=
 andThen (foldI (V9 x0 x1) x0.Needs 0 ()) some λ z0=>some (((((F91 x0.Load 0 50000)&&(F91 x0.Least 0 x0.Load))&&(F91 x0.Bl 0 15))&&(F91 x0.Thruster (-1) 7))&&(decide ((x0.Needs.length:Int)<=4)))
def Ayk (x0:Aa):Bool:=((((!(F91 x0.An 1 6)) || (decide ((x0.Ad.length:Int)>24))) || (decide ((x0.Ac.length:Int)>8))) || (decide ((x0.Ae.length:Int)>16)))
def Au6 (n0:Nat) (a0:Bg) (z0:Bool):Option (Ctl Bool Unit):=
 some (.next (z0&&(zK a0)))
def Aic (n1:Nat) (a1:A5) (z1:Bool):Option (Ctl Bool Unit):=
 (A4 [(z1,true)] (zJ a1 (cnt 0 n1)) default).bind λ y4=>some (.next (z1&&y4))
def F86 (x0:Aa):Option Int:=
 bif (Ayk x0) then some 2 else (Ajh x0).bind λ y2=>andThen (foldI Au6 x0.Ac 0 ((y2&&(F91 x0.Phase 0 1800))&&(F91 x0.Ap 0 6000))) (λ _=>none) λ z0=>andThen (foldI Aic x0.Ae 0 z0) (λ _=>none) λ z1=>bif !z1 then some 14 else some 0
def K3 (x0:Aa) (x1:Int):Int:=
 bif (x1==1) then (x0.Ac.length:Int) else bif (x1==2) then (x0.Ad.length:Int) else bif (x1==3) then x0.An else bif (x1==4) then (x0.Ae.length:Int) else 0
def Ys (x0:Int):Bool:=
 (x0 != x0)
def J1 (x0:Int) (x1:Int):Int:=
 bif Ys x0 then bif Ys x1 then 0 else (-1) else bif Ys x1 then 1 else bif decide (x0<x1) then (-1) else bif decide (x0>x1) then 1 else 0
def V8 (n0:Nat) (a0:Int) (z0:Unit):Option (Ctl Unit Int):=
 bif (a0 != 0) then some (.ret a0) else some (.next ())
def zI (x0:List Int):Option Int:=
 andThen (foldI V8 x0 0 ()) some λ z0=>some 0
def Ayj (x0:Aa) (n0:Nat) (a0:Al) (y5:Int):Bool:=((!(F91 a0.Number 0 (w64 ((K3 x0 a0.Kind)-1)))) || ((decide ((cnt 0 n0)>0))&&(decide (y5>=0))))
def qC (x0:Aa) (x1:List Al) (n0:Nat) (a0:Al) (z0:Unit):Option (Ctl Unit Bool):=
 (A4 [(!(F91 a0.Number 0 (w64 ((K3 x0 a0.Kind)-1))),false),(decide ((cnt 0 n0)>0),true)] (getI x1 (w64 ((cnt 0 n0)-1))) default).bind λ y1=>(A4 [(!(F91 a0.Number 0 (w64 ((K3 x0 a0.Kind)-1))),false),(decide ((cnt 0 n0)>0),true)] (getI x1 (w64 ((cnt 0 n0)-1))) default).bind λ y3=>(A4 [(!(F91 a0.Number 0 (w64 ((K3 x0 a0.Kind)-1))),false),(decide ((cnt 0 n0)>0),true)] (zI [J1 y1.Kind a0.Kind,J1 y3.Number a0.Number]) default).bind λ y5=>bif (Ayj x0 n0 a0 y5) then some (.ret false) else some (.next ())
def F87 (x0:Aa) (x1:List Al):Option Bool:=
 andThen (foldI (qC x0 x1) x1 0 ()) some λ z0=>some (decide ((x1.length:Int)<=32))
def F90 (x0:Af):Bool:=
 ((((F91 x0.State 0 3)&&(F91 x0.Since 0 2147483648))&&(F91 x0.Ap 0 6000))&&(F91 x0.Phase 0 3599))
def F89 (x0:Af):Bool:=
 !(F90 x0)
def Acb (n0:Nat) (a0:Af) (z0:Unit):Option (Ctl Unit Int):=
 bif F89 a0 then some (.ret (cnt 0 n0)) else some (.next ())
def uA (x0:List Af):Option Int:=
 andThen (foldI Acb x0 0 ()) some λ z0=>some (-1)
def Vz (x0:List Af):Option Bool:=
 (uA x0).bind λ y1=>some (decide (y1>=0))
def Ayi (x2:Int) (a0:Aj) (y1:Bool):Bool:=(((a0.Kind==3)&&(a0.B==x2))&&y1)
def Aib (x1:Ab) (x2:Int) (n0:Nat) (a0:Aj) (z0:Int):Option (Ctl Int Unit):=
 (A4 [(((a0.Kind==3)&&(a0.B==x2)),true)] (getI x1.Ag (cnt 0 n0)) default).bind λ y1=>bif (Ayi x2 a0 y1) then some (.next (w64 (z0+1))) else some (.next z0)
def F92 (x0:Aa) (x1:Ab) (x2:Int):Option Int:=
 andThen (foldI (Aib x1 x2) x0.Ad 0 0) (λ _=>none) λ z0=>some z0
def Aob (x0:Aa) (x1:Ab):Bool:=((((x1.Ag.length:Int) != (x0.Ad.length:Int)) || ((x1.Ac.length:Int) != (x0.Ac.length:Int))) || ((x1.Aq.length:Int) != (x0.Ae.length:Int)))
def Ail (x0:Aa) (x1:Ab) (n0:Nat) (a0:Int) (z0:Bool):Option (Ctl Bool Unit):=
 (A4 [(z0,true)] (getI x0.Ae (cnt 0 n0)) default).bind λ y9=>(A4 [((z0&&(F91 a0 0 y9.Load)),true)] (F92 x0 x1 (cnt 0 n0)) default).bind λ y11=>some (.next ((z0&&(F91 a0 0 y9.Load))&&(decide (y11<=1))))
def F65 (x0:Aa) (x1:Ab):Option Int:=
 (F86 x0).bind λ y1=>bif (y1 != 0) then some y1 else bif (Aob x0 x1) then some 8 else (F87 x0 x1.Ao).bind λ y5=>(A4 [(y5,true)] (Vz x1.Ac) default).bind λ y7=>andThen (foldI (Ail x0 x1) x1.Aq 0 (y5&&(!y7))) (λ _=>none) λ z0=>bif !z0 then some 11 else some 0
def F93 (x0:List Bool):Option (List Bool):=appI 2 [] x0
def F94 (x0:List Af):Option (List Af):=appI 33 [] x0
def F95 (x0:List Int):Option (List Int):=appI 9 [] x0
def F96 (x0:List Al):Option (List Al):=appI 17 [] x0
def F66 (x0:Ab):Option Ab:=
 (F93 x0.Ag).bind λ y1=>(F94 x0.Ac).bind λ y3=>(F95 x0.Aq).bind λ y5=>(F96 x0.Ao).bind λ y7=>some (⟨y1,y3,y5,y7⟩:Ab)
def Aia (n0:Nat) (a0:Int) (z0:(List Int)):Option (Ctl ((List Int)) Unit):=
 (getI z0 (cnt 0 n0)).bind λ y3=>(setI z0 (cnt 0 n0) (cnt 0 n0)).bind λ y5=>some (.next y5)
def qB (x1:Ab) (n2:Nat) (a2:Aj) (z2:(List Int)):Option (Ctl ((List Int)) Unit):=
 (A4 [((a2.Kind==1),true)] (getI x1.Ag (cnt 0 n2)) default).bind λ y7=>bif ((a2.Kind==1)&&y7) then (getI z2 a2.A).bind λ y10=>(getI z2 a2.B).bind λ y12=>(setI z2 a2.A (min y10 y12)).bind λ y14=>(getI y14 a2.B).bind λ y16=>(setI y14 a2.B (min y10 y12)).bind λ y18=>some (.next y18) else some (.next z2)
def Ah9 (x0:Aa) (x1:Ab) (n1:Nat) (a1:Int) (z1:(List Int)):Option (Ctl ((List Int)) Unit):=
 andThen (foldI (qB x1) x0.Ad 0 z1) (λ _=>none) λ z2=>some (.next z2)
def F97 (x0:Aa) (x1:Ab):Option ((List Int)):=
 (mkI 9 x0.An 0).bind λ y1=>andThen (foldI Aia y1 0 y1) (λ _=>none) λ z0=>andThen (foldI (Ah9 x0 x1) z0 0 z0) (λ _=>none) λ z1=>some z1
def Atj (x2:Int) (x3:Int) (a0:Aj) (y1:Bool):Bool:=(((a0.Kind==x2)&&(a0.B==x3))&&y1)
def V7 (x1:Ab) (x2:Int) (x3:Int) (n0:Nat) (a0:Aj) (z0:Unit):Option (Ctl Unit (Int×Bool)):=
 (A4 [(((a0.Kind==x2)&&(a0.B==x3)),true)] (getI x1.Ag (cnt 0 n0)) default).bind λ y1=>bif (Atj x2 x3 a0 y1) then some (.ret (a0.A,true)) else some (.next ())
def zH (x0:Aa) (x1:Ab) (x2:Int) (x3:Int):Option (Int×Bool):=
 andThen (foldI (V7 x1 x2 x3) x0.Ad 0 ()) some λ z0=>some (0,false)
def Acu (x1:Ab) (x2:Int) (y1:Af):Bool:=((!(F91 x2 0 (w64 ((x1.Ac.length:Int)-1)))) || (y1.State != 2))
def F98 (x0:Aa) (x1:Ab) (x2:Int):Option (Int×Bool):=
 (A4 [(!(F91 x2 0 (w64 ((x1.Ac.length:Int)-1))),false)] (getI x1.Ac x2) default).bind λ y1=>bif (Acu x1 x2 y1) then some (0,false) else (zH x0 x1 2 x2).bind λ y4=>some (y4.1,y4.2)
def F99 (x0:Aa) (x1:Ab) (x2:Int):Option (Int×Bool):=
 (zH x0 x1 3 x2).bind λ y1=>some (y1.1,y1.2)
def Apt (x0:Ai):Bool:=
 ((x0.An.length:Int)==0)
def Aca (n0:Nat) (a0:Ai) (z0:Unit):Option (Ctl Unit Int):=
 bif Apt a0 then some (.ret (cnt 0 n0)) else some (.next ())
def Uq (x0:List Ai):Option Int:=
 andThen (foldI Aca x0 0 ()) some λ z0=>some (-1)
def Ag2 (z0:Int×Int×(List Ai)):Bool:=decide (z0.2.1<(z0.2.2.length:Int))
def Ut (z0:Int×Int×(List Ai)):Option (Ctl (Int×Int×(List Ai)) Unit):=
 bif (Ag2 z0) then (getI z0.2.2 z0.2.1).bind λ y5=>bif !(Apt y5) then (getI z0.2.2 z0.1).bind λ y8=>(setI z0.2.2 z0.1 y5).bind λ y10=>some (.next (w64 (z0.1+1),w64 (z0.2.1+1),y10)) else some (.next (z0.1,w64 (z0.2.1+1),z0.2.2)) else some (.brk (z0.1,z0.2.1,z0.2.2))
def Pb (x0:List Ai):Option ((List Ai)):=
 (Uq x0).bind λ y1=>bif (y1==(-1)) then some x0 else andThen (whileN Ut 1152921504606846976 (y1,w64 (y1+1),x0)) (λ _=>none) λ z0=>(bndI z0.2.2.length z0.1 (z0.2.2.length:Int)).bind λ u13=>(bndI (F7 z0.2.2 (Int.toNat z0.1) ((Int.toNat (z0.2.2.length:Int))-(Int.toNat z0.1)) (⟨([]:List Int),([]:List Int),([]:List Int)⟩:Ai)).length 0 z0.1).bind λ u15=>some ((F7 z0.2.2 (Int.toNat z0.1) ((Int.toNat (z0.2.2.length:Int))-(Int.toNat z0.1)) (⟨([]:List Int),([]:List Int),([]:List Int)⟩:Ai)).take ((Int.toNat z0.1)-0))
def Aik (n0:Nat) (a0:Int) (z0:(List Ai)):Option (Ctl ((List Ai)) Unit):=
 (getI z0 a0).bind λ y8=>(appI 9 y8.An [cnt 0 n0]).bind λ y10=>(setI z0 a0 (⟨y10,y8.Ac,y8.Ae⟩:Ai)).bind λ y12=>some (.next y12)
def Ayo (x0:Aa) (z1:Int×(List Ai)):Bool:=decide (z1.1<(x0.Ac.length:Int))
def Aij (x0:Aa) (x1:Ab) (y4:(List Int)) (z1:Int×(List Ai)):Option (Ctl (Int×(List Ai)) Unit):=
 bif (Ayo x0 z1) then (F98 x0 x1 z1.1).bind λ y15=>bif y15.2 then (getI y4 y15.1).bind λ y18=>(getI z1.2 y18).bind λ y20=>(appI 9 y20.Ac [z1.1]).bind λ y22=>(setI z1.2 y18 (⟨y20.An,y22,y20.Ae⟩:Ai)).bind λ y24=>some (.next (w64 (z1.1+1),y24)) else some (.next (w64 (z1.1+1),z1.2)) else some (.brk (z1.1,z1.2))
def Ayn (x0:Aa) (z2:Int×(List Ai)):Bool:=decide (z2.1<(x0.Ae.length:Int))
def Aii (x0:Aa) (x1:Ab) (y4:(List Int)) (z2:Int×(List Ai)):Option (Ctl (Int×(List Ai)) Unit):=
 bif (Ayn x0 z2) then (F99 x0 x1 z2.1).bind λ y27=>bif y27.2 then (getI y4 y27.1).bind λ y30=>(getI z2.2 y30).bind λ y32=>(appI 9 y32.Ae [z2.1]).bind λ y34=>(setI z2.2 y30 (⟨y32.An,y32.Ac,y34⟩:Ai)).bind λ y36=>some (.next (w64 (z2.1+1),y36)) else some (.next (w64 (z2.1+1),z2.2)) else some (.brk (z2.1,z2.2))
def F67 (x0:Aa) (x1:Ab):Option ((List Ai)):=
 (F65 x0 x1).bind λ y1=>bif (y1 != 0) then some ([]:List Ai) else (F97 x0 x1).bind λ y4=>(mkI 73 x0.An (⟨([]:List Int),([]:List Int),([]:List Int)⟩:Ai)).bind λ y6=>andThen (foldI Aik y4 0 y6) (λ _=>none) λ z0=>andThen (whileN (Aij x0 x1 y4) 1152921504606846976 (0,z0)) (λ _=>none) λ z1=>andThen (whileN (Aii x0 x1 y4) 1152921504606846976 (0,z1.2)) (λ _=>none) λ z2=>(Pb z2.2).bind λ y38=>some y38
def Ym (x2:Af) (n0:Nat) (a0:Int) (z0:(List Af)):Option (Ctl ((List Af)) Unit):=
 (getI z0 a0).bind λ y1=>(setI z0 a0 (⟨y1.State,y1.Since,x2.Ap,y1.Phase⟩:Af)).bind λ y3=>(getI y3 a0).bind λ y5=>(setI y3 a0 (⟨y5.State,y5.Since,y5.Ap,x2.Phase⟩:Af)).bind λ y7=>some (.next y7)
def Qx (x0:Ab) (x1:List Int) (x2:Af):Option ((List Af)):=
 andThen (foldI (Ym x2) x1 0 x0.Ac) (λ _=>none) λ z0=>some z0
def Ayz (a0:Ai):Bool:=decide ((a0.Ac.length:Int)>0)
def Aiz (x1:Ab) (y4:Ab) (n0:Nat) (a0:Ai) (z0:(List Af)):Option (Ctl ((List Af)) Unit):=
 bif (Ayz a0) then (getI a0.Ac 0).bind λ y9=>(getI x1.Ac y9).bind λ y11=>(Qx (⟨y4.Ag,z0,y4.Aq,y4.Ao⟩:Ab) a0.Ac y11).bind λ y13=>some (.next y13) else some (.next z0)
def F47 (x0:Aa) (x1:Ab):Option (Ab×Int):=
 (F65 x0 x1).bind λ y1=>bif (y1 != 0) then some ((⟨([]:List Bool),([]:List Af),([]:List Int),([]:List Al)⟩:Ab),y1) else (F66 x1).bind λ y4=>(F67 x0 x1).bind λ y6=>andThen (foldI (Aiz x1 y4) y6 0 y4.Ac) (λ _=>none) λ z0=>some ((⟨y4.Ag,z0,y4.Aq,y4.Ao⟩:Ab),0)
def F49 (x0:A2):Bool:=
 ((((((decide (x0.Stop>=1))&&(decide (x0.Stop<=99)))&&(decide (x0.Start>x0.Stop)))&&(decide (x0.Start<=100)))&&(decide (x0.Delay>=0)))&&(decide (x0.Delay<=600)))
def qJ (x1:List Bool) (n0:Nat) (a0:Bool) (z0:Unit):Option (Ctl Unit Bool):=
 (getI x1 (cnt 0 n0)).bind λ y2=>bif !(a0==y2) then some (.ret false) else some (.next ())
def F69 (x0:List Bool) (x1:List Bool):Option Bool:=
 bif ((x0.length:Int) != (x1.length:Int)) then some false else andThen (foldI (qJ x1) x0 0 ()) some λ z0=>some true
def Aym (a0:Af) (y2:Af):Bool:=!((a0.State==y2.State)&&((a0.Since==y2.Since)&&((a0.Ap==y2.Ap)&&((a0.Phase==y2.Phase)&&true))))
def qI (x1:List Af) (n0:Nat) (a0:Af) (z0:Unit):Option (Ctl Unit Bool):=
 (getI x1 (cnt 0 n0)).bind λ y2=>bif (Aym a0 y2) then some (.ret false) else some (.next ())
def F70 (x0:List Af) (x1:List Af):Option Bool:=
 bif ((x0.length:Int) != (x1.length:Int)) then some false else andThen (foldI (qI x1) x0 0 ()) some λ z0=>some true
def qH (x1:List Int) (n0:Nat) (a0:Int) (z0:Unit):Option (Ctl Unit Bool):=
 (getI x1 (cnt 0 n0)).bind λ y2=>bif (a0 != y2) then some (.ret false) else some (.next ())
def F71 (x0:List Int) (x1:List Int):Option Bool:=
 bif ((x0.length:Int) != (x1.length:Int)) then some false else andThen (foldI (qH x1) x0 0 ()) some λ z0=>some true
def Ayl (a0:Al) (y2:Al):Bool:=!((a0.Kind==y2.Kind)&&((a0.Number==y2.Number)&&true))
def qG (x1:List Al) (n0:Nat) (a0:Al) (z0:Unit):Option (Ctl Unit Bool):=
 (getI x1 (cnt 0 n0)).bind λ y2=>bif (Ayl a0 y2) then some (.ret false) else some (.next ())
def F72 (x0:List Al) (x1:List Al):Option Bool:=
 bif ((x0.length:Int) != (x1.length:Int)) then some false else andThen (foldI (qG x1) x0 0 ()) some λ z0=>some true
def F50 (x0:Ab) (x1:Ab):Option Bool:=
 (F69 x0.Ag x1.Ag).bind λ y1=>(A4 [(y1,true)] (F70 x0.Ac x1.Ac) default).bind λ y3=>(A4 [((y1&&y3),true)] (F71 x0.Aq x1.Aq) default).bind λ y5=>(A4 [(((y1&&y3)&&y5),true)] (F72 x0.Ao x1.Ao) default).bind λ y7=>some (((y1&&y3)&&y5)&&y7)
def Qy (x0:Int) (x1:As):Bool:=
 ((decide (x0>=(-1)))&&(decide (x0<=x1.Time)))
def Ga (x0:Aw) (x1c0:As):Bool×As:=
 (((!(Qy x0.High x1c0)) || (!(Qy x0.Low x1c0))),x1c0)
def Alr (z0:Sg0) (a0:Aw):Bool:=(Ga a0 (⟨z0.1,(⟨z0.2.1,z0.2.2.1,z0.2.2.2.1,z0.2.2.2.2.1⟩:Ab),z0.2.2.2.2.2.1,z0.2.2.2.2.2.2⟩:As)).1
def Yl (n0:Nat) (a0:Aw) (z0:Sg0):Option (Ctl (Sg0) (Int×As)):=
 bif (Alr z0 a0) then some (.ret (cnt 0 n0,(⟨((Ga a0 (⟨z0.1,(⟨z0.2.1,z0.2.2.1,z0.2.2.2.1,z0.2.2.2.2.1⟩:Ab),z0.2.2.2.2.2.1,z0.2.2.2.2.2.2⟩:As)).2).Time,(((Ga a0 (⟨z0.1,(⟨z0.2.1,z0.2.2.1,z0.2.2.2.1,z0.2.2.2.2.1⟩:Ab),z0.2.2.2.2.2.1,z0.2.2.2.2.2.2⟩:As)).2).Power),((Ga a0 (⟨z0.1,(⟨z0.2.1,z0.2.2.1,z0.2.2.2.1,z0.2.2.2.2.1⟩:Ab),z0.2.2.2.2.2.1,z0.2.2.2.2.2.2⟩:As)).2).A7,((Ga a0 (⟨z0.1,(⟨z0.2.1,z0.2.2.1,z0.2.2.2.1,z0.2.2.2.2.1⟩:Ab),z0.2.2.2.2.2.1,z0.2.2.2.2.2.2⟩:As)).2).Bc⟩:As))) else some (.next (((Ga a0 (⟨z0.1,(⟨z0.2.1,z0.2.2.1,z0.2.2.2.1,z0.2.2.2.2.1⟩:Ab),z0.2.2.2.2.2.1,z0.2.2.2.2.2.2⟩:As)).2).Time,(((Ga a0 (⟨z0.1,(⟨z0.2.1,z0.2.2.1,z0.2.2.2.1,z0.2.2.2.2.1⟩:Ab),z0.2.2.2.2.2.1,z0.2.2.2.2.2.2⟩:As)).2).Power).Ag,(((Ga a0 (⟨z0.1,(⟨z0.2.1,z0.2.2.1,z0.2.2.2.1,z0.2.2.2.2.1⟩:Ab),z0.2.2.2.2.2.1,z0.2.2.2.2.2.2⟩:As)).2).Power).Ac,(((Ga a0 (⟨z0.1,(⟨z0.2.1,z0.2.2.1,z0.2.2.2.1,z0.2.2.2.2.1⟩:Ab),z0.2.2.2.2.2.1,z0.2.2.2.2.2.2⟩:As)).2).Power).Aq,(((Ga a0 (⟨z0.1,(⟨z0.2.1,z0.2.2.1,z0.2.2.2.1,z0.2.2.2.2.1⟩:Ab),z0.2.2.2.2.2.1,z0.2.2.2.2.2.2⟩:As)).2).Power).Ao,((Ga a0 (⟨z0.1,(⟨z0.2.1,z0.2.2.1,z0.2.2.2.1,z0.2.2.2.2.1⟩:Ab),z0.2.2.2.2.2.1,z0.2.2.2.2.2.2⟩:As)).2).A7,((Ga a0 (⟨z0.1,(⟨z0.2.1,z0.2.2.1,z0.2.2.2.1,z0.2.2.2.2.1⟩:Ab),z0.2.2.2.2.2.1,z0.2.2.2.2.2.2⟩:As)).2).Bc))
def Ac8 (x0:List Aw) (x1c0c0:As):Option (Int×As):=
 andThen (foldI Yl x0 0 (x1c0c0.Time,x1c0c0.Power.Ag,x1c0c0.Power.Ac,x1c0c0.Power.Aq,x1c0c0.Power.Ao,x1c0c0.A7,x1c0c0.Bc)) some λ z0=>some ((-1),(⟨z0.1,(⟨z0.2.1,z0.2.2.1,z0.2.2.2.1,z0.2.2.2.2.1⟩:Ab),z0.2.2.2.2.2.1,z0.2.2.2.2.2.2⟩:As))
def qL (x0:List Aw) (x1c0c0:As):Option (Bool×As):=
 (Ac8 x0 x1c0c0).bind λ y1=>some (decide (y1.1>=0),y1.2)
def Ay0 (x1:A2) (x2:As):Bool:=(((!(F49 x1)) || (decide (x2.Time<0))) || (decide (x2.Time>2147483648)))
def F29 (x0:Aa) (x1:A2) (x2:As):Option Int:=
 (F47 x0 x2.Power).bind λ y1=>bif (y1.2 != 0) then some y1.2 else bif (Ay0 x1 x2) then some 1 else bif ((x2.A7.length:Int) != x0.An) then some 8 else (F50 x2.Power y1.1).bind λ y6=>(A4 [(!y6,false)] (qL x2.A7 x2) (default,x2)).bind λ y8=>bif ((!y6) || y8.1) then some 11 else some 0
def F30 (x0:As):Option As:=
 (appI 17 ([]:List Aw) x0.A7).bind λ y1=>(appI 41 ([]:List A6) x0.Bc).bind λ y3=>(appI 2 ([]:List Bool) x0.Power.Ag).bind λ y5=>(appI 33 ([]:List Af) x0.Power.Ac).bind λ y7=>(appI 9 ([]:List Int) x0.Power.Aq).bind λ y9=>(appI 17 ([]:List Al) x0.Power.Ao).bind λ y11=>some (⟨x0.Time,(⟨y5,y7,y9,y11⟩:Ab),y1,y3⟩:As)
def Aps (x0:List Aw):Option (List Aw):=appI 17 [] x0
def F79 (x0:List A6):Option (List A6):=appI 41 [] x0
def F74 (x0:Aa) (x1:As):Option A3:=
 (F66 x1.Power).bind λ y1=>(Aps x1.A7).bind λ y3=>(F79 x1.Bc).bind λ y5=>some (⟨(⟨x1.Time,y1,y3,y5⟩:As),x0,([]:List A6),([]:List Ab)⟩:A3)
def qF (x0:A3) (x1:Ab):Option A3:=
 (F66 x1).bind λ y3=>(appI 97 x0.states [y3]).bind λ y5=>some (⟨x0.A0,x0.Ak,x0.events,y5⟩:A3)
def J0 (x0:Aa) (x1:Int) (x2:Int):Bool:=
 bif (x1==1) then ((decide (x2>=0))&&(decide (x2<(x0.Ac.length:Int)))) else bif (x1==2) then ((decide (x2>=0))&&(decide (x2<(x0.Ad.length:Int)))) else bif (x1==3) then ((decide (x2>=0))&&(decide (x2<x0.An))) else bif (x1==4) then ((decide (x2>=0))&&(decide (x2<(x0.Ae.length:Int)))) else ((decide (x2>=0))&&(decide (x2<0)))
def zP (x1:Am):Option (Ctl Bool Unit):=
 bif (x1.Kind==1) then some (.next (x1.Kind==1)) else some (.next (x1.Kind==2))
def zO (x1:Am):Option (Ctl Bool Unit):=
 bif (x1.Kind==3) then some (.next (x1.Kind==3)) else some (.next (x1.Kind==4))
def zQ (x0:Aa) (x1:Am):Option Bool:=
 andThen (zP x1) (λ _=>none) λ z0=>bif z0 then some (J0 x0 2 x1.Unit) else andThen (zO x1) (λ _=>none) λ z1=>bif z1 then some (J0 x0 1 x1.Unit) else bif (x1.Kind==5) then some (J0 x0 4 x1.Unit) else bif (x1.Kind==6) then some ((J0 x0 1 x1.Unit)&&(J0 x0 3 x1.Value)) else bif (x1.Kind==8) then some (J0 x0 x1.Value x1.Unit) else bif (x1.Kind==9) then some (J0 x0 x1.Value x1.Unit) else some true
def A37 (x1:Al) (a0:Al):Bool:=((x1.Kind==a0.Kind)&&((x1.Number==a0.Number)&&true))
def Amn (x1:Al) (n0:Nat) (a0:Al) (z0:Unit):Option (Ctl Unit Int):=
 bif (A37 x1 a0) then some (.ret (cnt 0 n0)) else some (.next ())
def Apo (x0:List Al) (x1:Al):Option Int:=
 andThen (foldI (Amn x1) x0 0 ()) some λ z0=>some (-1)
def App (x0:List Al) (x1:Al):Option Bool:=
 (Apo x0 x1).bind λ y1=>some (decide (y1>=0))
def H5 (x0:Ab) (x1:Int) (x2:Int):Option Bool:=
 (App x0.Ao (⟨x1,x2⟩:Al)).bind λ y1=>some y1
def Apn (x0:Aa) (x1:Ab) (x2:Int):Option (Int×Bool):=
 (F65 x0 x1).bind λ y1=>bif (y1 != 0) then some (0,false) else (F99 x0 x1 x2).bind λ y4=>some (y4.1,y4.2)
def Ai4 (x0:Aa) (x1:Ab) (x2:Int):Option Bool:=
 (getI x0.Ad x2).bind λ y1=>(getI x1.Ag x2).bind λ y3=>(A4 [(y3,false)] (H5 x1 2 x2) default).bind λ y5=>(A4 [((y3 || y5),false)] (H5 x1 3 y1.A) default).bind λ y7=>bif ((y3 || y5) || y7) then some false else bif (y1.Kind==1) then (H5 x1 3 y1.B).bind λ y11=>some (!y11) else bif (y1.Kind==2) then (H5 x1 1 y1.B).bind λ y14=>(A4 [(!y14,true)] (getI x1.Ac y1.B) default).bind λ y16=>some ((!y14)&&(y16.State==2)) else (Apn x0 x1 y1.B).bind λ y18=>(H5 x1 4 y1.B).bind λ y20=>some ((!y20)&&(!y18.2))
def Lw (x2:Int) (n0:Nat) (a0:Ai) (z0:Unit):Option (Ctl Unit (Ai×Bool)):=
 (My a0.An x2).bind λ y3=>bif y3 then some (.ret (a0,true)) else some (.next ())
def Gb (x0:Aa) (x1:Ab) (x2:Int):Option (Ai×Bool):=
 (F67 x0 x1).bind λ y1=>andThen (foldI (Lw x2) y1 0 ()) some λ z0=>some ((⟨([]:List Int),([]:List Int),([]:List Int)⟩:Ai),false)
def T2 (x0:Aa) (x1:Ab) (x2:Int):Option (Int×Bool):=
 (Gb x0 x1 x2).bind λ y1=>bif ((y1.1.Ac.length:Int)==0) then some (0,false) else (getI y1.1.Ac 0).bind λ y4=>some (y4,true)
def Gu (x0:Int):Int:=
 bif decide ((Int.tmod x0 3600)<0) then w64 ((Int.tmod x0 3600)+3600) else Int.tmod x0 3600
def A35 (x0:Int) (x1:Int):Bool:=decide ((Gu (w64 ((Gu x1)-(Gu x0))))>1800)
def Apm (x0:Int) (x1:Int):Int:=
 bif (A35 x0 x1) then w64 ((Gu (w64 ((Gu x1)-(Gu x0))))-3600) else Gu (w64 ((Gu x1)-(Gu x0)))
def A36 (x1:Af) (x2:Af):Bool:=((decide ((min x1.Ap x2.Ap)<0)) || (decide ((max x1.Ap x2.Ap)>6000)))
def Ai1 (x0:Aa) (x1:Af) (x2:Af):Bool:=
 bif (A36 x1 x2) then false else ((decide ((max (w64 (x1.Ap-x2.Ap)) (w64 (x2.Ap-x1.Ap)))<=x0.Ap))&&(decide ((max (Apm x1.Phase x2.Phase) (w64 (0-Apm x1.Phase x2.Phase)))<=x0.Phase)))
def Ai3 (x0:Aa) (x1:Ab) (x2:Aj):Option Bool:=
 (T2 x0 x1 x2.A).bind λ y1=>bif !y1.2 then some true else bif (x2.Kind==1) then (T2 x0 x1 x2.B).bind λ y5=>(A4 [(!y5.2,false)] (getI x1.Ac y1.1) default).bind λ y7=>(A4 [(!y5.2,false)] (getI x1.Ac y5.1) default).bind λ y9=>some ((!y5.2) || (Ai1 x0 y7 y9)) else bif (x2.Kind==2) then (getI x1.Ac y1.1).bind λ y12=>(getI x1.Ac x2.B).bind λ y14=>some (Ai1 x0 y12 y14) else some true
def Atd (x0:Aa) (x2:Int):Bool:=((decide (x2<0)) || (decide (x2>=(x0.Ad.length:Int))))
def Ai5 (x0:Aa) (x1:Ab) (x2:Int):Option Int:=
 (F65 x0 x1).bind λ y1=>bif (y1 != 0) then some y1 else bif (Atd x0 x2) then some 10 else (Ai4 x0 x1 x2).bind λ y5=>bif !y5 then some 11 else (getI x0.Ad x2).bind λ y8=>(Gb x0 x1 y8.A).bind λ y10=>(A4 [((y8.Kind==1),true)] (My y10.1.An y8.B) default).bind λ y12=>(A4 [(!((y8.Kind==1)&&y12),true)] (Ai3 x0 x1 y8) default).bind λ y14=>bif ((!((y8.Kind==1)&&y12))&&(!y14)) then some 12 else some 0
def Ajd (x0:Aa) (x1:Ab) (x2:Int):Option (Ab×Int):=
 (Ai5 x0 x1 x2).bind λ y1=>bif (y1 != 0) then some ((⟨([]:List Bool),([]:List Af),([]:List Int),([]:List Al)⟩:Ab),y1) else (F66 x1).bind λ y4=>(getI y4.Ag x2).bind λ y6=>(setI y4.Ag x2 true).bind λ y8=>(F47 x0 (⟨y8,y4.Ac,y4.Aq,y4.Ao⟩:Ab)).bind λ y10=>some (y10.1,y10.2)
def Ath (x0:Aa) (x2:Int):Bool:=((decide (x2<0)) || (decide (x2>=(x0.Ad.length:Int))))
def Ajc (x0:Aa) (x1:Ab) (x2:Int):Option (Ab×Int):=
 (F65 x0 x1).bind λ y1=>bif (y1 != 0) then some ((⟨([]:List Bool),([]:List Af),([]:List Int),([]:List Al)⟩:Ab),y1) else bif (Ath x0 x2) then some ((⟨([]:List Bool),([]:List Af),([]:List Int),([]:List Al)⟩:Ab),10) else (getI x1.Ag x2).bind λ y5=>(A4 [(!y5,false)] (H5 x1 2 x2) default).bind λ y7=>bif ((!y5) || y7) then some ((⟨([]:List Bool),([]:List Af),([]:List Int),([]:List Al)⟩:Ab),11) else (F66 x1).bind λ y10=>(getI y10.Ag x2).bind λ y12=>(setI y10.Ag x2 false).bind λ y14=>some ((⟨y14,y10.Ac,y10.Aq,y10.Ao⟩:Ab),0)
def yX (x0:Aa) (x1:Ab) (x2:Int):Option (Int×Bool):=
 (F65 x0 x1).bind λ y1=>bif (y1 != 0) then some (0,false) else (F98 x0 x1 x2).bind λ y4=>some (y4.1,y4.2)
def Atg (x0:Aa) (x2:Int) (x3:Int):Bool:=((((decide (x2<0)) || (decide (x2>=(x0.Ac.length:Int)))) || (decide (x3<0))) || (decide (x3>=x0.An)))
def Ajb (x0:Aa) (x1:Ab) (x2:Int) (x3:Int):Option (Ab×Int):=
 (F65 x0 x1).bind λ y1=>bif (y1 != 0) then some ((⟨([]:List Bool),([]:List Af),([]:List Int),([]:List Al)⟩:Ab),y1) else bif (Atg x0 x2 x3) then some ((⟨([]:List Bool),([]:List Af),([]:List Int),([]:List Al)⟩:Ab),10) else (T2 x0 x1 x3).bind λ y5=>(A4 [(!y5.2,false)] (getI x1.Ac x2) default).bind λ y7=>bif ((!y5.2) || (y7.State != 2)) then some ((⟨([]:List Bool),([]:List Af),([]:List Int),([]:List Al)⟩:Ab),11) else (F66 x1).bind λ y10=>(yX x0 x1 x2).bind λ y12=>bif y12.2 then (Gb x0 x1 y12.1).bind λ y15=>(getI x1.Ac y5.1).bind λ y17=>(Qx y10 y15.1.Ac y17).bind λ y19=>some ((⟨y10.Ag,y19,y10.Aq,y10.Ao⟩:Ab),0) else (getI x1.Ac y5.1).bind λ y21=>(Qx y10 [x2] y21).bind λ y23=>some ((⟨y10.Ag,y23,y10.Aq,y10.Ao⟩:Ab),0)
def qO (x0:Aj) (x1:Int):Bool:=
 ((x0.Kind==2)&&(x0.B==x1))
def Nu (x1c0:Int) (n0:Nat) (a0:Aj) (z0:Unit):Option (Ctl Unit (Int×Int)):=
 bif qO a0 x1c0 then some (.ret (cnt 0 n0,x1c0)) else some (.next ())
def qV (x0:List Aj) (x1c0:Int):Option (Int×Int):=
 andThen (foldI (Nu x1c0) x0 0 ()) some λ z0=>some ((-1),x1c0)
def Ai2 (x0:Aa) (x1:Int):Option Int:=
 (qV x0.Ad x1).bind λ y1=>some y1.1
def Jg (x0:A1) (x1:Int):Option Bool:=
 (Ai2 x0.Ak x1).bind λ y1=>(getI x0.Au.Ag y1).bind λ y3=>some (!y3)
def Uk (x0:A1) (x1:Int):Option (Int×A1):=
 (getI x0.Au.Ac x1).bind λ y1=>(A4 [((y1.State != 0),false)] (H5 x0.Au 1 x1) default).bind λ y3=>bif ((y1.State != 0) || y3) then some (11,x0) else (getI x0.Ak.Ac x1).bind λ y6=>(A4 [((y6.Start==0),true)] (Jg x0 x1) default).bind λ y8=>bif ((y6.Start==0)&&y8) then (setI x0.Au.Ac x1 (⟨2,x0.time,5000,0⟩:Af)).bind λ y11=>some (0,(⟨x0.Ak,(⟨x0.Au.Ag,y11,x0.Au.Aq,x0.Au.Ao⟩:Ab),x0.time⟩:A1)) else (setI x0.Au.Ac x1 (⟨1,x0.time,5000,0⟩:Af)).bind λ y13=>some (0,(⟨x0.Ak,(⟨x0.Au.Ag,y13,x0.Au.Aq,x0.Au.Ao⟩:Ab),x0.time⟩:A1))
def Aw8 (y1:Af) (y3:Bool):Bool:=(((y1.State != 1)&&(y1.State != 2)) || (!y3))
def Uj (x0:A1) (x1:Int):Option (Int×A1):=
 (getI x0.Au.Ac x1).bind λ y1=>(A4 [(((y1.State != 1)&&(y1.State != 2)),false)] (Jg x0 x1) default).bind λ y3=>bif (Aw8 y1 y3) then some (11,x0) else (setI x0.Au.Ac x1 (⟨0,y1.Since,y1.Ap,y1.Phase⟩:Af)).bind λ y6=>some (0,(⟨x0.Ak,(⟨x0.Au.Ag,y6,x0.Au.Aq,x0.Au.Ao⟩:Ab),x0.time⟩:A1))
def Agv (x2:Int) (y1:A5):Bool:=((decide (x2<0)) || (decide (x2>y1.Load)))
def Ui (x0:A1) (x1:Int) (x2:Int):Option (Int×A1):=
 (A4 [(decide (x2<0),false)] (getI x0.Ak.Ae x1) default).bind λ y1=>bif (Agv x2 y1) then some (1,x0) else (getI x0.Au.Aq x1).bind λ y4=>(setI x0.Au.Aq x1 x2).bind λ y6=>some (0,(⟨x0.Ak,(⟨x0.Au.Ag,x0.Au.Ac,y6,x0.Au.Ao⟩:Ab),x0.time⟩:A1))
def V2 (n0:Nat) (a0:Af) (z0:(List Af)):Option (Ctl ((List Af)) Unit):=
 bif (a0.State==2) then (getI z0 (cnt 0 n0)).bind λ y7=>(setI z0 (cnt 0 n0) (⟨y7.State,y7.Since,y7.Ap,Gu (w64 (a0.Phase+(w64 (36*(w64 (a0.Ap-5000))))))⟩:Af)).bind λ y9=>some (.next y9) else some (.next z0)
def Yq (x0:Aa) (x1:Ab):Option (Ab×Int):=
 (F65 x0 x1).bind λ y1=>bif (y1 != 0) then some ((⟨([]:List Bool),([]:List Af),([]:List Int),([]:List Al)⟩:Ab),y1) else (F66 x1).bind λ y4=>andThen (foldI V2 x1.Ac 0 y4.Ac) (λ _=>none) λ z0=>some ((⟨y4.Ag,z0,y4.Aq,y4.Ao⟩:Ab),0)
def X0 (y1:Ab×Int) (z0:Int×(List Af)):Bool:=decide (z0.1<(y1.1.Ac.length:Int))
def Ms (x0:A1) (y4:Af) (y6:Bool) (y8:Bg):Bool:=(((y4.State==1)&&y6)&&(decide ((w64 (y4.Since+y8.Start))<=(w64 (x0.time+1)))))
def Nx (x0:A1) (y1:Ab×Int) (z0:Int×(List Af)):Option (Ctl (Int×(List Af)) Unit):=
 bif (X0 y1 z0) then (getI z0.2 z0.1).bind λ y4=>(A4 [((y4.State==1),true)] (Jg (⟨x0.Ak,(⟨y1.1.Ag,z0.2,y1.1.Aq,y1.1.Ao⟩:Ab),x0.time⟩:A1) z0.1) default).bind λ y6=>(A4 [(((y4.State==1)&&y6),true)] (getI x0.Ak.Ac z0.1) default).bind λ y8=>bif (Ms x0 y4 y6 y8) then (setI z0.2 z0.1 (⟨2,y4.Since,y4.Ap,y4.Phase⟩:Af)).bind λ y11=>some (.next (w64 (z0.1+1),y11)) else some (.next (w64 (z0.1+1),z0.2)) else some (.brk (z0.1,z0.2))
def Kq (x0:A1):Option A1:=
 (Yq x0.Ak x0.Au).bind λ y1=>andThen (whileN (Nx x0 y1) 1152921504606846976 (0,y1.1.Ac)) (λ _=>none) λ z0=>some (⟨x0.Ak,(⟨y1.1.Ag,z0.2,y1.1.Aq,y1.1.Ao⟩:Ab),x0.time⟩:A1)
def Q5 (x0:Al) (x1:Al):Int:=
 bif (x0.Kind != x1.Kind) then w64 (x0.Kind-x1.Kind) else w64 (x0.Number-x1.Number)
def T0 (x0:List Al) (x1:Al) (z0:Int×Int):Option (Ctl (Int×Int) Unit):=
 bif decide (z0.1<z0.2) then (getI x0 (w64 (G1 .u64 (IntKind.wrap .u64 (w64 (z0.1+z0.2))) 1))).bind λ y2=>bif decide ((Q5 y2 x1)<0) then some (.next (w64 ((w64 (G1 .u64 (IntKind.wrap .u64 (w64 (z0.1+z0.2))) 1))+1),z0.2)) else some (.next (z0.1,w64 (G1 .u64 (IntKind.wrap .u64 (w64 (z0.1+z0.2))) 1))) else some (.brk (z0.1,z0.2))
def T1 (x0:List Al) (x1:Al):Option (Int×Bool):=
 andThen (whileN (T0 x0 x1) 1152921504606846976 (0,(x0.length:Int))) (λ _=>none) λ z0=>(A4 [(decide (z0.1<(x0.length:Int)),true)] (getI x0 z0.1) default).bind λ y5=>some (z0.1,((decide (z0.1<(x0.length:Int)))&&((Q5 y5 x1)==0)))
def O6 (x0:List Al) (x1:Int) (x2:List Al):Option ((List Al)):=
 (bndI x0.length x1 (x0.length:Int)).bind λ u2=>bif ((x2.length:Int)==0) then some x0 else bif (x1==(x0.length:Int)) then (appI 17 x0 x2).bind λ y5=>some y5 else insI 17 x0 x1 x2
def Tz (x0:List Al) (x1:Int) (x2:Int):Option ((List Al)):=
 (bnd3I x0.length x1 x2 (x0.length:Int)).bind λ u2=>bif (x1==x2) then some x0 else (bndI x0.length 0 x1).bind λ u5=>(bndI x0.length x2 (x0.length:Int)).bind λ u7=>(appPI x0 ((Int.toNat x1)-0) ((x0.drop (Int.toNat x2)).take ((Int.toNat (x0.length:Int))-(Int.toNat x2)))).bind λ y8=>(bndI (y8.length-0) (((((Int.toNat x1)-0)+((x0.drop (Int.toNat x2)).take ((Int.toNat (x0.length:Int))-(Int.toNat x2))).length):Nat):Int) (x0.length:Int)).bind λ u11=>some ((F7 y8 (0+(Int.toNat (((((Int.toNat x1)-0)+((x0.drop (Int.toNat x2)).take ((Int.toNat (x0.length:Int))-(Int.toNat x2))).length):Nat):Int))) ((Int.toNat (x0.length:Int))-(Int.toNat (((((Int.toNat x1)-0)+((x0.drop (Int.toNat x2)).take ((Int.toNat (x0.length:Int))-(Int.toNat x2))).length):Nat):Int))) (⟨0,0⟩:Al)).take (((Int.toNat x1)-0)+((x0.drop (Int.toNat x2)).take ((Int.toNat (x0.length:Int))-(Int.toNat x2))).length))
def Qf (x0:A1) (x2:Bool):Bool:=(x2&&(decide ((x0.Au.Ao.length:Int)>=32)))
def Nw (x0:A1) (x1:Al) (x2:Bool) (y1:Int×Bool):Option (Ctl ((List Al)) Unit):=
 bif x2 then (O6 x0.Au.Ao y1.1 [x1]).bind λ y6=>some (.next y6) else (Tz x0.Au.Ao y1.1 (w64 (y1.1+1))).bind λ y8=>some (.next y8)
def Hc (x0:A1) (x1:Al) (x2:Bool):Option (Int×A1):=
 (T1 x0.Au.Ao x1).bind λ y1=>bif (y1.2==x2) then some (11,x0) else bif (Qf x0 x2) then some (2,x0) else andThen (Nw x0 x1 x2 y1) (λ _=>none) λ z0=>bif (x1.Kind==1) then (getI x0.Au.Ac x1.Number).bind λ y11=>(setI x0.Au.Ac x1.Number (⟨0,y11.Since,y11.Ap,y11.Phase⟩:Af)).bind λ y13=>bif x2 then (getI y13 x1.Number).bind λ y16=>(setI y13 x1.Number (⟨3,y16.Since,y16.Ap,y16.Phase⟩:Af)).bind λ y18=>some (0,(⟨x0.Ak,(⟨x0.Au.Ag,y18,x0.Au.Aq,z0⟩:Ab),x0.time⟩:A1)) else some (0,(⟨x0.Ak,(⟨x0.Au.Ag,y13,x0.Au.Aq,z0⟩:Ab),x0.time⟩:A1)) else some (0,(⟨x0.Ak,(⟨x0.Au.Ag,x0.Au.Ac,x0.Au.Aq,z0⟩:Ab),x0.time⟩:A1))
def Mz (x0:A1) (x1:Am):Option (Int×A1):=
 bif (x1.Kind==1) then (Ajd x0.Ak x0.Au x1.Unit).bind λ y2=>some (y2.2,(⟨x0.Ak,y2.1,x0.time⟩:A1)) else bif (x1.Kind==2) then (Ajc x0.Ak x0.Au x1.Unit).bind λ y5=>some (y5.2,(⟨x0.Ak,y5.1,x0.time⟩:A1)) else bif (x1.Kind==6) then (Ajb x0.Ak x0.Au x1.Unit x1.Value).bind λ y8=>some (y8.2,(⟨x0.Ak,y8.1,x0.time⟩:A1)) else bif (x1.Kind==3) then (Uk x0 x1.Unit).bind λ y11=>some (y11.1,y11.2) else bif (x1.Kind==4) then (Uj x0 x1.Unit).bind λ y14=>some (y14.1,y14.2) else bif (x1.Kind==5) then (Ui x0 x1.Unit x1.Value).bind λ y17=>some (y17.1,y17.2) else bif (x1.Kind==7) then (Kq x0).bind λ y20=>some (0,y20) else (Hc x0 (⟨x1.Value,x1.Unit⟩:Al) (x1.Kind==8)).bind λ y22=>some (y22.1,y22.2)
def Aoa (x2:Int) (x3:Am):Bool:=((((decide (x2<0)) || (decide (x2>2147483648))) || (decide (x3.Kind<1))) || (decide (x3.Kind>9)))
def F78 (x0:Aa) (x1:Ab) (x2:Int) (x3:Am):Option (Ab×Int):=
 (F65 x0 x1).bind λ y1=>bif (y1 != 0) then some ((⟨([]:List Bool),([]:List Af),([]:List Int),([]:List Al)⟩:Ab),y1) else bif (Aoa x2 x3) then some ((⟨([]:List Bool),([]:List Af),([]:List Int),([]:List Al)⟩:Ab),1) else (zQ x0 x3).bind λ y5=>bif !y5 then some ((⟨([]:List Bool),([]:List Af),([]:List Int),([]:List Al)⟩:Ab),10) else (F66 x1).bind λ y8=>(Mz (⟨x0,y8,x2⟩:A1) x3).bind λ y10=>bif (y10.1 != 0) then some ((⟨([]:List Bool),([]:List Af),([]:List Int),([]:List Al)⟩:Ab),y10.1) else some (y10.2.Au,0)
def Pa (x0:A3) (x1:Am) (x2:Int):Option A3:=
 (appI 41 x0.events [(⟨x0.A0.Time,x1,x2⟩:A6)]).bind λ y1=>some (⟨x0.A0,x0.Ak,y1,x0.states⟩:A3)
def Nq (x0:A3) (x1:Ab):Option A3:=
 (F66 x1).bind λ y3=>(appI 97 x0.states [y3]).bind λ y5=>some (⟨x0.A0,x0.Ak,x0.events,y5⟩:A3)
def Kp (x0:Int) (x1:Int) (x2:Ay):Option (Bool×Ay):=
 (H5 x2.Au x0 x1).bind λ y1=>some (y1,x2)
def Ua (x0:Ay) (x1:Aj):Option (Bool×Ay):=
 (Kp 3 x1.A x0).bind λ y1=>bif y1.1 then some (true,y1.2) else bif (x1.Kind==1) then (Kp 3 x1.B y1.2).bind λ y5=>some (y5.1,y5.2) else bif (x1.Kind==2) then (Kp 1 x1.B y1.2).bind λ y8=>(A4 [(y8.1,false)] (getI y8.2.Au.Ac x1.B) default).bind λ y10=>some ((y8.1 || (y10.State != 2)),y8.2) else (Kp 4 x1.B y1.2).bind λ y12=>some (y12.1,y12.2)
def Mx (x0:Ay) (x1:Int):Option Ay:=
 (getI x0.Au.Ag x1).bind λ y1=>(setI x0.Au.Ag x1 false).bind λ y3=>(appI 25 x0.acts [(⟨2,x1,0⟩:Am)]).bind λ y5=>some (⟨x0.Ak,(⟨y3,x0.Au.Ac,x0.Au.Aq,x0.Au.Ao⟩:Ab),y5⟩:Ay)
def Uf (n0:Nat) (a0:Aj) (z0:Sg9):Option (Ctl (Sg9) Unit):=
 (getI z0.2.2.2.2.2.2.2.1 (cnt 0 n0)).bind λ y1=>(A4 [(y1,true)] (Ua (⟨(⟨z0.1,z0.2.1,z0.2.2.1,z0.2.2.2.1,z0.2.2.2.2.1,z0.2.2.2.2.2.1⟩:Aa),(⟨z0.2.2.2.2.2.2.2.1,z0.2.2.2.2.2.2.2.2.1,z0.2.2.2.2.2.2.2.2.2.1,z0.2.2.2.2.2.2.2.2.2.2.1⟩:Ab),z0.2.2.2.2.2.2.2.2.2.2.2⟩:Ay) a0) (default,(⟨(⟨z0.1,z0.2.1,z0.2.2.1,z0.2.2.2.1,z0.2.2.2.2.1,z0.2.2.2.2.2.1⟩:Aa),(⟨z0.2.2.2.2.2.2.2.1,z0.2.2.2.2.2.2.2.2.1,z0.2.2.2.2.2.2.2.2.2.1,z0.2.2.2.2.2.2.2.2.2.2.1⟩:Ab),z0.2.2.2.2.2.2.2.2.2.2.2⟩:Ay))).bind λ y3=>bif (y1&&y3.1) then (appI 9 z0.2.2.2.2.2.2.1 [cnt 0 n0]).bind λ y6=>some (.next (y3.2.Ak.An,y3.2.Ak.Ad,y3.2.Ak.Ac,y3.2.Ak.Ae,y3.2.Ak.Phase,y3.2.Ak.Ap,y6,y3.2.Au.Ag,y3.2.Au.Ac,y3.2.Au.Aq,y3.2.Au.Ao,y3.2.acts)) else some (.next (y3.2.Ak.An,y3.2.Ak.Ad,y3.2.Ak.Ac,y3.2.Ak.Ae,y3.2.Ak.Phase,y3.2.Ak.Ap,z0.2.2.2.2.2.2.1,y3.2.Au.Ag,y3.2.Au.Ac,y3.2.Au.Aq,y3.2.Au.Ao,y3.2.acts))
def Nv (n1:Nat) (a1:Int) (z1:Sg8):Option (Ctl (Sg8) Unit):=
 (Mx (⟨(⟨z1.1,z1.2.1,z1.2.2.1,z1.2.2.2.1,z1.2.2.2.2.1,z1.2.2.2.2.2.1⟩:Aa),(⟨z1.2.2.2.2.2.2.1,z1.2.2.2.2.2.2.2.1,z1.2.2.2.2.2.2.2.2.1,z1.2.2.2.2.2.2.2.2.2.1⟩:Ab),z1.2.2.2.2.2.2.2.2.2.2⟩:Ay) a1).bind λ y8=>some (.next (y8.Ak.An,y8.Ak.Ad,y8.Ak.Ac,y8.Ak.Ae,y8.Ak.Phase,y8.Ak.Ap,y8.Au.Ag,y8.Au.Ac,y8.Au.Aq,y8.Au.Ao,y8.acts))
def Ug (x0:Ay):Option Ay:=
 andThen (foldI Uf x0.Ak.Ad 0 (x0.Ak.An,x0.Ak.Ad,x0.Ak.Ac,x0.Ak.Ae,x0.Ak.Phase,x0.Ak.Ap,([]:List Int),x0.Au.Ag,x0.Au.Ac,x0.Au.Aq,x0.Au.Ao,x0.acts)) (λ _=>none) λ z0=>andThen (foldI Nv z0.2.2.2.2.2.2.1 0 (z0.1,z0.2.1,z0.2.2.1,z0.2.2.2.1,z0.2.2.2.2.1,z0.2.2.2.2.2.1,z0.2.2.2.2.2.2.2.1,z0.2.2.2.2.2.2.2.2.1,z0.2.2.2.2.2.2.2.2.2.1,z0.2.2.2.2.2.2.2.2.2.2.1,z0.2.2.2.2.2.2.2.2.2.2.2)) (λ _=>none) λ z1=>some (⟨(⟨z1.1,z1.2.1,z1.2.2.1,z1.2.2.2.1,z1.2.2.2.2.1,z1.2.2.2.2.2.1⟩:Aa),(⟨z1.2.2.2.2.2.2.1,z1.2.2.2.2.2.2.2.1,z1.2.2.2.2.2.2.2.2.1,z1.2.2.2.2.2.2.2.2.2.1⟩:Ab),z1.2.2.2.2.2.2.2.2.2.2⟩:Ay)
def Yv (x0:Aa) (x1:Ab) (x2:Int):Option Bool:=
 (Gb x0 x1 x2).bind λ y1=>some (decide ((y1.1.Ac.length:Int)>0))
def T_ (x0:Aj) (x1:Ay):Option (Bool×Ay):=
 (A4 [((x0.Kind==3),true)] (Yv x1.Ak x1.Au x0.A) default).bind λ y1=>some (((x0.Kind==3)&&(!y1)),x1)
def Ud (n0:Nat) (a0:Aj) (z0:Sg9):Option (Ctl (Sg9) Unit):=
 (getI z0.2.2.2.2.2.2.2.1 (cnt 0 n0)).bind λ y1=>(A4 [(y1,true)] (T_ a0 (⟨(⟨z0.1,z0.2.1,z0.2.2.1,z0.2.2.2.1,z0.2.2.2.2.1,z0.2.2.2.2.2.1⟩:Aa),(⟨z0.2.2.2.2.2.2.2.1,z0.2.2.2.2.2.2.2.2.1,z0.2.2.2.2.2.2.2.2.2.1,z0.2.2.2.2.2.2.2.2.2.2.1⟩:Ab),z0.2.2.2.2.2.2.2.2.2.2.2⟩:Ay)) (default,(⟨(⟨z0.1,z0.2.1,z0.2.2.1,z0.2.2.2.1,z0.2.2.2.2.1,z0.2.2.2.2.2.1⟩:Aa),(⟨z0.2.2.2.2.2.2.2.1,z0.2.2.2.2.2.2.2.2.1,z0.2.2.2.2.2.2.2.2.2.1,z0.2.2.2.2.2.2.2.2.2.2.1⟩:Ab),z0.2.2.2.2.2.2.2.2.2.2.2⟩:Ay))).bind λ y3=>bif (y1&&y3.1) then (appI 9 z0.2.2.2.2.2.2.1 [cnt 0 n0]).bind λ y6=>some (.next (y3.2.Ak.An,y3.2.Ak.Ad,y3.2.Ak.Ac,y3.2.Ak.Ae,y3.2.Ak.Phase,y3.2.Ak.Ap,y6,y3.2.Au.Ag,y3.2.Au.Ac,y3.2.Au.Aq,y3.2.Au.Ao,y3.2.acts)) else some (.next (y3.2.Ak.An,y3.2.Ak.Ad,y3.2.Ak.Ac,y3.2.Ak.Ae,y3.2.Ak.Phase,y3.2.Ak.Ap,z0.2.2.2.2.2.2.1,y3.2.Au.Ag,y3.2.Au.Ac,y3.2.Au.Aq,y3.2.Au.Ao,y3.2.acts))
def Ab9 (n1:Nat) (a1:Int) (z1:Sg8):Option (Ctl (Sg8) Unit):=
 (Mx (⟨(⟨z1.1,z1.2.1,z1.2.2.1,z1.2.2.2.1,z1.2.2.2.2.1,z1.2.2.2.2.2.1⟩:Aa),(⟨z1.2.2.2.2.2.2.1,z1.2.2.2.2.2.2.2.1,z1.2.2.2.2.2.2.2.2.1,z1.2.2.2.2.2.2.2.2.2.1⟩:Ab),z1.2.2.2.2.2.2.2.2.2.2⟩:Ay) a1).bind λ y8=>some (.next (y8.Ak.An,y8.Ak.Ad,y8.Ak.Ac,y8.Ak.Ae,y8.Ak.Phase,y8.Ak.Ap,y8.Au.Ag,y8.Au.Ac,y8.Au.Aq,y8.Au.Ao,y8.acts))
def Ue (x0:Ay):Option Ay:=
 andThen (foldI Ud x0.Ak.Ad 0 (x0.Ak.An,x0.Ak.Ad,x0.Ak.Ac,x0.Ak.Ae,x0.Ak.Phase,x0.Ak.Ap,([]:List Int),x0.Au.Ag,x0.Au.Ac,x0.Au.Aq,x0.Au.Ao,x0.acts)) (λ _=>none) λ z0=>andThen (foldI Ab9 z0.2.2.2.2.2.2.1 0 (z0.1,z0.2.1,z0.2.2.1,z0.2.2.2.1,z0.2.2.2.2.1,z0.2.2.2.2.2.1,z0.2.2.2.2.2.2.2.1,z0.2.2.2.2.2.2.2.2.1,z0.2.2.2.2.2.2.2.2.2.1,z0.2.2.2.2.2.2.2.2.2.2.1,z0.2.2.2.2.2.2.2.2.2.2.2)) (λ _=>none) λ z1=>some (⟨(⟨z1.1,z1.2.1,z1.2.2.1,z1.2.2.2.1,z1.2.2.2.2.1,z1.2.2.2.2.2.1⟩:Aa),(⟨z1.2.2.2.2.2.2.1,z1.2.2.2.2.2.2.2.1,z1.2.2.2.2.2.2.2.2.1,z1.2.2.2.2.2.2.2.2.2.1⟩:Ab),z1.2.2.2.2.2.2.2.2.2.2⟩:Ay)
def Uo (x0:Ay):Option Ay:=
 (Ug x0).bind λ y1=>(Ue y1).bind λ y3=>(F47 y3.Ak y3.Au).bind λ y5=>some (⟨y3.Ak,y5.1,y3.acts⟩:Ay)
def Mw (x0:Int) (x1:Int) (x2:Aa):Option Int:=
 (getI x2.Ae x0).bind λ y1=>(getI x2.Ae x1).bind λ y3=>some (J1 y1.Bl y3.Bl)
def Xy (x1:Int) (z1:Int×(List Int)) (y12:Int):Bool:=((decide (z1.1>x1))&&(decide (y12<0)))
def Nr (x1:Int) (x3c0:Aa) (z1:Int×(List Int)):Option (Ctl (Int×(List Int)) Unit):=
 (A4 [(decide (z1.1>x1),true)] (getI z1.2 z1.1) default).bind λ y8=>(A4 [(decide (z1.1>x1),true)] (getI z1.2 (w64 (z1.1-1))) default).bind λ y10=>(A4 [(decide (z1.1>x1),true)] (Mw y8 y10 x3c0) default).bind λ y12=>bif (Xy x1 z1 y12) then (getI z1.2 (w64 (z1.1-1))).bind λ y15=>(getI z1.2 z1.1).bind λ y17=>(setI z1.2 z1.1 y15).bind λ y19=>(getI y19 (w64 (z1.1-1))).bind λ y21=>(setI y19 (w64 (z1.1-1)) y17).bind λ y23=>some (.next (w64 (z1.1-1),y23)) else some (.brk (z1.1,z1.2))
def Tt (x1:Int) (x2:Int) (x3c0:Aa) (z0:Int×(List Int)):Option (Ctl (Int×(List Int)) Unit):=
 bif decide (z0.1<x2) then andThen (whileN (Nr x1 x3c0) 1152921504606846976 (z0.1,z0.2)) (λ _=>none) λ z1=>some (.next (w64 (z0.1+1),z1.2)) else some (.brk (z0.1,z0.2))
def Tu (x0:List Int) (x1:Int) (x2:Int) (x3c0:Aa):Option ((List Int)×Aa):=
 andThen (whileN (Tt x1 x2 x3c0) 1152921504606846976 (w64 (x1+1),x0)) (λ _=>none) λ z0=>some (z0.2,x3c0)
def Tw (x1:Int) (z0:X3):Option (Ctl (X3) Unit):=
 bif decide (z0.2.1<=x1) then (Tu z0.2.2.1 z0.1 z0.2.1 (⟨z0.2.2.2.1,z0.2.2.2.2.1,z0.2.2.2.2.2.1,z0.2.2.2.2.2.2.1,z0.2.2.2.2.2.2.2.1,z0.2.2.2.2.2.2.2.2⟩:Aa)).bind λ y2=>some (.next (z0.2.1,w64 (z0.2.1+20),y2.1,y2.2.An,y2.2.Ad,y2.2.Ac,y2.2.Ae,y2.2.Phase,y2.2.Ap)) else some (.brk (z0.1,z0.2.1,z0.2.2.1,z0.2.2.2.1,z0.2.2.2.2.1,z0.2.2.2.2.2.1,z0.2.2.2.2.2.2.1,z0.2.2.2.2.2.2.2.1,z0.2.2.2.2.2.2.2.2))
def A58 (x1:Int) (z2:Unit):Option (Ctl Unit Unit):=
 bif decide (40<=x1) then none else some (.brk ())
def Tv (x1:Int) (z1:Unit):Option (Ctl Unit Unit):=
 bif decide (20<x1) then none else some (.brk ())
def qQ (x0:List Int) (x1:Int) (x2c0:Aa):Option ((List Int)×Aa):=
 andThen (whileN (Tw x1) 1152921504606846976 (0,20,x0,x2c0.An,x2c0.Ad,x2c0.Ac,x2c0.Ae,x2c0.Phase,x2c0.Ap)) (λ _=>none) λ z0=>(Tu z0.2.2.1 z0.1 x1 (⟨z0.2.2.2.1,z0.2.2.2.2.1,z0.2.2.2.2.2.1,z0.2.2.2.2.2.2.1,z0.2.2.2.2.2.2.2.1,z0.2.2.2.2.2.2.2.2⟩:Aa)).bind λ y4=>andThen (whileN (Tv x1) 1152921504606846976 ()) (λ _=>none) λ z1=>some (y4.1,y4.2)
def Ty (x0:List Int) (x1c0:Aa):Option ((List Int)×Aa):=
 (qQ x0 (x0.length:Int) x1c0).bind λ y1=>some (y1.1,y1.2)
def Ate (x0:Aa) (z0:Int×(List Int)):Bool:=decide (z0.1<(x0.Ae.length:Int))
def yZ (x0:Aa) (z0:Int×(List Int)):Option (Ctl (Int×(List Int)) Unit):=
 bif (Ate x0 z0) then (appI 9 z0.2 [z0.1]).bind λ y5=>some (.next (w64 (z0.1+1),y5)) else some (.brk (z0.1,z0.2))
def Yr (x0:Aa):Option ((List Int)):=
 (F86 x0).bind λ y1=>bif (y1 != 0) then some ([]:List Int) else andThen (whileN (yZ x0) 1152921504606846976 (0,([]:List Int))) (λ _=>none) λ z0=>(Ty z0.2 x0).bind λ y7=>some y7.1
def O9 (x0:Int) (x1:Ai):Option Bool:=
 (My x1.Ae x0).bind λ y1=>some (!y1)
def Ns (x1c0:Ai) (n0:Nat) (a0:Int) (z0:Unit):Option (Ctl Unit (Int×Ai)):=
 (O9 a0 x1c0).bind λ y1=>bif y1 then some (.ret (cnt 0 n0,x1c0)) else some (.next ())
def qR (x0:List Int) (x1c0:Ai):Option (Int×Ai):=
 andThen (foldI (Ns x1c0) x0 0 ()) some λ z0=>some ((-1),x1c0)
def Agu (z0:Int×Int×(List Int)):Bool:=decide (z0.2.1<(z0.2.2.length:Int))
def T8 (y1:Int×Ai) (z0:Int×Int×(List Int)):Option (Ctl (Int×Int×(List Int)) Unit):=
 bif (Agu z0) then (getI z0.2.2 z0.2.1).bind λ y5=>(O9 y5 y1.2).bind λ y7=>bif !y7 then (getI z0.2.2 z0.1).bind λ y10=>(setI z0.2.2 z0.1 y5).bind λ y12=>some (.next (w64 (z0.1+1),w64 (z0.2.1+1),y12)) else some (.next (z0.1,w64 (z0.2.1+1),z0.2.2)) else some (.brk (z0.1,z0.2.1,z0.2.2))
def T9 (x0:List Int) (x1c0:Ai):Option ((List Int)×Ai):=
 (qR x0 x1c0).bind λ y1=>bif (y1.1==(-1)) then some (x0,y1.2) else andThen (whileN (T8 y1) 1152921504606846976 (y1.1,w64 (y1.1+1),x0)) (λ _=>none) λ z0=>(bndI z0.2.2.length z0.1 (z0.2.2.length:Int)).bind λ u15=>(bndI (F7 z0.2.2 (Int.toNat z0.1) ((Int.toNat (z0.2.2.length:Int))-(Int.toNat z0.1)) 0).length 0 z0.1).bind λ u17=>some (((F7 z0.2.2 (Int.toNat z0.1) ((Int.toNat (z0.2.2.length:Int))-(Int.toNat z0.1)) 0).take ((Int.toNat z0.1)-0)),y1.2)
def V3 (x1:Ab) (y1:Ai×Bool) (n0:Nat) (a0:Int) (z0:Int):Option (Ctl Int Unit):=
 bif decide ((y1.1.Ac.length:Int)>0) then (getI x1.Aq a0).bind λ y4=>some (.next (w64 (z0+y4))) else some (.next z0)
def T3 (x0:Aa) (x1:Ab) (x2:Int):Option Int:=
 (Gb x0 x1 x2).bind λ y1=>andThen (foldI (V3 x1 y1) y1.1.Ae 0 0) (λ _=>none) λ z0=>some z0
def yY (x0:Aa) (n0:Nat) (a0:Int) (z0:Int):Option (Ctl Int Unit):=
 (getI x0.Ac a0).bind λ y3=>some (.next (w64 (z0+y3.Rating)))
def T4 (x0:Aa) (x1:Ab) (x2:Int):Option Int:=
 (Gb x0 x1 x2).bind λ y1=>andThen (foldI (yY x0) y1.1.Ac 0 0) (λ _=>none) λ z0=>some z0
def O5 (x0:Ay) (x1:Int):Option Int:=
 (T3 x0.Ak x0.Au x1).bind λ y1=>(T4 x0.Ak x0.Au x1).bind λ y3=>some (max 0 (w64 (y1-y3)))
def Aih (n0:Nat) (a0:Int) (z0:(List Ai)):Option (Ctl ((List Ai)) Unit):=
 (getI z0 a0).bind λ y8=>(appI 9 y8.An [cnt 0 n0]).bind λ y10=>(setI z0 a0 (⟨y10,y8.Ac,y8.Ae⟩:Ai)).bind λ y12=>some (.next y12)
def A0o (x0:Aa) (z1:Int×(List Ai)):Bool:=decide (z1.1<(x0.Ac.length:Int))
def Aig (x0:Aa) (x1:Ab) (y4:(List Int)) (z1:Int×(List Ai)):Option (Ctl (Int×(List Ai)) Unit):=
 bif (A0o x0 z1) then (F98 x0 x1 z1.1).bind λ y15=>bif y15.2 then (getI y4 y15.1).bind λ y18=>(getI z1.2 y18).bind λ y20=>(appI 9 y20.Ac [z1.1]).bind λ y22=>(setI z1.2 y18 (⟨y20.An,y22,y20.Ae⟩:Ai)).bind λ y24=>some (.next (w64 (z1.1+1),y24)) else some (.next (w64 (z1.1+1),z1.2)) else some (.brk (z1.1,z1.2))
def A0n (x0:Aa) (z2:Int×(List Ai)):Bool:=decide (z2.1<(x0.Ae.length:Int))
def Aif (x0:Aa) (x1:Ab) (y4:(List Int)) (z2:Int×(List Ai)):Option (Ctl (Int×(List Ai)) Unit):=
 bif (A0n x0 z2) then (F99 x0 x1 z2.1).bind λ y27=>bif y27.2 then (getI y4 y27.1).bind λ y30=>(getI z2.2 y30).bind λ y32=>(appI 9 y32.Ae [z2.1]).bind λ y34=>(setI z2.2 y30 (⟨y32.An,y32.Ac,y34⟩:Ai)).bind λ y36=>some (.next (w64 (z2.1+1),y36)) else some (.next (w64 (z2.1+1),z2.2)) else some (.brk (z2.1,z2.2))
def Ac9 (x0:Aa) (x1:Ab):Option ((List Ai)):=
 (F65 x0 x1).bind λ y1=>bif (y1 != 0) then some ([]:List Ai) else (F97 x0 x1).bind λ y4=>(mkI 73 x0.An (⟨([]:List Int),([]:List Int),([]:List Int)⟩:Ai)).bind λ y6=>andThen (foldI Aih y4 0 y6) (λ _=>none) λ z0=>andThen (whileN (Aig x0 x1 y4) 1152921504606846976 (0,z0)) (λ _=>none) λ z1=>andThen (whileN (Aif x0 x1 y4) 1152921504606846976 (0,z1.2)) (λ _=>none) λ z2=>(Pb z2.2).bind λ y38=>some y38
def Xz (y1:Int) (y3:Int) (y5:A5):Bool:=decide ((min y1 (w64 (y3-y5.Least)))>0)
def T7 (x0:Ay) (x2:Int) (n0:Nat) (a0:Int) (z0:(List Int)×(List Am)):Option (Ctl ((List Int)×(List Am)) Unit):=
 (O5 (⟨x0.Ak,(⟨x0.Au.Ag,x0.Au.Ac,z0.1,x0.Au.Ao⟩:Ab),z0.2⟩:Ay) x2).bind λ y1=>(getI z0.1 a0).bind λ y3=>(getI x0.Ak.Ae a0).bind λ y5=>bif (Xz y1 y3 y5) then (setI z0.1 a0 (w64 (y3-(min y1 (w64 (y3-y5.Least)))))).bind λ y8=>(getI y8 a0).bind λ y10=>(appI 25 z0.2 [(⟨5,a0,y10⟩:Am)]).bind λ y12=>some (.next (y8,y12)) else some (.next (z0.1,z0.2))
def O8 (x0:Ay) (x1:List Int) (x2:Int):Option Ay:=
 andThen (foldI (T7 x0 x2) x1 0 (x0.Au.Aq,x0.acts)) (λ _=>none) λ z0=>some (⟨x0.Ak,(⟨x0.Au.Ag,x0.Au.Ac,z0.1,x0.Au.Ao⟩:Ab),z0.2⟩:Ay)
def Tx (x0:Aj) (x1:Int):Bool:=
 ((x0.Kind==3)&&(x0.B==x1))
def Ub (x0:Ay) (x1c0:Int) (n0:Nat) (a0:Aj) (z0:(List Int)):Option (Ctl ((List Int)) Unit):=
 (getI x0.Au.Ag (cnt 0 n0)).bind λ y1=>bif (y1&&(Tx a0 x1c0)) then (appI 9 z0 [cnt 0 n0]).bind λ y4=>some (.next y4) else some (.next z0)
def Ab8 (n1:Nat) (a1:Int) (z1:Sg8):Option (Ctl (Sg8) Unit):=
 (Mx (⟨(⟨z1.1,z1.2.1,z1.2.2.1,z1.2.2.2.1,z1.2.2.2.2.1,z1.2.2.2.2.2.1⟩:Aa),(⟨z1.2.2.2.2.2.2.1,z1.2.2.2.2.2.2.2.1,z1.2.2.2.2.2.2.2.2.1,z1.2.2.2.2.2.2.2.2.2.1⟩:Ab),z1.2.2.2.2.2.2.2.2.2.2⟩:Ay) a1).bind λ y6=>some (.next (y6.Ak.An,y6.Ak.Ad,y6.Ak.Ac,y6.Ak.Ae,y6.Ak.Phase,y6.Ak.Ap,y6.Au.Ag,y6.Au.Ac,y6.Au.Aq,y6.Au.Ao,y6.acts))
def Uc (x0:Ay) (x1c0:Int):Option (Ay×Int):=
 andThen (foldI (Ub x0 x1c0) x0.Ak.Ad 0 ([]:List Int)) (λ _=>none) λ z0=>andThen (foldI Ab8 z0 0 (x0.Ak.An,x0.Ak.Ad,x0.Ak.Ac,x0.Ak.Ae,x0.Ak.Phase,x0.Ak.Ap,x0.Au.Ag,x0.Au.Ac,x0.Au.Aq,x0.Au.Ao,x0.acts)) (λ _=>none) λ z1=>some ((⟨(⟨z1.1,z1.2.1,z1.2.2.1,z1.2.2.2.1,z1.2.2.2.2.1,z1.2.2.2.2.2.1⟩:Aa),(⟨z1.2.2.2.2.2.2.1,z1.2.2.2.2.2.2.2.1,z1.2.2.2.2.2.2.2.2.1,z1.2.2.2.2.2.2.2.2.2.1⟩:Ab),z1.2.2.2.2.2.2.2.2.2.2⟩:Ay),x1c0)
def T6 (x2:Int) (n0:Nat) (a0:Int) (z0:Sg8):Option (Ctl (Sg8) Unit):=
 (getI z0.2.2.2.2.2.2.2.2.1 a0).bind λ y1=>(A4 [(decide (y1>0),true)] (O5 (⟨(⟨z0.1,z0.2.1,z0.2.2.1,z0.2.2.2.1,z0.2.2.2.2.1,z0.2.2.2.2.2.1⟩:Aa),(⟨z0.2.2.2.2.2.2.1,z0.2.2.2.2.2.2.2.1,z0.2.2.2.2.2.2.2.2.1,z0.2.2.2.2.2.2.2.2.2.1⟩:Ab),z0.2.2.2.2.2.2.2.2.2.2⟩:Ay) x2) default).bind λ y3=>bif ((decide (y1>0))&&(decide (y3>0))) then (Uc (⟨(⟨z0.1,z0.2.1,z0.2.2.1,z0.2.2.2.1,z0.2.2.2.2.1,z0.2.2.2.2.2.1⟩:Aa),(⟨z0.2.2.2.2.2.2.1,z0.2.2.2.2.2.2.2.1,z0.2.2.2.2.2.2.2.2.1,z0.2.2.2.2.2.2.2.2.2.1⟩:Ab),z0.2.2.2.2.2.2.2.2.2.2⟩:Ay) a0).bind λ y6=>some (.next (y6.1.Ak.An,y6.1.Ak.Ad,y6.1.Ak.Ac,y6.1.Ak.Ae,y6.1.Ak.Phase,y6.1.Ak.Ap,y6.1.Au.Ag,y6.1.Au.Ac,y6.1.Au.Aq,y6.1.Au.Ao,y6.1.acts)) else some (.next (z0.1,z0.2.1,z0.2.2.1,z0.2.2.2.1,z0.2.2.2.2.1,z0.2.2.2.2.2.1,z0.2.2.2.2.2.2.1,z0.2.2.2.2.2.2.2.1,z0.2.2.2.2.2.2.2.2.1,z0.2.2.2.2.2.2.2.2.2.1,z0.2.2.2.2.2.2.2.2.2.2))
def O7 (x0:Ay) (x1:List Int) (x2:Int):Option Ay:=
 andThen (foldI (T6 x2) x1 0 (x0.Ak.An,x0.Ak.Ad,x0.Ak.Ac,x0.Ak.Ae,x0.Ak.Phase,x0.Ak.Ap,x0.Au.Ag,x0.Au.Ac,x0.Au.Aq,x0.Au.Ao,x0.acts)) (λ _=>none) λ z0=>some (⟨(⟨z0.1,z0.2.1,z0.2.2.1,z0.2.2.2.1,z0.2.2.2.2.1,z0.2.2.2.2.2.1⟩:Aa),(⟨z0.2.2.2.2.2.2.1,z0.2.2.2.2.2.2.2.1,z0.2.2.2.2.2.2.2.2.1,z0.2.2.2.2.2.2.2.2.2.1⟩:Ab),z0.2.2.2.2.2.2.2.2.2.2⟩:Ay)
def Un (y1:(List Int)) (n0:Nat) (a0:Ai) (z0:Sg8):Option (Ctl (Sg8) Unit):=
 (F95 y1).bind λ y5=>(T9 y5 a0).bind λ y7=>bif decide ((y7.2.Ac.length:Int)>0) then (getI y7.2.An 0).bind λ y10=>(O8 (⟨(⟨z0.1,z0.2.1,z0.2.2.1,z0.2.2.2.1,z0.2.2.2.2.1,z0.2.2.2.2.2.1⟩:Aa),(⟨z0.2.2.2.2.2.2.1,z0.2.2.2.2.2.2.2.1,z0.2.2.2.2.2.2.2.2.1,z0.2.2.2.2.2.2.2.2.2.1⟩:Ab),z0.2.2.2.2.2.2.2.2.2.2⟩:Ay) y7.1 y10).bind λ y12=>(getI y7.2.An 0).bind λ y14=>(O7 y12 y7.1 y14).bind λ y16=>some (.next (y16.Ak.An,y16.Ak.Ad,y16.Ak.Ac,y16.Ak.Ae,y16.Ak.Phase,y16.Ak.Ap,y16.Au.Ag,y16.Au.Ac,y16.Au.Aq,y16.Au.Ao,y16.acts)) else some (.next (z0.1,z0.2.1,z0.2.2.1,z0.2.2.2.1,z0.2.2.2.2.1,z0.2.2.2.2.2.1,z0.2.2.2.2.2.2.1,z0.2.2.2.2.2.2.2.1,z0.2.2.2.2.2.2.2.2.1,z0.2.2.2.2.2.2.2.2.2.1,z0.2.2.2.2.2.2.2.2.2.2))
def O_ (x0:Ay):Option Ay:=
 (Yr x0.Ak).bind λ y1=>(Ac9 x0.Ak x0.Au).bind λ y3=>andThen (foldI (Un y1) y3 0 (x0.Ak.An,x0.Ak.Ad,x0.Ak.Ac,x0.Ak.Ae,x0.Ak.Phase,x0.Ak.Ap,x0.Au.Ag,x0.Au.Ac,x0.Au.Aq,x0.Au.Ao,x0.acts)) (λ _=>none) λ z0=>some (⟨(⟨z0.1,z0.2.1,z0.2.2.1,z0.2.2.2.1,z0.2.2.2.2.1,z0.2.2.2.2.2.1⟩:Aa),(⟨z0.2.2.2.2.2.2.1,z0.2.2.2.2.2.2.2.1,z0.2.2.2.2.2.2.2.2.1,z0.2.2.2.2.2.2.2.2.2.1⟩:Ab),z0.2.2.2.2.2.2.2.2.2.2⟩:Ay)
def qY (x0:Ay):Option Ay:=
 (Uo x0).bind λ y1=>(O_ y1).bind λ y3=>some y3
def qZ (x0:Aa) (x1:Ab):Option (Ab×(List Am)×Int):=
 (F65 x0 x1).bind λ y1=>bif (y1 != 0) then some ((⟨([]:List Bool),([]:List Af),([]:List Int),([]:List Al)⟩:Ab),([]:List Am),y1) else (F66 x1).bind λ y4=>(qY (⟨x0,y4,([]:List Am)⟩:Ay)).bind λ y6=>some (y6.Au,y6.acts,0)
def Ajl (x0:Aa) (x1:Ab):Option (Ab×(List Am)×Int):=
 (qZ x0 x1).bind λ y1=>some (y1.1,y1.2.1,y1.2.2)
def Yj (x1:Am) (y1:Ab×Int):Option (Ctl Int Unit):=
 bif (x1.Kind==7) then some (.next 1) else some (.next y1.2)
def Yk (y1:Ab×Int) (n1:Nat) (a1:Am) (z1:yJ):Option (Ctl (yJ) Unit):=
 (Pa (⟨(⟨z1.1,(⟨z1.2.2.2.2.2.2.2.1,z1.2.2.2.2.2.2.2.2.1,z1.2.2.2.2.2.2.2.2.2.1,z1.2.2.2.2.2.2.2.2.2.2.1⟩:Ab),z1.2.2.2.2.2.2.2.2.2.2.2.1,z1.2.2.2.2.2.2.2.2.2.2.2.2.1⟩:As),(⟨z1.2.1,z1.2.2.1,z1.2.2.2.1,z1.2.2.2.2.1,z1.2.2.2.2.2.1,z1.2.2.2.2.2.2.1⟩:Aa),z1.2.2.2.2.2.2.2.2.2.2.2.2.2.2.1,z1.2.2.2.2.2.2.2.2.2.2.2.2.2.2.2.1⟩:A3) a1 0).bind λ y11=>bif (a1.Kind==2) then (getI z1.2.2.2.2.2.2.2.2.2.2.2.2.2.1 a1.Unit).bind λ y14=>(setI z1.2.2.2.2.2.2.2.2.2.2.2.2.2.1 a1.Unit false).bind λ y16=>(Nq y11 (⟨y16,y1.1.Ac,z1.2.2.2.2.2.2.2.2.2.2.2.2.2.2.2.2,y1.1.Ao⟩:Ab)).bind λ y18=>some (.next (y18.A0.Time,y18.Ak.An,y18.Ak.Ad,y18.Ak.Ac,y18.Ak.Ae,y18.Ak.Phase,y18.Ak.Ap,y18.A0.Power.Ag,y18.A0.Power.Ac,y18.A0.Power.Aq,y18.A0.Power.Ao,y18.A0.A7,y18.A0.Bc,y16,y18.events,y18.states,z1.2.2.2.2.2.2.2.2.2.2.2.2.2.2.2.2)) else (getI z1.2.2.2.2.2.2.2.2.2.2.2.2.2.2.2.2 a1.Unit).bind λ y20=>(setI z1.2.2.2.2.2.2.2.2.2.2.2.2.2.2.2.2 a1.Unit a1.Value).bind λ y22=>(Nq y11 (⟨z1.2.2.2.2.2.2.2.2.2.2.2.2.2.1,y1.1.Ac,y22,y1.1.Ao⟩:Ab)).bind λ y24=>some (.next (y24.A0.Time,y24.Ak.An,y24.Ak.Ad,y24.Ak.Ac,y24.Ak.Ae,y24.Ak.Phase,y24.Ak.Ap,y24.A0.Power.Ag,y24.A0.Power.Ac,y24.A0.Power.Aq,y24.A0.Power.Ao,y24.A0.A7,y24.A0.Bc,z1.2.2.2.2.2.2.2.2.2.2.2.2.2.1,y24.events,y24.states,y22))
def V0 (x0:A3) (x1:Am):Option A3:=
 (F78 x0.Ak x0.A0.Power x0.A0.Time x1).bind λ y1=>andThen (Yj x1 y1) (λ _=>none) λ z0=>(Pa x0 x1 z0).bind λ y4=>bif (z0 != 0) then some y4 else (Nq y4 y1.1).bind λ y7=>(Ajl y7.Ak y1.1).bind λ y9=>andThen (foldI (Yk y1) y9.2.1 0 (y7.A0.Time,y7.Ak.An,y7.Ak.Ad,y7.Ak.Ac,y7.Ak.Ae,y7.Ak.Phase,y7.Ak.Ap,y7.A0.Power.Ag,y7.A0.Power.Ac,y7.A0.Power.Aq,y7.A0.Power.Ao,y7.A0.A7,y7.A0.Bc,y1.1.Ag,y7.events,y7.states,y1.1.Aq)) (λ _=>none) λ z1=>(F50 (⟨z1.2.2.2.2.2.2.2.2.2.2.2.2.2.1,y1.1.Ac,z1.2.2.2.2.2.2.2.2.2.2.2.2.2.2.2.2,y1.1.Ao⟩:Ab) y9.1).bind λ y26=>bif !y26 then (Nq (⟨(⟨z1.1,(⟨z1.2.2.2.2.2.2.2.1,z1.2.2.2.2.2.2.2.2.1,z1.2.2.2.2.2.2.2.2.2.1,z1.2.2.2.2.2.2.2.2.2.2.1⟩:Ab),z1.2.2.2.2.2.2.2.2.2.2.2.1,z1.2.2.2.2.2.2.2.2.2.2.2.2.1⟩:As),(⟨z1.2.1,z1.2.2.1,z1.2.2.2.1,z1.2.2.2.2.1,z1.2.2.2.2.2.1,z1.2.2.2.2.2.2.1⟩:Aa),z1.2.2.2.2.2.2.2.2.2.2.2.2.2.2.1,z1.2.2.2.2.2.2.2.2.2.2.2.2.2.2.2.1⟩:A3) y9.1).bind λ y29=>some (⟨(⟨y29.A0.Time,y9.1,y29.A0.A7,y29.A0.Bc⟩:As),y29.Ak,y29.events,y29.states⟩:A3) else some (⟨(⟨z1.1,y9.1,z1.2.2.2.2.2.2.2.2.2.2.2.1,z1.2.2.2.2.2.2.2.2.2.2.2.2.1⟩:As),(⟨z1.2.1,z1.2.2.1,z1.2.2.2.1,z1.2.2.2.2.1,z1.2.2.2.2.2.1,z1.2.2.2.2.2.2.1⟩:Aa),z1.2.2.2.2.2.2.2.2.2.2.2.2.2.2.1,z1.2.2.2.2.2.2.2.2.2.2.2.2.2.2.2.1⟩:A3)
def Apq (x0:Int) (x1:Int):Int×Int:=
 (IntKind.wrap .u64 ((IntKind.wrap .u64 ((IntKind.wrap .u64 ((G1 .u64 x0 32)*(G1 .u64 x1 32)))+(G1 .u64 (IntKind.wrap .u64 ((IntKind.wrap .u64 ((G1 .u64 x0 32)*(N_ .u64 x1 4294967295)))+(G1 .u64 (IntKind.wrap .u64 ((N_ .u64 x0 4294967295)*(N_ .u64 x1 4294967295))) 32))) 32)))+(G1 .u64 (IntKind.wrap .u64 ((N_ .u64 (IntKind.wrap .u64 ((IntKind.wrap .u64 ((G1 .u64 x0 32)*(N_ .u64 x1 4294967295)))+(G1 .u64 (IntKind.wrap .u64 ((N_ .u64 x0 4294967295)*(N_ .u64 x1 4294967295))) 32))) 4294967295)+(IntKind.wrap .u64 ((N_ .u64 x0 4294967295)*(G1 .u64 x1 32))))) 32)),IntKind.wrap .u64 (x0*x1))
def T5 (x0:Int) (x1:Int):Int×Int:=
 ((Apq x0 x1).1,(Apq x0 x1).2)
def Amq (x1:Int):Option (Ctl Unit Unit):=
 bif decide (x1<0) then none else some (.next ())
def A4a (x0:List Aw) (x1:Int):Bool:=((decide (((T5 (IntKind.wrap .u64 (x0.length:Int)) (IntKind.wrap .u64 x1)).1)>0)) || (decide (((T5 (IntKind.wrap .u64 (x0.length:Int)) (IntKind.wrap .u64 x1)).2)>9223372036854775807)))
def Amp (x0:List Aw) (x1:Int):Option (Ctl Unit Unit):=
 bif (A4a x0 x1) then none else some (.next ())
def A39 (z2:Int×(List Aw)):Bool:=decide (z2.1<(z2.2.length:Int))
def Amr (z2:Int×(List Aw)):Option (Ctl (Int×(List Aw)) Unit):=
 bif (A39 z2) then (bndI z2.2.length z2.1 (z2.2.length:Int)).bind λ u7=>(bndI z2.2.length 0 z2.1).bind λ u9=>some (.next (w64 (z2.1+((Nat.min ((z2.2.drop 0).take ((Int.toNat z2.1)-0)).length ((Int.toNat (z2.2.length:Int))-(Int.toNat z2.1))):Int)),(Tb z2.2 (Int.toNat z2.1) ((Int.toNat (z2.2.length:Int))-(Int.toNat z2.1)) ((z2.2.drop 0).take ((Int.toNat z2.1)-0))))) else some (.brk (z2.1,z2.2))
def Axu (x0:List Aw) (x1:Int):Option ((List Aw)):=
 andThen (Amq x1) (λ _=>none) λ z0=>andThen (Amp x0 x1) (λ _=>none) λ z1=>(mkI 17 (w64 ((T5 (IntKind.wrap .u64 (x0.length:Int)) (IntKind.wrap .u64 x1)).2)) (⟨0,0⟩:Aw)).bind λ y3=>andThen (whileN Amr 1152921504606846976 (((Nat.min x0.length y3.length):Int),(Tb y3 0 y3.length x0))) (λ _=>none) λ z2=>some z2.2
def Ob (x0:Int):Option ((List Aw)):=
 (Axu [(⟨(-1),(-1)⟩:Aw)] x0).bind λ y1=>some y1
def Kr (x0:Int) (x1:Int):Bool:=
 ((decide (x0>=(-1)))&&(decide (x0<=x1)))
def qT (x0:Aj) (x1:Int):Bool:=
 ((x0.Kind==2)&&(x0.B==x1))
def Nt (x1c0:Int) (n0:Nat) (a0:Aj) (z0:Unit):Option (Ctl Unit (Int×Int)):=
 bif qT a0 x1c0 then some (.ret (cnt 0 n0,x1c0)) else some (.next ())
def qU (x0:List Aj) (x1c0:Int):Option (Int×Int):=
 andThen (foldI (Nt x1c0) x0 0 ()) some λ z0=>some ((-1),x1c0)
def Ul (x0:Aa) (x1:Int):Option Int:=
 (qU x0.Ad x1).bind λ y1=>some y1.1
def A38 (x1:A2) (y1:Ai×Bool):Bool:=((!(F49 x1)) || (decide ((y1.1.Ac.length:Int)<2)))
def Ati (x1:A2) (y9:Int) (y11:Bg) (y13:Int):Bool:=decide ((w64 (100*y13))<=(w64 (x1.Stop*(w64 (y9-y11.Rating)))))
def V6 (x0:Aa) (x1:A2) (x2:Ab) (x3:Int) (a0:Int×Int) (z0:Unit):Option (Ctl Unit (Int×Bool)):=
 (Ul x0 a0.2).bind λ y4=>(H5 x2 2 y4).bind λ y6=>bif y6 then some (.next ()) else (T4 x0 x2 x3).bind λ y9=>(getI x0.Ac a0.2).bind λ y11=>(T3 x0 x2 x3).bind λ y13=>bif (Ati x1 y9 y11 y13) then some (.ret (a0.2,true)) else some (.next ())
def Ajg (x0:Aa) (x1:A2) (x2:Ab) (x3:Int):Option (Int×Bool):=
 (Gb x0 x2 x3).bind λ y1=>bif (A38 x1 y1) then some (0,false) else andThen (foldE (V6 x0 x1 x2 x3) (bw y1.1.Ac) ()) (λ v129_0=>some (v129_0.1,v129_0.2)) λ z0=>some (0,false)
def Ajf (x0:Aa) (x1:A2) (x2:Ab) (x3:Int):Option Bool:=
 (A4 [(F49 x1,true)] (Yv x0 x2 x3) default).bind λ y1=>(A4 [(((F49 x1)&&y1),true)] (T3 x0 x2 x3) default).bind λ y3=>(A4 [(((F49 x1)&&y1),true)] (T4 x0 x2 x3) default).bind λ y5=>some (((F49 x1)&&y1)&&(decide ((w64 (100*y3))>(w64 (x1.Start*y5)))))
def Im (x0:Int) (x1:Bool) (x2:Int):Int:=
 bif !x1 then (-1) else bif (x0==(-1)) then x2 else x0
def Ai6 (x0:Aa) (x1:Ab) (x2:Ai) (x3:Int):Option Bool:=
 (Ul x0 x3).bind λ y1=>(getI x0.Ad y1).bind λ y3=>(H5 x1 1 x3).bind λ y5=>(A4 [(y5,false)] (H5 x1 2 y1) default).bind λ y7=>(A4 [((y5 || y7),false)] (H5 x1 3 y3.A) default).bind λ y9=>(A4 [(!((y5 || y7) || y9),true)] (My x2.An y3.A) default).bind λ y11=>(A4 [(((!((y5 || y7) || y9))&&y11),true)] (My x2.Ac x3) default).bind λ y13=>(A4 [((((!((y5 || y7) || y9))&&y11)&&(!y13)),true)] (getI x1.Ac x3) default).bind λ y15=>some ((((!((y5 || y7) || y9))&&y11)&&(!y13))&&(y15.State != 3))
def zF (x0:Aa) (x1:Ab) (y1:Ai×Bool) (a0:Int) (n1:Nat) (a1:Af) (z1:Unit):Option (Ctl Unit (Int×Bool)):=
 (A4 [((a1.State==a0),true)] (Ai6 x0 x1 y1.1 (cnt 0 n1)) default).bind λ y4=>bif ((a1.State==a0)&&y4) then some (.ret (cnt 0 n1,true)) else some (.next ())
def zG (x0:Aa) (x1:Ab) (y1:Ai×Bool) (n0:Nat) (a0:Int) (z0:Unit):Option (Ctl Unit (Int×Bool)):=
 andThen (foldI (zF x0 x1 y1 a0) x1.Ac 0 ()) (λ v=>some (.ret v)) λ z1=>some (.next ())
def Aje (x0:Aa) (x1:Ab) (x2:Int):Option (Int×Bool):=
 (Gb x0 x1 x2).bind λ y1=>bif !y1.2 then some (0,false) else andThen (foldI (zG x0 x1 y1) [2,1,0] 0 ()) some λ z0=>some (0,false)
def Um (x0:Aa) (x1:Ab) (x2:Int) (x3:Int):Option ((List Am)×Bool):=
 (getI x1.Ac x3).bind λ y1=>bif (y1.State==0) then some ([(⟨3,x3,0⟩:Am)],false) else bif (y1.State==2) then (T2 x0 x1 x2).bind λ y5=>(yX x0 x1 y5.1).bind λ y7=>(Ul x0 x3).bind λ y9=>some ([(⟨6,x3,y7.1⟩:Am),(⟨1,y9,0⟩:Am)],true) else some ([],false)
def Ag1 (x1:A2) (x4:Int) (x5:Aw):Bool:=(((((!(F49 x1)) || (decide (x4<0))) || (decide (x4>2147483648))) || (!(Kr x5.High x4))) || (!(Kr x5.Low x4)))
def Ag0 (x0:Aa) (x3:Int):Bool:=((decide (x3<0)) || (decide (x3>=x0.An)))
def Agz (x1:A2) (x4:Int) (x5:Aw) (y8:Bool) (y10:Int×Bool):Bool:=((y10.2&&((Im x5.High y8 x4) != (-1)))&&(decide ((w64 (x4-(Im x5.High y8 x4)))>=x1.Delay)))
def Ur (x4:Int) (x5:Aw) (y8:Bool) (y13:(List Am)×Bool):Option (Ctl Int Unit):=
 bif y13.2 then some (.next (-1)) else some (.next (Im x5.High y8 x4))
def Agy (x1:A2) (x4:Int) (x5:Aw) (y6:Int×Bool):Bool:=(((Im x5.Low y6.2 x4) != (-1))&&(decide ((w64 (x4-(Im x5.Low y6.2 x4)))>=x1.Delay)))
def Us (x0:Aa) (x1:A2) (x2:Ab) (x3:Int) (x4:Int) (x5:Aw):Option (Aw×(List Am)×Int):=
 (F65 x0 x2).bind λ y1=>bif (y1 != 0) then some ((⟨0,0⟩:Aw),[],y1) else bif (Ag1 x1 x4 x5) then some ((⟨0,0⟩:Aw),[],1) else bif (Ag0 x0 x3) then some ((⟨0,0⟩:Aw),[],10) else (Ajg x0 x1 x2 x3).bind λ y6=>(Ajf x0 x1 x2 x3).bind λ y8=>(Aje x0 x2 x3).bind λ y10=>bif (Agz x1 x4 x5 y8 y10) then (Um x0 x2 x3 y10.1).bind λ y13=>andThen (Ur x4 x5 y8 y13) (λ _=>none) λ z0=>some ((⟨z0,Im x5.Low y6.2 x4⟩:Aw),y13.1,0) else bif (Agy x1 x4 x5 y6) then (Ul x0 y6.1).bind λ y17=>some ((⟨Im x5.High y8 x4,(-1)⟩:Aw),[(⟨2,y17,0⟩:Am),(⟨4,y6.1,0⟩:Am)],0) else some ((⟨Im x5.High y8 x4,Im x5.Low y6.2 x4⟩:Aw),[],0)
def A0m (a0:Ai) (y7:Bool):Bool:=(((a0.Ac.length:Int)==0) || (!y7))
def Qw (n1:Nat) (a1:Am) (z1:K2):Option (Ctl (K2) Unit):=
 (V0 (⟨(⟨z1.1,(⟨z1.2.2.2.2.2.2.2.1,z1.2.2.2.2.2.2.2.2.1,z1.2.2.2.2.2.2.2.2.2.1,z1.2.2.2.2.2.2.2.2.2.2.1⟩:Ab),z1.2.2.2.2.2.2.2.2.2.2.2.1,z1.2.2.2.2.2.2.2.2.2.2.2.2.1⟩:As),(⟨z1.2.1,z1.2.2.1,z1.2.2.2.1,z1.2.2.2.2.1,z1.2.2.2.2.2.1,z1.2.2.2.2.2.2.1⟩:Aa),z1.2.2.2.2.2.2.2.2.2.2.2.2.2.1,z1.2.2.2.2.2.2.2.2.2.2.2.2.2.2⟩:A3) a1).bind λ y18=>some (.next (y18.A0.Time,y18.Ak.An,y18.Ak.Ad,y18.Ak.Ac,y18.Ak.Ae,y18.Ak.Phase,y18.Ak.Ap,y18.A0.Power.Ag,y18.A0.Power.Ac,y18.A0.Power.Aq,y18.A0.Power.Ao,y18.A0.A7,y18.A0.Bc,y18.events,y18.states))
def Yi (x1:A2) (n0:Nat) (a0:Ai) (z0:yI):Option (Ctl (yI) Unit):=
 (getI a0.An 0).bind λ y5=>(A4 [(((a0.Ac.length:Int)==0),false)] (Yv (⟨z0.2.1,z0.2.2.1,z0.2.2.2.1,z0.2.2.2.2.1,z0.2.2.2.2.2.1,z0.2.2.2.2.2.2.1⟩:Aa) (⟨z0.2.2.2.2.2.2.2.2.1,z0.2.2.2.2.2.2.2.2.2.1,z0.2.2.2.2.2.2.2.2.2.2.1,z0.2.2.2.2.2.2.2.2.2.2.2.1⟩:Ab) y5) default).bind λ y7=>bif (A0m a0 y7) then some (.next (z0.1,z0.2.1,z0.2.2.1,z0.2.2.2.1,z0.2.2.2.2.1,z0.2.2.2.2.2.1,z0.2.2.2.2.2.2.1,z0.2.2.2.2.2.2.2.1,z0.2.2.2.2.2.2.2.2.1,z0.2.2.2.2.2.2.2.2.2.1,z0.2.2.2.2.2.2.2.2.2.2.1,z0.2.2.2.2.2.2.2.2.2.2.2.1,z0.2.2.2.2.2.2.2.2.2.2.2.2.1,z0.2.2.2.2.2.2.2.2.2.2.2.2.2.1,z0.2.2.2.2.2.2.2.2.2.2.2.2.2.2.1,z0.2.2.2.2.2.2.2.2.2.2.2.2.2.2.2)) else (getI z0.2.2.2.2.2.2.2.2.2.2.2.2.1 y5).bind λ y10=>(Us (⟨z0.2.1,z0.2.2.1,z0.2.2.2.1,z0.2.2.2.2.1,z0.2.2.2.2.2.1,z0.2.2.2.2.2.2.1⟩:Aa) x1 (⟨z0.2.2.2.2.2.2.2.2.1,z0.2.2.2.2.2.2.2.2.2.1,z0.2.2.2.2.2.2.2.2.2.2.1,z0.2.2.2.2.2.2.2.2.2.2.2.1⟩:Ab) y5 z0.1 y10).bind λ y12=>(getI z0.2.2.2.2.2.2.2.1 y5).bind λ y14=>(setI z0.2.2.2.2.2.2.2.1 y5 y12.1).bind λ y16=>andThen (foldI Qw y12.2.1 0 (z0.1,z0.2.1,z0.2.2.1,z0.2.2.2.1,z0.2.2.2.2.1,z0.2.2.2.2.2.1,z0.2.2.2.2.2.2.1,z0.2.2.2.2.2.2.2.2.1,z0.2.2.2.2.2.2.2.2.2.1,z0.2.2.2.2.2.2.2.2.2.2.1,z0.2.2.2.2.2.2.2.2.2.2.2.1,z0.2.2.2.2.2.2.2.2.2.2.2.2.1,z0.2.2.2.2.2.2.2.2.2.2.2.2.2.1,z0.2.2.2.2.2.2.2.2.2.2.2.2.2.2.1,z0.2.2.2.2.2.2.2.2.2.2.2.2.2.2.2)) (λ _=>none) λ z1=>some (.next (z1.1,z1.2.1,z1.2.2.1,z1.2.2.2.1,z1.2.2.2.2.1,z1.2.2.2.2.2.1,z1.2.2.2.2.2.2.1,y16,z1.2.2.2.2.2.2.2.1,z1.2.2.2.2.2.2.2.2.1,z1.2.2.2.2.2.2.2.2.2.1,z1.2.2.2.2.2.2.2.2.2.2.1,z1.2.2.2.2.2.2.2.2.2.2.2.1,z1.2.2.2.2.2.2.2.2.2.2.2.2.1,z1.2.2.2.2.2.2.2.2.2.2.2.2.2.1,z1.2.2.2.2.2.2.2.2.2.2.2.2.2.2))
def qD (x0:A3) (x1:A2):Option A3:=
 (Ob x0.Ak.An).bind λ y1=>(Ac9 x0.Ak x0.A0.Power).bind λ y3=>andThen (foldI (Yi x1) y3 0 (x0.A0.Time,x0.Ak.An,x0.Ak.Ad,x0.Ak.Ac,x0.Ak.Ae,x0.Ak.Phase,x0.Ak.Ap,y1,x0.A0.Power.Ag,x0.A0.Power.Ac,x0.A0.Power.Aq,x0.A0.Power.Ao,x0.A0.A7,x0.A0.Bc,x0.events,x0.states)) (λ _=>none) λ z0=>some (⟨(⟨z0.1,(⟨z0.2.2.2.2.2.2.2.2.1,z0.2.2.2.2.2.2.2.2.2.1,z0.2.2.2.2.2.2.2.2.2.2.1,z0.2.2.2.2.2.2.2.2.2.2.2.1⟩:Ab),z0.2.2.2.2.2.2.2.1,z0.2.2.2.2.2.2.2.2.2.2.2.2.2.1⟩:As),(⟨z0.2.1,z0.2.2.1,z0.2.2.2.1,z0.2.2.2.2.1,z0.2.2.2.2.2.1,z0.2.2.2.2.2.2.1⟩:Aa),z0.2.2.2.2.2.2.2.2.2.2.2.2.2.2.1,z0.2.2.2.2.2.2.2.2.2.2.2.2.2.2.2⟩:A3)
def qE (x0:A3) (x1:Ab):Option A3:=
 (F66 x0.A0.Power).bind λ y3=>(appI 97 x0.states [y3]).bind λ y5=>some (⟨x0.A0,x0.Ak,x0.events,y5⟩:A3)
def Au7 (n0:Nat) (a0:Am) (z0:K2):Option (Ctl (K2) Unit):=
 (V0 (⟨(⟨z0.1,(⟨z0.2.2.2.2.2.2.2.1,z0.2.2.2.2.2.2.2.2.1,z0.2.2.2.2.2.2.2.2.2.1,z0.2.2.2.2.2.2.2.2.2.2.1⟩:Ab),z0.2.2.2.2.2.2.2.2.2.2.2.1,z0.2.2.2.2.2.2.2.2.2.2.2.2.1⟩:As),(⟨z0.2.1,z0.2.2.1,z0.2.2.2.1,z0.2.2.2.2.1,z0.2.2.2.2.2.1,z0.2.2.2.2.2.2.1⟩:Aa),z0.2.2.2.2.2.2.2.2.2.2.2.2.2.1,z0.2.2.2.2.2.2.2.2.2.2.2.2.2.2⟩:A3) a0).bind λ y10=>some (.next (y10.A0.Time,y10.Ak.An,y10.Ak.Ad,y10.Ak.Ac,y10.Ak.Ae,y10.Ak.Phase,y10.Ak.Ap,y10.A0.Power.Ag,y10.A0.Power.Ac,y10.A0.Power.Aq,y10.A0.Power.Ao,y10.A0.A7,y10.A0.Bc,y10.events,y10.states))
def F53 (x0:Aa) (x1:A2) (x2:As) (x3:List Am):Option (A3×Int):=
 (F29 x0 x1 x2).bind λ y1=>bif (y1 != 0) then none else bif decide ((x3.length:Int)>200) then none else bif (x2.Time==2147483648) then none else (F74 x0 x2).bind λ y6=>(qF y6 x2.Power).bind λ y8=>andThen (foldI Au7 x3 0 (y8.A0.Time,y8.Ak.An,y8.Ak.Ad,y8.Ak.Ac,y8.Ak.Ae,y8.Ak.Phase,y8.Ak.Ap,y8.A0.Power.Ag,y8.A0.Power.Ac,y8.A0.Power.Aq,y8.A0.Power.Ao,y8.A0.A7,y8.A0.Bc,y8.events,y8.states)) (λ _=>none) λ z0=>(qD (⟨(⟨z0.1,(⟨z0.2.2.2.2.2.2.2.1,z0.2.2.2.2.2.2.2.2.1,z0.2.2.2.2.2.2.2.2.2.1,z0.2.2.2.2.2.2.2.2.2.2.1⟩:Ab),z0.2.2.2.2.2.2.2.2.2.2.2.1,z0.2.2.2.2.2.2.2.2.2.2.2.2.1⟩:As),(⟨z0.2.1,z0.2.2.1,z0.2.2.2.1,z0.2.2.2.2.1,z0.2.2.2.2.2.1,z0.2.2.2.2.2.2.1⟩:Aa),z0.2.2.2.2.2.2.2.2.2.2.2.2.2.1,z0.2.2.2.2.2.2.2.2.2.2.2.2.2.2⟩:A3) x1).bind λ y12=>(F78 x0 y12.A0.Power y12.A0.Time (⟨7,0,0⟩:Am)).bind λ y14=>(qE (⟨(⟨y12.A0.Time,y14.1,y12.A0.A7,y12.A0.Bc⟩:As),y12.Ak,y12.events,y12.states⟩:A3) y14.1).bind λ y16=>(appI 41 y16.A0.Bc y16.events).bind λ y18=>(cutI y18 (max 0 (w64 ((y18.length:Int)-200))) (y18.length:Int)).bind λ y21=>(F79 y21).bind λ y22=>some ((⟨(⟨w64 (y16.A0.Time+1),y16.A0.Power,y16.A0.A7,y22⟩:As),y16.Ak,y16.events,y16.states⟩:A3),0)
def F31 (x0:Aa) (x1:A2) (x2:As) (x3:List Am):Option (As×(List A6)×Int):=
 (F53 x0 x1 x2 x3).bind λ y1=>bif (y1.2 != 0) then some ((⟨0,(⟨([]:List Bool),([]:List Af),([]:List Int),([]:List Al)⟩:Ab),([]:List Aw),([]:List A6)⟩:As),([]:List A6),y1.2) else some (y1.1.A0,y1.1.events,0)
def F42:Int:=
 14695981039346656037
def F22 (x0:As):Option ByteArray:=
 Oo ([[x0.Time],x0.Power.Ag.map Dq]++x0.Power.Ac.map (λ s=>[s.State,s.Since,s.Ap,s.Phase])++[x0.Power.Aq]++x0.Power.Ao.map (λ s=>[s.Kind,s.Number])++x0.A7.map (λ s=>[s.High,s.Low]))
def Au8 (n0:Nat) (a0:Int) (z0:Int):Option (Ctl Int Unit):=
 some (.next (IntKind.wrap .u64 ((Avd .u64 z0 (IntKind.wrap .u64 a0))*1099511628211)))
def F41 (x0:Int) (x1:ByteArray):Option Int:=
 (Th x1).bind λ y1=>andThen (foldI Au8 y1 0 x0) (λ _=>none) λ z0=>some z0
def F23 (x0:As):Option Int:=
 (F22 x0).bind λ y1=>(F41 F42 y1).bind λ y3=>some y3
def Aoi (x3:List (List Am)) (x4:Int):Bool:=((decide (x4<0)) || (decide (x4>(x3.length:Int))))
def Aoh (x3:List (List Am)) (x4:Int) (z0:Sg1):Bool:=decide (z0.1<(w64 ((x3.length:Int)-x4)))
def Ai7 (x0:Aa) (x1:A2) (x3:List (List Am)) (x4:Int) (z0:Sg1):Option (Ctl (Sg1) ((List Int)×As×Int)):=
 bif (Aoh x3 x4 z0) then (getI x3 (w64 (x4+z0.1))).bind λ y9=>(F31 x0 x1 (⟨z0.2.2.2.2.2.2.2.1,(⟨z0.2.1,z0.2.2.1,z0.2.2.2.1,z0.2.2.2.2.1⟩:Ab),z0.2.2.2.2.2.1,z0.2.2.2.2.2.2.1⟩:As) y9).bind λ y11=>bif (y11.2.2 != 0) then some (.ret (([]:List Int),(⟨0,(⟨([]:List Bool),([]:List Af),([]:List Int),([]:List Al)⟩:Ab),([]:List Aw),([]:List A6)⟩:As),y11.2.2)) else (F23 y11.1).bind λ y14=>(appI 9 z0.2.2.2.2.2.2.2.2 [y14]).bind λ y16=>some (.next (w64 (z0.1+1),y11.1.Power.Ag,y11.1.Power.Ac,y11.1.Power.Aq,y11.1.Power.Ao,y11.1.A7,y11.1.Bc,y11.1.Time,y16)) else some (.brk (z0.1,z0.2.1,z0.2.2.1,z0.2.2.2.1,z0.2.2.2.2.1,z0.2.2.2.2.2.1,z0.2.2.2.2.2.2.1,z0.2.2.2.2.2.2.2.1,z0.2.2.2.2.2.2.2.2))
def F15 (x0:Aa) (x1:A2) (x2:As) (x3:List (List Am)) (x4:Int):Option ((List Int)×As×Int):=
 bif (Aoi x3 x4) then some (([]:List Int),(⟨0,(⟨([]:List Bool),([]:List Af),([]:List Int),([]:List Al)⟩:Ab),([]:List Aw),([]:List A6)⟩:As),1) else bif decide ((x3.length:Int)>60) then some (([]:List Int),(⟨0,(⟨([]:List Bool),([]:List Af),([]:List Int),([]:List Al)⟩:Ab),([]:List Aw),([]:List A6)⟩:As),2) else (F29 x0 x1 x2).bind λ y3=>bif (y3 != 0) then some (([]:List Int),(⟨0,(⟨([]:List Bool),([]:List Af),([]:List Int),([]:List Al)⟩:Ab),([]:List Aw),([]:List A6)⟩:As),y3) else (F30 x2).bind λ y6=>andThen (whileN (Ai7 x0 x1 x3 x4) 1152921504606846976 (0,y6.Power.Ag,y6.Power.Ac,y6.Power.Aq,y6.Power.Ao,y6.A7,y6.Bc,y6.Time,([]:List Int))) some λ z0=>some (z0.2.2.2.2.2.2.2.2,(⟨z0.2.2.2.2.2.2.2.1,(⟨z0.2.1,z0.2.2.1,z0.2.2.2.1,z0.2.2.2.2.1⟩:Ab),z0.2.2.2.2.2.1,z0.2.2.2.2.2.2.1⟩:As),0)
def F14 (x0:Aa) (x1:A2) (x2:As) (x3:List (List Am)):Option ((List Int)×As×Int):=
 (F15 x0 x1 x2 x3 0).bind λ y1=>some (y1.1,y1.2.1,y1.2.2)
def Aog (x0:List Int) (x1:List Int) (z0:Int):Bool:=decide (z0<(max (x0.length:Int) (x1.length:Int)))
def Aof (x0:List Int) (x1:List Int) (z0:Int) (y2:Int) (y4:Int):Bool:=(((decide (z0>=(x0.length:Int))) || (decide (z0>=(x1.length:Int)))) || (y2 != y4))
def Ai0 (x0:List Int) (x1:List Int) (z0:Int):Option (Ctl Int Int):=
 bif (Aog x0 x1 z0) then (A4 [(((decide (z0>=(x0.length:Int))) || (decide (z0>=(x1.length:Int)))),false)] (getI x0 z0) default).bind λ y2=>(A4 [(((decide (z0>=(x0.length:Int))) || (decide (z0>=(x1.length:Int)))),false)] (getI x1 z0) default).bind λ y4=>bif (Aof x0 x1 z0 y2 y4) then some (.ret z0) else some (.next (w64 (z0+1))) else some (.brk z0)
def F25 (x0:List Int) (x1:List Int):Option Int:=
 andThen (whileN (Ai0 x0 x1) 1152921504606846976 0) some λ z0=>some (-1)
def F18 (x0:Aa) (x1:A2) (x2:As) (x3:List (List Am)) (x4:List (List Am)):Option (Int×Int):=
 (F14 x0 x1 x2 x3).bind λ y1=>bif (y1.2.2 != 0) then some (0,y1.2.2) else (F14 x0 x1 x2 x4).bind λ y4=>bif (y4.2.2 != 0) then some (0,y4.2.2) else (F25 y1.1 y4.1).bind λ y7=>some (y7,0)
def F8:Option Bool:=
 (F24 (⟨1,[(⟨2,0,0⟩:Aj)],[(⟨10,0,0⟩:Bg)],[],0,0⟩:Aa) (⟨80,10,1⟩:A2)).bind λ y1=>(F18 (⟨1,[(⟨2,0,0⟩:Aj)],[(⟨10,0,0⟩:Bg)],[],0,0⟩:Aa) (⟨80,10,1⟩:A2) y1.1 [([]:List Am),([]:List Am),([]:List Am),[(⟨3,0,0⟩:Am)],([]:List Am)] [([]:List Am),([]:List Am),([]:List Am),([]:List Am),([]:List Am)]).bind λ y3=>(A4 [((((y1.2==0)&&(y3.2==0))&&(y3.1==3)),true)] (F22 y1.1) default).bind λ y5=>(A4 [(((((y1.2==0)&&(y3.2==0))&&(y3.1==3))&&(y5.toList==(⟨#[48,10,48,10,48,32,48,32,53,48,48,48,32,48,10,10,45,49,32,45,49,10]⟩:ByteArray).toList)),true)] (F25 [1,2] [1,3]) default).bind λ y7=>(A4 [((((((y1.2==0)&&(y3.2==0))&&(y3.1==3))&&(y5.toList==(⟨#[48,10,48,10,48,32,48,32,53,48,48,48,32,48,10,10,45,49,32,45,49,10]⟩:ByteArray).toList))&&(y7==1)),true)] (F25 [1] [1]) default).bind λ y9=>some ((((((y1.2==0)&&(y3.2==0))&&(y3.1==3))&&(y5.toList==(⟨#[48,10,48,10,48,32,48,32,53,48,48,48,32,48,10,10,45,49,32,45,49,10]⟩:ByteArray).toList))&&(y7==1))&&(y9==(-1)))
def F9 (x0:List Int):Option Ah:=
 (cutI x0 0 (min (x0.length:Int) 600)).bind λ y2=>some (⟨y2,0⟩:Ah)
def F35 (x0:Int) (x1:Int):Option Int:=
 bif decide (x1<1) then some 0 else (nzI x1).bind λ u3=>(nzI x1).bind λ u5=>some (Int.tmod (w64 ((Int.tmod x0 x1)+x1)) x1)
def F19 (x0:Ah) (x1:Int):Option (Int×Ah):=
 bif decide (x0.At>=(x0.L.length:Int)) then some (0,x0) else (getI x0.L (w64 ((w64 (x0.At+1))-1))).bind λ y2=>(F35 y2 x1).bind λ y4=>some (y4,(⟨x0.L,w64 (x0.At+1)⟩:Ah))
def F26 (x0:Ah) (x1:Int) (x2:Int):Option (Int×Ah):=
 (F19 x0 (w64 ((w64 (x2-x1))+1))).bind λ y1=>some (w64 (x1+y1.1),y1.2)
def F27 (x0:Ah) (x1:List Int):Option (Int×Ah):=
 (F19 x0 (x1.length:Int)).bind λ y1=>(getI x1 y1.1).bind λ y3=>some (y3,y1.2)
def uD (y1:Int×Ah) (z0:Sg3):Option (Ctl (Sg3) Unit):=
 bif decide (z0.1<y1.1) then (F19 (⟨z0.2.1,z0.2.2.1⟩:Ah) 6).bind λ y8=>bif decide (y8.1<5) then (F19 y8.2 z0.1).bind λ y11=>(appI 25 z0.2.2.2 [(⟨1,y11.1,z0.1⟩:Aj)]).bind λ y13=>some (.next (w64 (z0.1+1),y11.2.L,y11.2.At,y13)) else some (.next (w64 (z0.1+1),y8.2.L,y8.2.At,z0.2.2.2)) else some (.brk (z0.1,z0.2.1,z0.2.2.1,z0.2.2.2))
def Ajk (y1:Int×Ah) (z0:Sg3) (y15:Int×Ah):Option (Ctl ((List Aj)) Unit):=
 bif ((decide (y1.1>2))&&(y15.1==1)) then (appI 25 z0.2.2.2 [(⟨1,0,w64 (y1.1-1)⟩:Aj)]).bind λ y18=>some (.next y18) else some (.next z0.2.2.2)
def uC (y1:Int×Ah) (z2:Sg5):Option (Ctl (Sg5) Unit):=
 bif decide (z2.1>0) then (F19 (⟨z2.2.1,z2.2.2.1⟩:Ah) y1.1).bind λ y23=>(appI 25 z2.2.2.2.1 [(⟨2,y23.1,(z2.2.2.2.2.length:Int)⟩:Aj)]).bind λ y25=>(F27 y23.2 [10,50,100]).bind λ y27=>(F27 y27.2 [0,5,y27.1]).bind λ y29=>(F27 y29.2 [0,1,3]).bind λ y31=>(appI 25 z2.2.2.2.2 [(⟨y27.1,y29.1,y31.1⟩:Bg)]).bind λ y33=>some (.next (w64 (z2.1-1),y31.2.L,y31.2.At,y25,y33)) else some (.brk (z2.1,z2.2.1,z2.2.2.1,z2.2.2.2.1,z2.2.2.2.2))
def Ajj (y1:Int×Ah) (z3:Sg4) (y38:Int×Ah) (y40:List Aj) (y42:Int×Ah):Option (Ctl ((List Aj)) Unit):=
 bif ((decide (y1.1>1))&&(y42.1==3)) then (nzI y1.1).bind λ u46=>(appI 25 y40 [(⟨3,Int.tmod (w64 (y38.1+1)) y1.1,(z3.2.2.2.2.length:Int)⟩:Aj)]).bind λ y47=>some (.next y47) else some (.next y40)
def Ay1 (z3:Sg4) (y57:Int×Ah):Bool:=((decide ((z3.2.2.2.2.length:Int)>0))&&(y57.1==3))
def uB (y1:Int×Ah) (z3:Sg4):Option (Ctl (Sg4) Unit):=
 bif decide (z3.1>0) then (F19 (⟨z3.2.1,z3.2.2.1⟩:Ah) y1.1).bind λ y38=>(appI 25 z3.2.2.2.1 [(⟨3,y38.1,(z3.2.2.2.2.length:Int)⟩:Aj)]).bind λ y40=>(A4 [(decide (y1.1>1),true)] (F19 y38.2 4) (default,y38.2)).bind λ y42=>andThen (Ajj y1 z3 y38 y40 y42) (λ _=>none) λ z4=>(F27 y42.2 [0,5,20,40]).bind λ y49=>(F27 y49.2 [0,w64 (Int.tdiv y49.1 2),y49.1]).bind λ y51=>(F19 y51.2 3).bind λ y53=>(F26 y53.2 (-1) 2).bind λ y55=>(A4 [(decide ((z3.2.2.2.2.length:Int)>0),true)] (F19 y55.2 4) (default,y55.2)).bind λ y57=>bif (Ay1 z3 y57) then (F19 y57.2 (z3.2.2.2.2.length:Int)).bind λ y60=>(appI 57 z3.2.2.2.2 [(⟨y49.1,y51.1,y53.1,y55.1,[y60.1]⟩:A5)]).bind λ y62=>some (.next (w64 (z3.1-1),y60.2.L,y60.2.At,z4,y62)) else (appI 57 z3.2.2.2.2 [(⟨y49.1,y51.1,y53.1,y55.1,([]:List Int)⟩:A5)]).bind λ y64=>some (.next (w64 (z3.1-1),y57.2.L,y57.2.At,z4,y64)) else some (.brk (z3.1,z3.2.1,z3.2.2.1,z3.2.2.2.1,z3.2.2.2.2))
def F10 (x0:Ah):Option (Aa×Ah):=
 (F26 x0 1 4).bind λ y1=>(F27 y1.2 [0,50,200,1800]).bind λ y3=>(F27 y3.2 [0,10,50]).bind λ y5=>andThen (whileN (uD y1) 1152921504606846976 (1,y5.2.L,y5.2.At,([]:List Aj))) (λ _=>none) λ z0=>(A4 [(decide (y1.1>2),true)] (F19 (⟨z0.2.1,z0.2.2.1⟩:Ah) 2) (default,(⟨z0.2.1,z0.2.2.1⟩:Ah))).bind λ y15=>andThen (Ajk y1 z0 y15) (λ _=>none) λ z1=>(F19 y15.2 5).bind λ y20=>andThen (whileN (uC y1) 1152921504606846976 (y20.1,y20.2.L,y20.2.At,z1,([]:List Bg))) (λ _=>none) λ z2=>(F19 (⟨z2.2.1,z2.2.2.1⟩:Ah) 6).bind λ y35=>andThen (whileN (uB y1) 1152921504606846976 (y35.1,y35.2.L,y35.2.At,z2.2.2.2.1,([]:List A5))) (λ _=>none) λ z3=>some ((⟨y1.1,z3.2.2.2.1,z2.2.2.2.2,z3.2.2.2.2,y3.1,y5.1⟩:Aa),(⟨z3.2.1,z3.2.2.1⟩:Ah))
def F11 (x0:Ah):Option (A2×Ah):=
 (F27 x0 [60,80,100]).bind λ y1=>(F27 y1.2 [1,30,50]).bind λ y3=>(F27 y3.2 [0,1,3]).bind λ y5=>some ((⟨y1.1,y3.1,y5.1⟩:A2),y5.2)
def F64 (x0:Aa) (x1:Al):Bool:=
 bif (x1.Kind==1) then F82 x1.Number 0 (w64 ((x0.Ac.length:Int)-1)) else bif (x1.Kind==2) then F82 x1.Number 0 (w64 ((x0.Ad.length:Int)-1)) else bif (x1.Kind==3) then F82 x1.Number 0 (w64 (x0.An-1)) else bif (x1.Kind==4) then F82 x1.Number 0 (w64 ((x0.Ae.length:Int)-1)) else false
def Alt (x1:Aa) (z0:Int×(List Int)×Int×(List Bool)):Bool:=decide (z0.1<(x1.Ad.length:Int))
def Q4 (x1:Aa) (z0:Int×(List Int)×Int×(List Bool)):Option (Ctl (Int×(List Int)×Int×(List Bool)) Unit):=
 bif (Alt x1 z0) then (F19 (⟨z0.2.1,z0.2.2.1⟩:Ah) 2).bind λ y2=>(appI 2 z0.2.2.2 [(y2.1==1)]).bind λ y4=>some (.next (w64 (z0.1+1),y2.2.L,y2.2.At,y4)) else some (.brk (z0.1,z0.2.1,z0.2.2.1,z0.2.2.2))
def Als (x1:Aa) (z1:Int×(List Bool)):Bool:=decide (z1.1<(x1.Ae.length:Int))
def Agt (z1:Int×(List Bool)) (a2:Aj) (y7:Bool):Bool:=(((a2.Kind==3)&&(a2.B==z1.1))&&y7)
def Q2 (z1:Int×(List Bool)) (n2:Nat) (a2:Aj) (z2:Bool×(List Bool)):Option (Ctl (Bool×(List Bool)) Unit):=
 (A4 [(((a2.Kind==3)&&(a2.B==z1.1)),true)] (getI z2.2 (cnt 0 n2)) default).bind λ y7=>bif (Agt z1 a2 y7) then (getI z2.2 (cnt 0 n2)).bind λ y10=>(setI z2.2 (cnt 0 n2) z2.1).bind λ y12=>some (.next (false,y12)) else some (.next (z2.1,z2.2))
def Q3 (x1:Aa) (z1:Int×(List Bool)):Option (Ctl (Int×(List Bool)) Unit):=
 bif (Als x1 z1) then andThen (foldI (Q2 z1) x1.Ad 0 (true,z1.2)) (λ _=>none) λ z2=>some (.next (w64 (z1.1+1),z2.2)) else some (.brk (z1.1,z1.2))
def Ags (x1:Aa) (z3:Sg7):Bool:=decide (z3.1<(x1.Ac.length:Int))
def Q1 (x1:Aa) (z3:Sg7):Option (Ctl (Sg7) Unit):=
 bif (Ags x1 z3) then (F27 (⟨z3.2.1,z3.2.2.1⟩:Ah) [0,1,2,2,2,3]).bind λ y15=>(F19 y15.2 5).bind λ y17=>(F27 y17.2 [5000,5000,5005,4950]).bind λ y19=>(F27 y19.2 [0,0,40,1800,3590]).bind λ y21=>(appI 33 z3.2.2.2 [(⟨y15.1,y17.1,y19.1,y21.1⟩:Af)]).bind λ y23=>some (.next (w64 (z3.1+1),y21.2.L,y21.2.At,y23)) else some (.brk (z3.1,z3.2.1,z3.2.2.1,z3.2.2.2))
def Q0 (n4:Nat) (a4:A5) (z4:(List Int)×Int×(List Int)):Option (Ctl ((List Int)×Int×(List Int)) Unit):=
 (F27 (⟨z4.1,z4.2.1⟩:Ah) [a4.Load,a4.Load,a4.Least,w64 (Int.tdiv a4.Load 3)]).bind λ y25=>(appI 9 z4.2.2 [y25.1]).bind λ y27=>some (.next (y25.2.L,y25.2.At,y27))
def Qz (x1:Aa) (z5:Int×(List Int)×Int×(List Al)):Option (Ctl (Int×(List Int)×Int×(List Al)) Unit):=
 bif decide (z5.1<=4) then (F19 (⟨z5.2.1,z5.2.2.1⟩:Ah) 5).bind λ y30=>bif (y30.1==4) then (F19 y30.2 4).bind λ y33=>bif F64 x1 (⟨z5.1,y33.1⟩:Al) then (appI 17 z5.2.2.2 [(⟨z5.1,y33.1⟩:Al)]).bind λ y36=>some (.next (w64 (z5.1+1),y33.2.L,y33.2.At,y36)) else some (.next (w64 (z5.1+1),y33.2.L,y33.2.At,z5.2.2.2)) else some (.next (w64 (z5.1+1),y30.2.L,y30.2.At,z5.2.2.2)) else some (.brk (z5.1,z5.2.1,z5.2.2.1,z5.2.2.2))
def V1 (x0:Ah) (x1:Aa):Option (Ab×Ah):=
 andThen (whileN (Q4 x1) 1152921504606846976 (0,x0.L,x0.At,([]:List Bool))) (λ _=>none) λ z0=>andThen (whileN (Q3 x1) 1152921504606846976 (0,z0.2.2.2)) (λ _=>none) λ z1=>andThen (whileN (Q1 x1) 1152921504606846976 (0,z0.2.1,z0.2.2.1,([]:List Af))) (λ _=>none) λ z3=>andThen (foldI Q0 x1.Ae 0 (z3.2.1,z3.2.2.1,([]:List Int))) (λ _=>none) λ z4=>andThen (whileN (Qz x1) 7 (1,z4.1,z4.2.1,([]:List Al))) (λ _=>none) λ z5=>some ((⟨z1.2,z3.2.2.2,z4.2.2,z5.2.2.2⟩:Ab),(⟨z5.2.1,z5.2.2.1⟩:Ah))
def F84 (x0:Al) (x1:Al):Bool:=
 ((decide (x0.Kind<x1.Kind)) || ((x0.Kind==x1.Kind)&&(decide (x0.Number<x1.Number))))
def Ays (x0:Aa) (x1:Ab):Bool:=((((x1.Ag.length:Int) != (x0.Ad.length:Int)) || ((x1.Ac.length:Int) != (x0.Ac.length:Int))) || ((x1.Aq.length:Int) != (x0.Ae.length:Int)))
def Ayr (a0:Af):Bool:=((((!(F82 a0.State 0 3)) || (!(F82 a0.Since 0 2147483648))) || (!(F82 a0.Ap 0 6000))) || (!(F82 a0.Phase 0 3599)))
def Ais (n0:Nat) (a0:Af) (z0:Unit):Option (Ctl Unit Int):=
 bif (Ayr a0) then some (.ret 11) else some (.next ())
def Air (x0:Aa) (n1:Nat) (a1:Int) (z1:Unit):Option (Ctl Unit Int):=
 (getI x0.Ae (cnt 0 n1)).bind λ y6=>bif !(F82 a1 0 y6.Load) then some (.ret 11) else some (.next ())
def Ayq (x0:Aa) (n2:Nat) (a2:Al) (y10:Al):Bool:=((!(F64 x0 a2)) || ((decide ((cnt 0 n2)>0))&&(!(F84 y10 a2))))
def Aiq (x0:Aa) (x1:Ab) (n2:Nat) (a2:Al) (z2:Unit):Option (Ctl Unit Int):=
 (A4 [(!(F64 x0 a2),false),(decide ((cnt 0 n2)>0),true)] (getI x1.Ao (w64 ((cnt 0 n2)-1))) default).bind λ y10=>bif (Ayq x0 n2 a2 y10) then some (.ret 11) else some (.next ())
def Ayp (x0:Aa) (z3:Int):Bool:=decide (z3<(x0.Ae.length:Int))
def Aio (x1:Ab) (n4:Nat) (a4:Int) (z4:Int):Option (Ctl Int Unit):=
 (getI x1.Ag a4).bind λ y16=>bif y16 then some (.next (w64 (z4+1))) else some (.next z4)
def Aip (x0:Aa) (x1:Ab) (z3:Int):Option (Ctl Int Int):=
 bif (Ayp x0 z3) then (F83 x0 3 z3).bind λ y14=>andThen (foldI (Aio x1) y14 0 0) (λ _=>none) λ z4=>bif decide (z4>1) then some (.ret 11) else some (.next (w64 (z3+1))) else some (.brk z3)
def F62 (x0:Aa) (x1:Ab):Option Int:=
 (F43 x0).bind λ y1=>bif (y1 != 0) then some y1 else bif (Ays x0 x1) then some 8 else andThen (foldI Ais x1.Ac 0 ()) some λ z0=>andThen (foldI (Air x0) x1.Aq 0 ()) some λ z1=>bif decide ((x1.Ao.length:Int)>32) then some 11 else andThen (foldI (Aiq x0 x1) x1.Ao 0 ()) some λ z2=>andThen (whileN (Aip x0 x1) 1152921504606846976 0) some λ z3=>some 0
def F37 (x0:Ab):Option Ab:=
 (appI 2 ([]:List Bool) x0.Ag).bind λ y1=>(appI 33 ([]:List Af) x0.Ac).bind λ y3=>(appI 9 ([]:List Int) x0.Aq).bind λ y5=>(appI 17 ([]:List Al) x0.Ao).bind λ y7=>some (⟨y1,y3,y5,y7⟩:Ab)
def Tg (a1:Aj) (y7:Bool) (y9:Bool) (y11:Bool):Bool:=(((a1.Kind==1)&&y7)&&(y9 || y11))
def zD (x1:Ab) (n1:Nat) (a1:Aj) (z1:(List Bool)):Option (Ctl ((List Bool)) Unit):=
 (A4 [((a1.Kind==1),true)] (getI x1.Ag (cnt 0 n1)) default).bind λ y7=>(A4 [(((a1.Kind==1)&&y7),true)] (getI z1 a1.A) default).bind λ y9=>(A4 [(((a1.Kind==1)&&y7),true),(y9,false)] (getI z1 a1.B) default).bind λ y11=>bif (Tg a1 y7 y9 y11) then (getI z1 a1.A).bind λ y14=>(setI z1 a1.A true).bind λ y16=>(getI y16 a1.B).bind λ y18=>(setI y16 a1.B true).bind λ y20=>some (.next y20) else some (.next z1)
def zE (x0:Aa) (x1:Ab) (n0:Nat) (a0:Bool) (z0:(List Bool)):Option (Ctl ((List Bool)) Unit):=
 andThen (foldI (zD x1) x0.Ad 0 z0) (λ _=>none) λ z1=>some (.next z1)
def zC (n2:Nat) (a2:Bool) (z2:(List Int)):Option (Ctl ((List Int)) Unit):=
 bif a2 then (appI 9 z2 [cnt 0 n2]).bind λ y23=>some (.next y23) else some (.next z2)
def Aja (x0:Aa) (x1:Ab) (x2:Int):Option ((List Int)):=
 (mkI 2 x0.An false).bind λ y1=>(getI y1 x2).bind λ y3=>(setI y1 x2 true).bind λ y5=>andThen (foldI (zE x0 x1) y5 0 y5) (λ _=>none) λ z0=>andThen (foldI zC z0 0 ([]:List Int)) (λ _=>none) λ z2=>some z2
def jP (x0:Aa) (x2:Int) (y1:Int) (y3:Af):Bool:=((((y1 != 0) || (decide (x2<0))) || (decide (x2>=(x0.Ac.length:Int)))) || (y3.State != 2))
def Ai9 (x0:Aa) (x1:Ab) (x2:Int):Option (Int×Bool):=
 (F62 x0 x1).bind λ y1=>(A4 [((((y1 != 0) || (decide (x2<0))) || (decide (x2>=(x0.Ac.length:Int)))),false)] (getI x1.Ac x2) default).bind λ y3=>bif (jP x0 x2 y1 y3) then some (0,false) else (F83 x0 2 x2).bind λ y6=>(getI y6 0).bind λ y8=>(getI x1.Ag y8).bind λ y10=>bif !y10 then some (0,false) else (getI x0.Ad y8).bind λ y13=>some (y13.A,true)
def V5 (x1:Int) (n0:Nat) (a0:Int) (z0:Unit):Option (Ctl Unit Bool):=
 bif (a0==x1) then some (.ret true) else some (.next ())
def zA (x0:List Int) (x1:Int):Option Bool:=
 andThen (foldI (V5 x1) x0 0 ()) some λ z0=>some false
def Atf (x0:Aa) (x2:Int) (y1:Int):Bool:=(((y1 != 0) || (decide (x2<0))) || (decide (x2>=(x0.Ae.length:Int))))
def V4 (x0:Aa) (x1:Ab) (n0:Nat) (a0:Int) (z0:Unit):Option (Ctl Unit (Int×Bool)):=
 (getI x1.Ag a0).bind λ y6=>bif y6 then (getI x0.Ad a0).bind λ y9=>some (.ret (y9.A,true)) else some (.next ())
def Ai8 (x0:Aa) (x1:Ab) (x2:Int):Option (Int×Bool):=
 (F62 x0 x1).bind λ y1=>bif (Atf x0 x2 y1) then some (0,false) else (F83 x0 3 x2).bind λ y4=>andThen (foldI (V4 x0 x1) y4 0 ()) some λ z0=>some (0,false)
def Ato (x0:Aa) (x2:Int) (y1:Int):Bool:=(((y1 != 0) || (decide (x2<0))) || (decide (x2>=x0.An)))
def Atn (x0:Aa) (z0:Int×(List Int)):Bool:=decide (z0.1<(x0.Ac.length:Int))
def zN (x0:Aa) (x1:Ab) (y4:(List Int)) (z0:Int×(List Int)):Option (Ctl (Int×(List Int)) Unit):=
 bif (Atn x0 z0) then (Ai9 x0 x1 z0.1).bind λ y7=>(A4 [(y7.2,true)] (zA y4 y7.1) default).bind λ y9=>bif (y7.2&&y9) then (appI 9 z0.2 [z0.1]).bind λ y12=>some (.next (w64 (z0.1+1),y12)) else some (.next (w64 (z0.1+1),z0.2)) else some (.brk (z0.1,z0.2))
def Atm (x0:Aa) (z1:Int×(List Int)):Bool:=decide (z1.1<(x0.Ae.length:Int))
def zM (x0:Aa) (x1:Ab) (y4:(List Int)) (z1:Int×(List Int)):Option (Ctl (Int×(List Int)) Unit):=
 bif (Atm x0 z1) then (Ai8 x0 x1 z1.1).bind λ y15=>(A4 [(y15.2,true)] (zA y4 y15.1) default).bind λ y17=>bif (y15.2&&y17) then (appI 9 z1.2 [z1.1]).bind λ y20=>some (.next (w64 (z1.1+1),y20)) else some (.next (w64 (z1.1+1),z1.2)) else some (.brk (z1.1,z1.2))
def Aji (x0:Aa) (x1:Ab) (x2:Int):Option (Ai×Bool):=
 (F62 x0 x1).bind λ y1=>bif (Ato x0 x2 y1) then some ((⟨([]:List Int),([]:List Int),([]:List Int)⟩:Ai),false) else (Aja x0 x1 x2).bind λ y4=>andThen (whileN (zN x0 x1 y4) 1152921504606846976 (0,([]:List Int))) (λ _=>none) λ z0=>andThen (whileN (zM x0 x1 y4) 1152921504606846976 (0,([]:List Int))) (λ _=>none) λ z1=>some ((⟨y4,z0.2,z1.2⟩:Ai),true)
def Aid (x0:Aa) (x1:Ab) (z0:Int×(List Ai)):Option (Ctl (Int×(List Ai)) Unit):=
 bif decide (z0.1<x0.An) then (Aji x0 x1 z0.1).bind λ y5=>(getI y5.1.An 0).bind λ y7=>bif (y7==z0.1) then (appI 73 z0.2 [y5.1]).bind λ y10=>some (.next (w64 (z0.1+1),y10)) else some (.next (w64 (z0.1+1),z0.2)) else some (.brk (z0.1,z0.2))
def F85 (x0:Aa) (x1:Ab):Option ((List Ai)):=
 (F62 x0 x1).bind λ y1=>bif (y1 != 0) then some ([]:List Ai) else andThen (whileN (Aid x0 x1) 1152921504606846976 (0,([]:List Ai))) (λ _=>none) λ z0=>some z0.2
def Aim (x1:Ab) (a0:Ai) (n1:Nat) (a1:Int) (z1:(List Af)):Option (Ctl ((List Af)) Unit):=
 (getI a0.Ac 0).bind λ y5=>(getI x1.Ac y5).bind λ y7=>(getI a0.Ac 0).bind λ y9=>(getI x1.Ac y9).bind λ y11=>(getI z1 a1).bind λ y13=>(setI z1 a1 (⟨y13.State,y13.Since,y7.Ap,y13.Phase⟩:Af)).bind λ y15=>(getI y15 a1).bind λ y17=>(setI y15 a1 (⟨y17.State,y17.Since,y17.Ap,y11.Phase⟩:Af)).bind λ y19=>some (.next y19)
def Ain (x1:Ab) (n0:Nat) (a0:Ai) (z0:(List Af)):Option (Ctl ((List Af)) Unit):=
 andThen (foldI (Aim x1 a0) a0.Ac 0 z0) (λ _=>none) λ z1=>some (.next z1)
def F63 (x0:Aa) (x1:Ab):Option Ab:=
 (F37 x1).bind λ y1=>(F85 x0 x1).bind λ y3=>andThen (foldI (Ain x1) y3 0 y1.Ac) (λ _=>none) λ z0=>some (⟨y1.Ag,z0,y1.Aq,y1.Ao⟩:Ab)
def F45 (x0:Aa) (x1:Ab):Option (Ab×Int):=
 (F62 x0 x1).bind λ y1=>bif (y1 != 0) then some ((⟨([]:List Bool),([]:List Af),([]:List Int),([]:List Al)⟩:Ab),y1) else (F63 x0 x1).bind λ y4=>some (y4,0)
def qN (x0:Ah) (x1:Aa):Option (Ab×Ah):=
 (V1 x0 x1).bind λ y1=>(F45 x1 y1.1).bind λ y3=>some (y3.1,y1.2)
def Yu (x1:Aa) (z0:Sg6):Option (Ctl (Sg6) Unit):=
 bif decide (z0.1<x1.An) then (F26 (⟨z0.2.1,z0.2.2.1⟩:Ah) (-1) 4).bind λ y6=>(F26 y6.2 (-1) 4).bind λ y8=>(appI 17 z0.2.2.2 [(⟨y6.1,y8.1⟩:Aw)]).bind λ y10=>some (.next (w64 (z0.1+1),y8.2.L,y8.2.At,y10)) else some (.brk (z0.1,z0.2.1,z0.2.2.1,z0.2.2.2))
def qX (x0:Ah) (x1:Aa):Option (As×Ah):=
 (F26 x0 5 20).bind λ y1=>(qN y1.2 x1).bind λ y3=>andThen (whileN (Yu x1) 1152921504606846976 (0,y3.2.L,y3.2.At,([]:List Aw))) (λ _=>none) λ z0=>some ((⟨y1.1,y3.1,z0.2.2.2,([]:List A6)⟩:As),(⟨z0.2.1,z0.2.2.1⟩:Ah))
def Yo (y1:Int×Ah):Option (Ctl Bool Unit):=
 bif (y1.1==1) then some (.next (y1.1==1)) else some (.next (y1.1==2))
def Yn (y1:Int×Ah):Option (Ctl Bool Unit):=
 bif (y1.1==3) then some (.next (y1.1==3)) else some (.next (y1.1==4))
def qM (x0:Ah) (x1:Aa):Option (Am×Ah):=
 (F26 x0 1 9).bind λ y1=>andThen (Yo y1) (λ _=>none) λ z0=>bif z0 then (F19 y1.2 (w64 ((x1.Ad.length:Int)+1))).bind λ y5=>some ((⟨y1.1,y5.1,0⟩:Am),y5.2) else andThen (Yn y1) (λ _=>none) λ z1=>bif z1 then (F19 y1.2 (w64 ((x1.Ac.length:Int)+1))).bind λ y9=>some ((⟨y1.1,y9.1,0⟩:Am),y9.2) else bif (y1.1==5) then (F19 y1.2 (w64 ((x1.Ae.length:Int)+1))).bind λ y12=>(F27 y12.2 [0,5,20,41]).bind λ y14=>some ((⟨y1.1,y12.1,y14.1⟩:Am),y14.2) else bif (y1.1==6) then (F19 y1.2 (w64 ((x1.Ac.length:Int)+1))).bind λ y17=>(F19 y17.2 (w64 (x1.An+1))).bind λ y19=>some ((⟨y1.1,y17.1,y19.1⟩:Am),y19.2) else bif (y1.1==8) then (F26 y1.2 1 4).bind λ y22=>(F19 y22.2 4).bind λ y24=>some ((⟨y1.1,y24.1,y22.1⟩:Am),y24.2) else bif (y1.1==9) then (F26 y1.2 1 4).bind λ y27=>(F19 y27.2 4).bind λ y29=>some ((⟨y1.1,y29.1,y27.1⟩:Am),y29.2) else some ((⟨y1.1,0,0⟩:Am),y1.2)
def Yp (x1:Aa) (z0:Int×(List Int)×Int×(List Am)):Option (Ctl (Int×(List Int)×Int×(List Am)) Unit):=
 bif decide (z0.1>0) then (qM (⟨z0.2.1,z0.2.2.1⟩:Ah) x1).bind λ y4=>(appI 25 z0.2.2.2 [y4.1]).bind λ y6=>some (.next (w64 (z0.1-1),y4.2.L,y4.2.At,y6)) else some (.brk (z0.1,z0.2.1,z0.2.2.1,z0.2.2.2))
def qP (x0:Ah) (x1:Aa) (x2:Int):Option ((List Am)×Ah):=
 (F19 x0 (w64 (x2+1))).bind λ y1=>andThen (whileN (Yp x1) 1152921504606846976 (y1.1,y1.2.L,y1.2.At,([]:List Am))) (λ _=>none) λ z0=>some (z0.2.2.2,(⟨z0.2.1,z0.2.2.1⟩:Ah))
def Yt (x1:Aa) (z0:Sg2):Option (Ctl (Sg2) Unit):=
 bif decide (z0.1>0) then (qP (⟨z0.2.1,z0.2.2.1⟩:Ah) x1 2).bind λ y6=>(appI 25 z0.2.2.2 [y6.1]).bind λ y8=>some (.next (w64 (z0.1-1),y6.2.L,y6.2.At,y8)) else some (.brk (z0.1,z0.2.1,z0.2.2.1,z0.2.2.2))
def qW (x0:Ah) (x1:Aa) (x2:Int):Option ((List (List Am))×Ah):=
 (F19 x0 (w64 (x2+1))).bind λ y1=>andThen (whileN (Yt x1) 1152921504606846976 (y1.1,y1.2.L,y1.2.At,([]:List (List Am)))) (λ _=>none) λ z0=>some (z0.2.2.2,(⟨z0.2.1,z0.2.2.1⟩:Ah))
def F5 (x0:List Int):Option Bool:=
 bif decide ((x0.length:Int)>600) then (F8).bind λ y2=>some y2 else (F9 x0).bind λ y4=>(F10 y4).bind λ y6=>(F11 y6.2).bind λ y8=>(qX y8.2 y6.1).bind λ y10=>(qW y10.2 y6.1 4).bind λ y12=>(appI 25 y12.1 [([]:List Am)]).bind λ y14=>(F19 y12.2 (y14.length:Int)).bind λ y16=>(cutI y14 0 y16.1).bind λ y19=>(F18 y6.1 y8.1 y10.1 y14 y19).bind λ y20=>(A4 [(((y20.2==0)&&(y20.1==y16.1)),true)] (F8) default).bind λ y22=>some (((y20.2==0)&&(y20.1==y16.1))&&y22)
end Go.Proofs.YtpdbkiafikdgpaaGreatDoor
