import Derived.Test.YtpdbkiafikdgpaaGreatDoorTy
import Derived.Test.YtpdbkiafikdgpaaGreatDoorTx
set_option linter.unusedVariables false
namespace Go.Proofs.YtpdbkiafikdgpaaGreatDoor
open Go.SL
abbrev Sg0:=Int×(List Bool)×(List Af)×(List Int)×(List Ak)×(List Av)×(List A6)
abbrev Sg1:=Int×(List Bool)×(List Af)×(List Int)×(List Ak)×(List Av)×(List A6)×Int×(List Int)
abbrev Sg2:=Int×(List Int)×Int×(List Ai)
abbrev Sg3:=Int×(List Int)×Int×(List Ai)×(List A7)
abbrev Sg4:=Int×(List Int)×Int×(List Ai)×(List Bh)
abbrev Sg5:=Int×(List Int)×Int×(List Av)
abbrev Sg6:=Int×(List Int)×Int×(List Af)
abbrev Sg7:=Int×(List Ai)×(List Bh)×(List A7)×Int×Int×(List Bool)×(List Af)×(List Int)×(List Ak)×(List Ao)
abbrev Sg8:=Int×(List Ai)×(List Bh)×(List A7)×Int×Int×(List Int)×(List Bool)×(List Af)×(List Int)×(List Ak)×(List Ao)
abbrev Sg9:=Int×Int×(List Int)×Int×(List Ai)×(List Bh)×(List A7)×Int×Int
abbrev yT:=Int×Int×(List Ai)×(List Bh)×(List A7)×Int×Int×(List Bool)×(List Af)×(List Int)×(List Ak)×(List Av)×(List A6)×(List Bool)×(List A6)×(List Ab)×(List Int)
abbrev K_:=Int×Int×(List Ai)×(List Bh)×(List A7)×Int×Int×(List Bool)×(List Af)×(List Int)×(List Ak)×(List Av)×(List A6)×(List A6)×(List Ab)
abbrev yS:=Int×Int×(List Ai)×(List Bh)×(List A7)×Int×Int×(List Av)×(List Bool)×(List Af)×(List Int)×(List Ak)×(List Av)×(List A6)×(List A6)×(List Ab)
def F82 (x0:Int) (x1:Int) (x2:Int):Bool:=
 ((decide (x0>=x1))&&(decide (x0<=x2)))
def Lk (x1:Int) (x2:Int) (a0:Ai):Bool:=((a0.Kind==x1)&&((a0.B==x2) || ((x1==1)&&(a0.A==x2))))
def Aiv (x1:Int) (x2:Int) (n0:Nat) (a0:Ai) (z0:(List Int)):Option (Ctl ((List Int)) Unit):=
 bif (Lk x1 x2 a0) then (appI 9 z0 [cnt 0 n0]).bind λ y2=>some (.next y2) else some (.next z0)
def F83 (x0:Aa) (x1:Int) (x2:Int):Option ((List Int)):=
 andThen (foldI (Aiv x1 x2) x0.Ad 0 ([]:List Int)) (λ _=>none) λ z0=>some z0
def A0d (x0:Aa) (a0:Ai):Bool:=!(F82 a0.B (w64 (a0.A+1)) (w64 (x0.An-1)))
def A0c (x0:Aa) (a0:Ai):Bool:=!(F82 a0.B 0 (w64 ((x0.Ac.length:Int)-1)))
def A0b (x0:Aa) (a0:Ai):Bool:=!(F82 a0.B 0 (w64 ((x0.Ae.length:Int)-1)))
def Ao2 (a0:Ai) (a1:Ai):Bool:=((a1.Kind==a0.Kind)&&((a1.A==a0.A)&&((a1.B==a0.B)&&true)))
def qQ (a0:Ai) (n1:Nat) (a1:Ai) (z1:Unit):Option (Ctl Unit Bool):=
 bif (Ao2 a0 a1) then some (.ret false) else some (.next ())
def Ajf (x0:Aa) (n0:Nat) (a0:Ai) (z0:Unit):Option (Ctl Unit Bool):=
 bif !(F82 a0.A 0 (w64 (x0.An-1))) then some (.ret false) else bif (a0.Kind==1) then bif (A0d x0 a0) then some (.ret false) else some (.next ()) else bif (a0.Kind==2) then bif (A0c x0 a0) then some (.ret false) else some (.next ()) else bif (a0.Kind==3) then bif (A0b x0 a0) then some (.ret false) else (cutI x0.Ad 0 (cnt 0 n0)).bind λ y9=>andThen (foldI (qQ a0) y9 0 ()) (λ v=>some (.ret v)) λ z1=>some (.next ()) else some (.ret false)
def Aui (x0:Aa) (z2:Int):Bool:=decide (z2<(x0.Ac.length:Int))
def Aje (x0:Aa) (z2:Int):Option (Ctl Int Bool):=
 bif (Aui x0 z2) then (F83 x0 2 z2).bind λ y12=>bif ((y12.length:Int) != 1) then some (.ret false) else some (.next (w64 (z2+1))) else some (.brk z2)
def Auh (x0:Aa) (z3:Int):Bool:=decide (z3<(x0.Ae.length:Int))
def Ajd (x0:Aa) (z3:Int):Option (Ctl Int Bool):=
 bif (Auh x0 z3) then (F83 x0 3 z3).bind λ y16=>bif decide ((y16.length:Int)<1) then some (.ret false) else some (.next (w64 (z3+1))) else some (.brk z3)
def F59 (x0:Aa):Option Bool:=
 andThen (foldI (Ajf x0) x0.Ad 0 ()) some λ z0=>andThen (whileN (Aje x0) 1152921504606846976 0) some λ z2=>andThen (whileN (Ajd x0) 1152921504606846976 0) some λ z3=>some true
def A0a (a0:Bh):Bool:=(((!(F82 a0.Rating 1 50000)) || (!(F82 a0.Least 0 a0.Rating))) || (!(F82 a0.Start 0 600)))
def Ajc (n0:Nat) (a0:Bh) (z0:Unit):Option (Ctl Unit Bool):=
 bif (A0a a0) then some (.ret false) else some (.next ())
def F60 (x0:Aa):Option Bool:=
 andThen (foldI Ajc x0.Ac 0 ()) some λ z0=>some true
def Az9 (a0:A7):Bool:=(((((!(F82 a0.Load 0 50000)) || (!(F82 a0.Least 0 a0.Load))) || (!(F82 a0.Bm 0 15))) || (!(F82 a0.Thruster (-1) 7))) || (decide ((a0.Needs.length:Int)>4)))
def Az8 (n0:Nat) (n1:Nat) (a1:Int) (y2:Int):Bool:=((!(F82 a1 0 (w64 ((cnt 0 n0)-1)))) || ((decide ((cnt 0 n1)>0))&&(decide (y2>=a1))))
def Aja (n0:Nat) (a0:A7) (n1:Nat) (a1:Int) (z1:Unit):Option (Ctl Unit Bool):=
 (A3 [(!(F82 a1 0 (w64 ((cnt 0 n0)-1))),false),(decide ((cnt 0 n1)>0),true)] (getI a0.Needs (w64 ((cnt 0 n1)-1))) default).bind λ y2=>bif (Az8 n0 n1 a1 y2) then some (.ret false) else some (.next ())
def Ajb (n0:Nat) (a0:A7) (z0:Unit):Option (Ctl Unit Bool):=
 bif (Az9 a0) then some (.ret false) else andThen (foldI (Aja n0 a0) a0.Needs 0 ()) (λ v=>some (.ret v)) λ z1=>some (.next ())
def F61 (x0:Aa):Option Bool:=
 andThen (foldI Ajb x0.Ae 0 ()) some λ z0=>some true
def Ao4 (x0:Aa):Bool:=(((((decide (x0.An<1)) || (decide (x0.An>6))) || (decide ((x0.Ad.length:Int)>24))) || (decide ((x0.Ac.length:Int)>8))) || (decide ((x0.Ae.length:Int)>16)))
def Ao3 (x0:Aa) (y2:Bool) (y4:Bool) (y6:Bool):Bool:=(((((((!y2) || (!y4)) || (!y6)) || (decide (x0.Phase<0))) || (decide (x0.Phase>1800))) || (decide (x0.Aq<0))) || (decide (x0.Aq>6000)))
def F43 (x0:Aa):Option Int:=
 bif (Ao4 x0) then some 2 else (F59 x0).bind λ y2=>(A3 [(!y2,false)] (F60 x0) default).bind λ y4=>(A3 [(((!y2) || (!y4)),false)] (F61 x0) default).bind λ y6=>bif (Ao3 x0 y2 y4 y6) then some 14 else some 0
def F44 (x0:A5):Bool:=
 ((((((decide (x0.Stop>=1))&&(decide (x0.Stop<=99)))&&(decide (x0.Start>x0.Stop)))&&(decide (x0.Start<=100)))&&(decide (x0.Delay>=0)))&&(decide (x0.Delay<=600)))
def A7l (x0:Aa) (z0:Int×(List Af)):Bool:=decide (z0.1<(x0.Ac.length:Int))
def Awr (x0:Aa) (z0:Int×(List Af)):Option (Ctl (Int×(List Af)) Unit):=
 bif (A7l x0 z0) then (appI 33 z0.2 [(⟨0,0,5000,0⟩:Af)]).bind λ y8=>some (.next (w64 (z0.1+1),y8)) else some (.brk (z0.1,z0.2))
def Awq (n1:Nat) (a1:A7) (z1:(List Int)):Option (Ctl ((List Int)) Unit):=
 (appI 9 z1 [a1.Load]).bind λ y10=>some (.next y10)
def Awp (x0:Aa) (z2:Int×(List Av)):Option (Ctl (Int×(List Av)) Unit):=
 bif decide (z2.1<x0.An) then (appI 17 z2.2 [(⟨(-1),(-1)⟩:Av)]).bind λ y13=>some (.next (w64 (z2.1+1),y13)) else some (.brk (z2.1,z2.2))
def F24 (x0:Aa) (x1:A5):Option (Ar×Int):=
 (F43 x0).bind λ y1=>bif (y1 != 0) then none else bif !(F44 x1) then none else (mkI 2 (x0.Ad.length:Int) false).bind λ y5=>andThen (whileN (Awr x0) 1152921504606846976 (0,([]:List Af))) (λ _=>none) λ z0=>andThen (foldI Awq x0.Ae 0 ([]:List Int)) (λ _=>none) λ z1=>andThen (whileN (Awp x0) 1152921504606846976 (0,([]:List Av))) (λ _=>none) λ z2=>some ((⟨0,(⟨y5,z0.2,z1,([]:List Ak)⟩:Ab),z2.2,([]:List A6)⟩:Ar),0)
def F91 (x0:Int) (x1:Int) (x2:Int):Bool:=
 ((decide (x0>=x1))&&(decide (x0<=x2)))
def Anc (x1:Int) (n0:Nat) (a0:Int) (z0:Unit):Option (Ctl Unit Int):=
 bif (x1==a0) then some (.ret (cnt 0 n0)) else some (.next ())
def Aqp (x0:List Int) (x1:Int):Option Int:=
 andThen (foldI (Anc x1) x0 0 ()) some λ z0=>some (-1)
def M9 (x0:List Int) (x1:Int):Option Bool:=
 (Aqp x0 x1).bind λ y1=>some (decide (y1>=0))
def Ay8 (x0:List Int):Bool:=
 ((x0.length:Int)==0)
def Acf (n0:Nat) (a0:List Int) (z0:Unit):Option (Ctl Unit Int):=
 bif Ay8 a0 then some (.ret (cnt 0 n0)) else some (.next ())
def qW (x0:List (List Int)):Option Int:=
 andThen (foldI Acf x0 0 ()) some λ z0=>some (-1)
def Uy (x0:List (List Int)):Option Bool:=
 (qW x0).bind λ y1=>some (decide (y1>=0))
def Ahg (x0:Aa) (a0:Ai):Bool:=((a0.Kind==1)&&(F91 a0.B (w64 (a0.A+1)) (w64 (x0.An-1))))
def Ahf (z0:(List Int)×(List (List Int))) (a0:Ai) (y7:Int):Bool:=(((a0.Kind==2)&&(F91 a0.B 0 (w64 ((z0.1.length:Int)-1))))&&(y7==0))
def Aus (z0:(List Int)×(List (List Int))) (a0:Ai) (y16:Bool):Bool:=(((a0.Kind==3)&&(F91 a0.B 0 (w64 ((z0.2.length:Int)-1))))&&(!y16))
def zT (x0:Aa) (n0:Nat) (a0:Ai) (z0:(List Int)×(List (List Int))):Option (Ctl ((List Int)×(List (List Int))) Bool):=
 bif !(F91 a0.A 0 (w64 (x0.An-1))) then some (.ret false) else bif (Ahg x0 a0) then some (.next (z0.1,z0.2)) else (A3 [(((a0.Kind==2)&&(F91 a0.B 0 (w64 ((z0.1.length:Int)-1)))),true)] (getI z0.1 a0.B) default).bind λ y7=>bif (Ahf z0 a0 y7) then (getI z0.1 a0.B).bind λ y10=>(setI z0.1 a0.B (w64 (y10+1))).bind λ y12=>some (.next (y12,z0.2)) else (A3 [(((a0.Kind==3)&&(F91 a0.B 0 (w64 ((z0.2.length:Int)-1)))),true)] (getI z0.2 a0.B) default).bind λ y14=>(A3 [(((a0.Kind==3)&&(F91 a0.B 0 (w64 ((z0.2.length:Int)-1)))),true)] (M9 y14 a0.A) default).bind λ y16=>bif (Aus z0 a0 y16) then (getI z0.2 a0.B).bind λ y19=>(appI 9 y19 [a0.A]).bind λ y21=>(setI z0.2 a0.B y21).bind λ y23=>some (.next (z0.1,y23)) else some (.ret false)
def Aj4 (x0:Aa):Option Bool:=
 (mkI 9 (x0.Ac.length:Int) 0).bind λ y1=>(mkI 25 (x0.Ae.length:Int) ([]:List Int)).bind λ y3=>andThen (foldI (zT x0) x0.Ad 0 (y1,y3)) some λ z0=>(M9 z0.1 0).bind λ y27=>(A3 [(!y27,true)] (Uy z0.2) default).bind λ y29=>some ((!y27)&&(!y29))
def zS (x0:Bh):Bool:=
 (((F91 x0.Rating 1 50000)&&(F91 x0.Least 0 x0.Rating))&&(F91 x0.Start 0 600))
def Aur (x1:Int) (n0:Nat) (a0:Int) (y1:Int):Bool:=((!(F91 a0 0 (w64 (x1-1)))) || ((decide ((cnt 0 n0)>0))&&(decide (y1>=a0))))
def Wp (x0:A7) (x1:Int) (n0:Nat) (a0:Int) (z0:Unit):Option (Ctl Unit Bool):=
 (A3 [(!(F91 a0 0 (w64 (x1-1))),false),(decide ((cnt 0 n0)>0),true)] (getI x0.Needs (w64 ((cnt 0 n0)-1))) default).bind λ y1=>bif (Aur x1 n0 a0 y1) then some (.ret false) else some (.next ())
def zR (x0:A7) (x1:Int):Option Bool:=
 andThen (foldI (Wp x0 x1) x0.Needs 0 ()) some λ z0=>some (((((F91 x0.Load 0 50000)&&(F91 x0.Least 0 x0.Load))&&(F91 x0.Bm 0 15))&&(F91 x0.Thruster (-1) 7))&&(decide ((x0.Needs.length:Int)<=4)))
def Azz (x0:Aa):Bool:=((((!(F91 x0.An 1 6)) || (decide ((x0.Ad.length:Int)>24))) || (decide ((x0.Ac.length:Int)>8))) || (decide ((x0.Ae.length:Int)>16)))
def Awl (n0:Nat) (a0:Bh) (z0:Bool):Option (Ctl Bool Unit):=
 some (.next (z0&&(zS a0)))
def Ait (n1:Nat) (a1:A7) (z1:Bool):Option (Ctl Bool Unit):=
 (A3 [(z1,true)] (zR a1 (cnt 0 n1)) default).bind λ y4=>some (.next (z1&&y4))
def F86 (x0:Aa):Option Int:=
 bif (Azz x0) then some 2 else (Aj4 x0).bind λ y2=>andThen (foldI Awl x0.Ac 0 ((y2&&(F91 x0.Phase 0 1800))&&(F91 x0.Aq 0 6000))) (λ _=>none) λ z0=>andThen (foldI Ait x0.Ae 0 z0) (λ _=>none) λ z1=>bif !z1 then some 14 else some 0
def La (x0:Aa) (x1:Int):Int:=
 bif (x1==1) then (x0.Ac.length:Int) else bif (x1==2) then (x0.Ad.length:Int) else bif (x1==3) then x0.An else bif (x1==4) then (x0.Ae.length:Int) else 0
def Y1 (x0:Int):Bool:=
 (x0 != x0)
def J7 (x0:Int) (x1:Int):Int:=
 bif Y1 x0 then bif Y1 x1 then 0 else (-1) else bif Y1 x1 then 1 else bif decide (x0<x1) then (-1) else bif decide (x0>x1) then 1 else 0
def Wo (n0:Nat) (a0:Int) (z0:Unit):Option (Ctl Unit Int):=
 bif (a0 != 0) then some (.ret a0) else some (.next ())
def zQ (x0:List Int):Option Int:=
 andThen (foldI Wo x0 0 ()) some λ z0=>some 0
def Azy (x0:Aa) (n0:Nat) (a0:Ak) (y5:Int):Bool:=((!(F91 a0.Number 0 (w64 ((La x0 a0.Kind)-1)))) || ((decide ((cnt 0 n0)>0))&&(decide (y5>=0))))
def qI (x0:Aa) (x1:List Ak) (n0:Nat) (a0:Ak) (z0:Unit):Option (Ctl Unit Bool):=
 (A3 [(!(F91 a0.Number 0 (w64 ((La x0 a0.Kind)-1))),false),(decide ((cnt 0 n0)>0),true)] (getI x1 (w64 ((cnt 0 n0)-1))) default).bind λ y1=>(A3 [(!(F91 a0.Number 0 (w64 ((La x0 a0.Kind)-1))),false),(decide ((cnt 0 n0)>0),true)] (getI x1 (w64 ((cnt 0 n0)-1))) default).bind λ y3=>(A3 [(!(F91 a0.Number 0 (w64 ((La x0 a0.Kind)-1))),false),(decide ((cnt 0 n0)>0),true)] (zQ [J7 y1.Kind a0.Kind,J7 y3.Number a0.Number]) default).bind λ y5=>bif (Azy x0 n0 a0 y5) then some (.ret false) else some (.next ())
def F87 (x0:Aa) (x1:List Ak):Option Bool:=
 andThen (foldI (qI x0 x1) x1 0 ()) some λ z0=>some (decide ((x1.length:Int)<=32))
def F90 (x0:Af):Bool:=
 ((((F91 x0.State 0 3)&&(F91 x0.Since 0 2147483648))&&(F91 x0.Aq 0 6000))&&(F91 x0.Phase 0 3599))
def F89 (x0:Af):Bool:=
 !(F90 x0)
def Acj (n0:Nat) (a0:Af) (z0:Unit):Option (Ctl Unit Int):=
 bif F89 a0 then some (.ret (cnt 0 n0)) else some (.next ())
def uD (x0:List Af):Option Int:=
 andThen (foldI Acj x0 0 ()) some λ z0=>some (-1)
def Wf (x0:List Af):Option Bool:=
 (uD x0).bind λ y1=>some (decide (y1>=0))
def Azx (x2:Int) (a0:Ai) (y1:Bool):Bool:=(((a0.Kind==3)&&(a0.B==x2))&&y1)
def Ais (x1:Ab) (x2:Int) (n0:Nat) (a0:Ai) (z0:Int):Option (Ctl Int Unit):=
 (A3 [(((a0.Kind==3)&&(a0.B==x2)),true)] (getI x1.Ag (cnt 0 n0)) default).bind λ y1=>bif (Azx x2 a0 y1) then some (.next (w64 (z0+1))) else some (.next z0)
def F92 (x0:Aa) (x1:Ab) (x2:Int):Option Int:=
 andThen (foldI (Ais x1 x2) x0.Ad 0 0) (λ _=>none) λ z0=>some z0
def Ao1 (x0:Aa) (x1:Ab):Bool:=((((x1.Ag.length:Int) != (x0.Ad.length:Int)) || ((x1.Ac.length:Int) != (x0.Ac.length:Int))) || ((x1.Ap.length:Int) != (x0.Ae.length:Int)))
def Ai2 (x0:Aa) (x1:Ab) (n0:Nat) (a0:Int) (z0:Bool):Option (Ctl Bool Unit):=
 (A3 [(z0,true)] (getI x0.Ae (cnt 0 n0)) default).bind λ y9=>(A3 [((z0&&(F91 a0 0 y9.Load)),true)] (F92 x0 x1 (cnt 0 n0)) default).bind λ y11=>some (.next ((z0&&(F91 a0 0 y9.Load))&&(decide (y11<=1))))
def F65 (x0:Aa) (x1:Ab):Option Int:=
 (F86 x0).bind λ y1=>bif (y1 != 0) then some y1 else bif (Ao1 x0 x1) then some 8 else (F87 x0 x1.Am).bind λ y5=>(A3 [(y5,true)] (Wf x1.Ac) default).bind λ y7=>andThen (foldI (Ai2 x0 x1) x1.Ap 0 (y5&&(!y7))) (λ _=>none) λ z0=>bif !z0 then some 11 else some 0
def F93 (x0:List Bool):Option (List Bool):=appI 2 [] x0
def F94 (x0:List Af):Option (List Af):=appI 33 [] x0
def F95 (x0:List Int):Option (List Int):=appI 9 [] x0
def F96 (x0:List Ak):Option (List Ak):=appI 17 [] x0
def F66 (x0:Ab):Option Ab:=
 (F93 x0.Ag).bind λ y1=>(F94 x0.Ac).bind λ y3=>(F95 x0.Ap).bind λ y5=>(F96 x0.Am).bind λ y7=>some (⟨y1,y3,y5,y7⟩:Ab)
def Air (n0:Nat) (a0:Int) (z0:(List Int)):Option (Ctl ((List Int)) Unit):=
 (getI z0 (cnt 0 n0)).bind λ y3=>(setI z0 (cnt 0 n0) (cnt 0 n0)).bind λ y5=>some (.next y5)
def qH (x1:Ab) (n2:Nat) (a2:Ai) (z2:(List Int)):Option (Ctl ((List Int)) Unit):=
 (A3 [((a2.Kind==1),true)] (getI x1.Ag (cnt 0 n2)) default).bind λ y7=>bif ((a2.Kind==1)&&y7) then (getI z2 a2.A).bind λ y10=>(getI z2 a2.B).bind λ y12=>(setI z2 a2.A (min y10 y12)).bind λ y14=>(getI y14 a2.B).bind λ y16=>(setI y14 a2.B (min y10 y12)).bind λ y18=>some (.next y18) else some (.next z2)
def Aiq (x0:Aa) (x1:Ab) (n1:Nat) (a1:Int) (z1:(List Int)):Option (Ctl ((List Int)) Unit):=
 andThen (foldI (qH x1) x0.Ad 0 z1) (λ _=>none) λ z2=>some (.next z2)
def F97 (x0:Aa) (x1:Ab):Option ((List Int)):=
 (mkI 9 x0.An 0).bind λ y1=>andThen (foldI Air y1 0 y1) (λ _=>none) λ z0=>andThen (foldI (Aiq x0 x1) z0 0 z0) (λ _=>none) λ z1=>some z1
def Auq (x2:Int) (x3:Int) (a0:Ai) (y1:Bool):Bool:=(((a0.Kind==x2)&&(a0.B==x3))&&y1)
def Wn (x1:Ab) (x2:Int) (x3:Int) (n0:Nat) (a0:Ai) (z0:Unit):Option (Ctl Unit (Int×Bool)):=
 (A3 [(((a0.Kind==x2)&&(a0.B==x3)),true)] (getI x1.Ag (cnt 0 n0)) default).bind λ y1=>bif (Auq x2 x3 a0 y1) then some (.ret (a0.A,true)) else some (.next ())
def zP (x0:Aa) (x1:Ab) (x2:Int) (x3:Int):Option (Int×Bool):=
 andThen (foldI (Wn x1 x2 x3) x0.Ad 0 ()) some λ z0=>some (0,false)
def Ac3 (x1:Ab) (x2:Int) (y1:Af):Bool:=((!(F91 x2 0 (w64 ((x1.Ac.length:Int)-1)))) || (y1.State != 2))
def F98 (x0:Aa) (x1:Ab) (x2:Int):Option (Int×Bool):=
 (A3 [(!(F91 x2 0 (w64 ((x1.Ac.length:Int)-1))),false)] (getI x1.Ac x2) default).bind λ y1=>bif (Ac3 x1 x2 y1) then some (0,false) else (zP x0 x1 2 x2).bind λ y4=>some (y4.1,y4.2)
def F99 (x0:Aa) (x1:Ab) (x2:Int):Option (Int×Bool):=
 (zP x0 x1 3 x2).bind λ y1=>some (y1.1,y1.2)
def Aqr (x0:Ah):Bool:=
 ((x0.An.length:Int)==0)
def Aci (n0:Nat) (a0:Ah) (z0:Unit):Option (Ctl Unit Int):=
 bif Aqr a0 then some (.ret (cnt 0 n0)) else some (.next ())
def U6 (x0:List Ah):Option Int:=
 andThen (foldI Aci x0 0 ()) some λ z0=>some (-1)
def Ahl (z0:Int×Int×(List Ah)):Bool:=decide (z0.2.1<(z0.2.2.length:Int))
def U9 (z0:Int×Int×(List Ah)):Option (Ctl (Int×Int×(List Ah)) Unit):=
 bif (Ahl z0) then (getI z0.2.2 z0.2.1).bind λ y5=>bif !(Aqr y5) then (getI z0.2.2 z0.1).bind λ y8=>(setI z0.2.2 z0.1 y5).bind λ y10=>some (.next (w64 (z0.1+1),w64 (z0.2.1+1),y10)) else some (.next (z0.1,w64 (z0.2.1+1),z0.2.2)) else some (.brk (z0.1,z0.2.1,z0.2.2))
def Pq (x0:List Ah):Option ((List Ah)):=
 (U6 x0).bind λ y1=>bif (y1==(-1)) then some x0 else andThen (whileN U9 1152921504606846976 (y1,w64 (y1+1),x0)) (λ _=>none) λ z0=>(bndI z0.2.2.length z0.1 (z0.2.2.length:Int)).bind λ u13=>(bndI (Gd z0.2.2 (Int.toNat z0.1) ((Int.toNat (z0.2.2.length:Int))-(Int.toNat z0.1)) (⟨([]:List Int),([]:List Int),([]:List Int)⟩:Ah)).length 0 z0.1).bind λ u15=>some ((Gd z0.2.2 (Int.toNat z0.1) ((Int.toNat (z0.2.2.length:Int))-(Int.toNat z0.1)) (⟨([]:List Int),([]:List Int),([]:List Int)⟩:Ah)).take ((Int.toNat z0.1)-0))
def Ai1 (n0:Nat) (a0:Int) (z0:(List Ah)):Option (Ctl ((List Ah)) Unit):=
 (getI z0 a0).bind λ y8=>(appI 9 y8.An [cnt 0 n0]).bind λ y10=>(setI z0 a0 (⟨y10,y8.Ac,y8.Ae⟩:Ah)).bind λ y12=>some (.next y12)
def Az3 (x0:Aa) (z1:Int×(List Ah)):Bool:=decide (z1.1<(x0.Ac.length:Int))
def Ai0 (x0:Aa) (x1:Ab) (y4:(List Int)) (z1:Int×(List Ah)):Option (Ctl (Int×(List Ah)) Unit):=
 bif (Az3 x0 z1) then (F98 x0 x1 z1.1).bind λ y15=>bif y15.2 then (getI y4 y15.1).bind λ y18=>(getI z1.2 y18).bind λ y20=>(appI 9 y20.Ac [z1.1]).bind λ y22=>(setI z1.2 y18 (⟨y20.An,y22,y20.Ae⟩:Ah)).bind λ y24=>some (.next (w64 (z1.1+1),y24)) else some (.next (w64 (z1.1+1),z1.2)) else some (.brk (z1.1,z1.2))
def Az2 (x0:Aa) (z2:Int×(List Ah)):Bool:=decide (z2.1<(x0.Ae.length:Int))
def Aiz (x0:Aa) (x1:Ab) (y4:(List Int)) (z2:Int×(List Ah)):Option (Ctl (Int×(List Ah)) Unit):=
 bif (Az2 x0 z2) then (F99 x0 x1 z2.1).bind λ y27=>bif y27.2 then (getI y4 y27.1).bind λ y30=>(getI z2.2 y30).bind λ y32=>(appI 9 y32.Ae [z2.1]).bind λ y34=>(setI z2.2 y30 (⟨y32.An,y32.Ac,y34⟩:Ah)).bind λ y36=>some (.next (w64 (z2.1+1),y36)) else some (.next (w64 (z2.1+1),z2.2)) else some (.brk (z2.1,z2.2))
def F67 (x0:Aa) (x1:Ab):Option ((List Ah)):=
 (F65 x0 x1).bind λ y1=>bif (y1 != 0) then some ([]:List Ah) else (F97 x0 x1).bind λ y4=>(mkI 73 x0.An (⟨([]:List Int),([]:List Int),([]:List Int)⟩:Ah)).bind λ y6=>andThen (foldI Ai1 y4 0 y6) (λ _=>none) λ z0=>andThen (whileN (Ai0 x0 x1 y4) 1152921504606846976 (0,z0)) (λ _=>none) λ z1=>andThen (whileN (Aiz x0 x1 y4) 1152921504606846976 (0,z1.2)) (λ _=>none) λ z2=>(Pq z2.2).bind λ y38=>some y38
def Yy (x2:Af) (n0:Nat) (a0:Int) (z0:(List Af)):Option (Ctl ((List Af)) Unit):=
 (getI z0 a0).bind λ y1=>(setI z0 a0 (⟨y1.State,y1.Since,x2.Aq,y1.Phase⟩:Af)).bind λ y3=>(getI y3 a0).bind λ y5=>(setI y3 a0 (⟨y5.State,y5.Since,y5.Aq,x2.Phase⟩:Af)).bind λ y7=>some (.next y7)
def Q_ (x0:Ab) (x1:List Int) (x2:Af):Option ((List Af)):=
 andThen (foldI (Yy x2) x1 0 x0.Ac) (λ _=>none) λ z0=>some z0
def A0e (a0:Ah):Bool:=decide ((a0.Ac.length:Int)>0)
def Aji (x1:Ab) (y4:Ab) (n0:Nat) (a0:Ah) (z0:(List Af)):Option (Ctl ((List Af)) Unit):=
 bif (A0e a0) then (getI a0.Ac 0).bind λ y9=>(getI x1.Ac y9).bind λ y11=>(Q_ (⟨y4.Ag,z0,y4.Ap,y4.Am⟩:Ab) a0.Ac y11).bind λ y13=>some (.next y13) else some (.next z0)
def F47 (x0:Aa) (x1:Ab):Option (Ab×Int):=
 (F65 x0 x1).bind λ y1=>bif (y1 != 0) then some ((⟨([]:List Bool),([]:List Af),([]:List Int),([]:List Ak)⟩:Ab),y1) else (F66 x1).bind λ y4=>(F67 x0 x1).bind λ y6=>andThen (foldI (Aji x1 y4) y6 0 y4.Ac) (λ _=>none) λ z0=>some ((⟨y4.Ag,z0,y4.Ap,y4.Am⟩:Ab),0)
def F49 (x0:A5):Bool:=
 ((((((decide (x0.Stop>=1))&&(decide (x0.Stop<=99)))&&(decide (x0.Start>x0.Stop)))&&(decide (x0.Start<=100)))&&(decide (x0.Delay>=0)))&&(decide (x0.Delay<=600)))
def qP (x1:List Bool) (n0:Nat) (a0:Bool) (z0:Unit):Option (Ctl Unit Bool):=
 (getI x1 (cnt 0 n0)).bind λ y2=>bif !(a0==y2) then some (.ret false) else some (.next ())
def F69 (x0:List Bool) (x1:List Bool):Option Bool:=
 bif ((x0.length:Int) != (x1.length:Int)) then some false else andThen (foldI (qP x1) x0 0 ()) some λ z0=>some true
def Az1 (a0:Af) (y2:Af):Bool:=!((a0.State==y2.State)&&((a0.Since==y2.Since)&&((a0.Aq==y2.Aq)&&((a0.Phase==y2.Phase)&&true))))
def qO (x1:List Af) (n0:Nat) (a0:Af) (z0:Unit):Option (Ctl Unit Bool):=
 (getI x1 (cnt 0 n0)).bind λ y2=>bif (Az1 a0 y2) then some (.ret false) else some (.next ())
def F70 (x0:List Af) (x1:List Af):Option Bool:=
 bif ((x0.length:Int) != (x1.length:Int)) then some false else andThen (foldI (qO x1) x0 0 ()) some λ z0=>some true
def qN (x1:List Int) (n0:Nat) (a0:Int) (z0:Unit):Option (Ctl Unit Bool):=
 (getI x1 (cnt 0 n0)).bind λ y2=>bif (a0 != y2) then some (.ret false) else some (.next ())
def F71 (x0:List Int) (x1:List Int):Option Bool:=
 bif ((x0.length:Int) != (x1.length:Int)) then some false else andThen (foldI (qN x1) x0 0 ()) some λ z0=>some true
def Az0 (a0:Ak) (y2:Ak):Bool:=!((a0.Kind==y2.Kind)&&((a0.Number==y2.Number)&&true))
def qM (x1:List Ak) (n0:Nat) (a0:Ak) (z0:Unit):Option (Ctl Unit Bool):=
 (getI x1 (cnt 0 n0)).bind λ y2=>bif (Az0 a0 y2) then some (.ret false) else some (.next ())
def F72 (x0:List Ak) (x1:List Ak):Option Bool:=
 bif ((x0.length:Int) != (x1.length:Int)) then some false else andThen (foldI (qM x1) x0 0 ()) some λ z0=>some true
def F50 (x0:Ab) (x1:Ab):Option Bool:=
 (F69 x0.Ag x1.Ag).bind λ y1=>(A3 [(y1,true)] (F70 x0.Ac x1.Ac) default).bind λ y3=>(A3 [((y1&&y3),true)] (F71 x0.Ap x1.Ap) default).bind λ y5=>(A3 [(((y1&&y3)&&y5),true)] (F72 x0.Am x1.Am) default).bind λ y7=>some (((y1&&y3)&&y5)&&y7)
def Ra (x0:Int) (x1:Ar):Bool:=
 ((decide (x0>=(-1)))&&(decide (x0<=x1.Time)))
def Gf (x0:Av) (x1c0:Ar):Bool×Ar:=
 (((!(Ra x0.High x1c0)) || (!(Ra x0.Low x1c0))),x1c0)
def Ame (z0:Sg0) (a0:Av):Bool:=(Gf a0 (⟨z0.1,(⟨z0.2.1,z0.2.2.1,z0.2.2.2.1,z0.2.2.2.2.1⟩:Ab),z0.2.2.2.2.2.1,z0.2.2.2.2.2.2⟩:Ar)).1
def Yx (n0:Nat) (a0:Av) (z0:Sg0):Option (Ctl (Sg0) (Int×Ar)):=
 bif (Ame z0 a0) then some (.ret (cnt 0 n0,(⟨((Gf a0 (⟨z0.1,(⟨z0.2.1,z0.2.2.1,z0.2.2.2.1,z0.2.2.2.2.1⟩:Ab),z0.2.2.2.2.2.1,z0.2.2.2.2.2.2⟩:Ar)).2).Time,(((Gf a0 (⟨z0.1,(⟨z0.2.1,z0.2.2.1,z0.2.2.2.1,z0.2.2.2.2.1⟩:Ab),z0.2.2.2.2.2.1,z0.2.2.2.2.2.2⟩:Ar)).2).Power),((Gf a0 (⟨z0.1,(⟨z0.2.1,z0.2.2.1,z0.2.2.2.1,z0.2.2.2.2.1⟩:Ab),z0.2.2.2.2.2.1,z0.2.2.2.2.2.2⟩:Ar)).2).A2,((Gf a0 (⟨z0.1,(⟨z0.2.1,z0.2.2.1,z0.2.2.2.1,z0.2.2.2.2.1⟩:Ab),z0.2.2.2.2.2.1,z0.2.2.2.2.2.2⟩:Ar)).2).A8⟩:Ar))) else some (.next (((Gf a0 (⟨z0.1,(⟨z0.2.1,z0.2.2.1,z0.2.2.2.1,z0.2.2.2.2.1⟩:Ab),z0.2.2.2.2.2.1,z0.2.2.2.2.2.2⟩:Ar)).2).Time,(((Gf a0 (⟨z0.1,(⟨z0.2.1,z0.2.2.1,z0.2.2.2.1,z0.2.2.2.2.1⟩:Ab),z0.2.2.2.2.2.1,z0.2.2.2.2.2.2⟩:Ar)).2).Power).Ag,(((Gf a0 (⟨z0.1,(⟨z0.2.1,z0.2.2.1,z0.2.2.2.1,z0.2.2.2.2.1⟩:Ab),z0.2.2.2.2.2.1,z0.2.2.2.2.2.2⟩:Ar)).2).Power).Ac,(((Gf a0 (⟨z0.1,(⟨z0.2.1,z0.2.2.1,z0.2.2.2.1,z0.2.2.2.2.1⟩:Ab),z0.2.2.2.2.2.1,z0.2.2.2.2.2.2⟩:Ar)).2).Power).Ap,(((Gf a0 (⟨z0.1,(⟨z0.2.1,z0.2.2.1,z0.2.2.2.1,z0.2.2.2.2.1⟩:Ab),z0.2.2.2.2.2.1,z0.2.2.2.2.2.2⟩:Ar)).2).Power).Am,((Gf a0 (⟨z0.1,(⟨z0.2.1,z0.2.2.1,z0.2.2.2.1,z0.2.2.2.2.1⟩:Ab),z0.2.2.2.2.2.1,z0.2.2.2.2.2.2⟩:Ar)).2).A2,((Gf a0 (⟨z0.1,(⟨z0.2.1,z0.2.2.1,z0.2.2.2.1,z0.2.2.2.2.1⟩:Ab),z0.2.2.2.2.2.1,z0.2.2.2.2.2.2⟩:Ar)).2).A8))
def Adh (x0:List Av) (x1c0c0:Ar):Option (Int×Ar):=
 andThen (foldI Yx x0 0 (x1c0c0.Time,x1c0c0.Power.Ag,x1c0c0.Power.Ac,x1c0c0.Power.Ap,x1c0c0.Power.Am,x1c0c0.A2,x1c0c0.A8)) some λ z0=>some ((-1),(⟨z0.1,(⟨z0.2.1,z0.2.2.1,z0.2.2.2.1,z0.2.2.2.2.1⟩:Ab),z0.2.2.2.2.2.1,z0.2.2.2.2.2.2⟩:Ar))
def qR (x0:List Av) (x1c0c0:Ar):Option (Bool×Ar):=
 (Adh x0 x1c0c0).bind λ y1=>some (decide (y1.1>=0),y1.2)
def A0m (x1:A5) (x2:Ar):Bool:=(((!(F49 x1)) || (decide (x2.Time<0))) || (decide (x2.Time>2147483648)))
def F29 (x0:Aa) (x1:A5) (x2:Ar):Option Int:=
 (F47 x0 x2.Power).bind λ y1=>bif (y1.2 != 0) then some y1.2 else bif (A0m x1 x2) then some 1 else bif ((x2.A2.length:Int) != x0.An) then some 8 else (F50 x2.Power y1.1).bind λ y6=>(A3 [(!y6,false)] (qR x2.A2 x2) (default,x2)).bind λ y8=>bif ((!y6) || y8.1) then some 11 else some 0
def F30 (x0:Ar):Option Ar:=
 (appI 17 ([]:List Av) x0.A2).bind λ y1=>(appI 41 ([]:List A6) x0.A8).bind λ y3=>(appI 2 ([]:List Bool) x0.Power.Ag).bind λ y5=>(appI 33 ([]:List Af) x0.Power.Ac).bind λ y7=>(appI 9 ([]:List Int) x0.Power.Ap).bind λ y9=>(appI 17 ([]:List Ak) x0.Power.Am).bind λ y11=>some (⟨x0.Time,(⟨y5,y7,y9,y11⟩:Ab),y1,y3⟩:Ar)
def Aqq (x0:List Av):Option (List Av):=appI 17 [] x0
def F79 (x0:List A6):Option (List A6):=appI 41 [] x0
def F74 (x0:Aa) (x1:Ar):Option A4:=
 (F66 x1.Power).bind λ y1=>(Aqq x1.A2).bind λ y3=>(F79 x1.A8).bind λ y5=>some (⟨(⟨x1.Time,y1,y3,y5⟩:Ar),x0,([]:List A6),([]:List Ab)⟩:A4)
def qL (x0:A4) (x1:Ab):Option A4:=
 (F66 x1).bind λ y3=>(appI 97 x0.states [y3]).bind λ y5=>some (⟨x0.A0,x0.Al,x0.events,y5⟩:A4)
def J6 (x0:Aa) (x1:Int) (x2:Int):Bool:=
 bif (x1==1) then ((decide (x2>=0))&&(decide (x2<(x0.Ac.length:Int)))) else bif (x1==2) then ((decide (x2>=0))&&(decide (x2<(x0.Ad.length:Int)))) else bif (x1==3) then ((decide (x2>=0))&&(decide (x2<x0.An))) else bif (x1==4) then ((decide (x2>=0))&&(decide (x2<(x0.Ae.length:Int)))) else ((decide (x2>=0))&&(decide (x2<0)))
def zX (x1:Ao):Option (Ctl Bool Unit):=
 bif (x1.Kind==1) then some (.next (x1.Kind==1)) else some (.next (x1.Kind==2))
def zW (x1:Ao):Option (Ctl Bool Unit):=
 bif (x1.Kind==3) then some (.next (x1.Kind==3)) else some (.next (x1.Kind==4))
def zY (x0:Aa) (x1:Ao):Option Bool:=
 andThen (zX x1) (λ _=>none) λ z0=>bif z0 then some (J6 x0 2 x1.Unit) else andThen (zW x1) (λ _=>none) λ z1=>bif z1 then some (J6 x0 1 x1.Unit) else bif (x1.Kind==5) then some (J6 x0 4 x1.Unit) else bif (x1.Kind==6) then some ((J6 x0 1 x1.Unit)&&(J6 x0 3 x1.Value)) else bif (x1.Kind==8) then some (J6 x0 x1.Value x1.Unit) else bif (x1.Kind==9) then some (J6 x0 x1.Value x1.Unit) else some true
def A5y (x1:Ak) (a0:Ak):Bool:=((x1.Kind==a0.Kind)&&((x1.Number==a0.Number)&&true))
def Anb (x1:Ak) (n0:Nat) (a0:Ak) (z0:Unit):Option (Ctl Unit Int):=
 bif (A5y x1 a0) then some (.ret (cnt 0 n0)) else some (.next ())
def Aqm (x0:List Ak) (x1:Ak):Option Int:=
 andThen (foldI (Anb x1) x0 0 ()) some λ z0=>some (-1)
def Aqn (x0:List Ak) (x1:Ak):Option Bool:=
 (Aqm x0 x1).bind λ y1=>some (decide (y1>=0))
def H_ (x0:Ab) (x1:Int) (x2:Int):Option Bool:=
 (Aqn x0.Am (⟨x1,x2⟩:Ak)).bind λ y1=>some y1
def Aql (x0:Aa) (x1:Ab) (x2:Int):Option (Int×Bool):=
 (F65 x0 x1).bind λ y1=>bif (y1 != 0) then some (0,false) else (F99 x0 x1 x2).bind λ y4=>some (y4.1,y4.2)
def Ajq (x0:Aa) (x1:Ab) (x2:Int):Option Bool:=
 (getI x0.Ad x2).bind λ y1=>(getI x1.Ag x2).bind λ y3=>(A3 [(y3,false)] (H_ x1 2 x2) default).bind λ y5=>(A3 [((y3 || y5),false)] (H_ x1 3 y1.A) default).bind λ y7=>bif ((y3 || y5) || y7) then some false else bif (y1.Kind==1) then (H_ x1 3 y1.B).bind λ y11=>some (!y11) else bif (y1.Kind==2) then (H_ x1 1 y1.B).bind λ y14=>(A3 [(!y14,true)] (getI x1.Ac y1.B) default).bind λ y16=>some ((!y14)&&(y16.State==2)) else (Aql x0 x1 y1.B).bind λ y18=>(H_ x1 4 y1.B).bind λ y20=>some ((!y20)&&(!y18.2))
def L5 (x2:Int) (n0:Nat) (a0:Ah) (z0:Unit):Option (Ctl Unit (Ah×Bool)):=
 (M9 a0.An x2).bind λ y3=>bif y3 then some (.ret (a0,true)) else some (.next ())
def Gg (x0:Aa) (x1:Ab) (x2:Int):Option (Ah×Bool):=
 (F67 x0 x1).bind λ y1=>andThen (foldI (L5 x2) y1 0 ()) some λ z0=>some ((⟨([]:List Int),([]:List Int),([]:List Int)⟩:Ah),false)
def Uh (x0:Aa) (x1:Ab) (x2:Int):Option (Int×Bool):=
 (Gg x0 x1 x2).bind λ y1=>bif ((y1.1.Ac.length:Int)==0) then some (0,false) else (getI y1.1.Ac 0).bind λ y4=>some (y4,true)
def Gz (x0:Int):Int:=
 bif decide ((Int.tmod x0 3600)<0) then w64 ((Int.tmod x0 3600)+3600) else Int.tmod x0 3600
def A5w (x0:Int) (x1:Int):Bool:=decide ((Gz (w64 ((Gz x1)-(Gz x0))))>1800)
def Aqk (x0:Int) (x1:Int):Int:=
 bif (A5w x0 x1) then w64 ((Gz (w64 ((Gz x1)-(Gz x0))))-3600) else Gz (w64 ((Gz x1)-(Gz x0)))
def A5x (x1:Af) (x2:Af):Bool:=((decide ((min x1.Aq x2.Aq)<0)) || (decide ((max x1.Aq x2.Aq)>6000)))
def Ajn (x0:Aa) (x1:Af) (x2:Af):Bool:=
 bif (A5x x1 x2) then false else ((decide ((max (w64 (x1.Aq-x2.Aq)) (w64 (x2.Aq-x1.Aq)))<=x0.Aq))&&(decide ((max (Aqk x1.Phase x2.Phase) (w64 (0-Aqk x1.Phase x2.Phase)))<=x0.Phase)))
def Ajp (x0:Aa) (x1:Ab) (x2:Ai):Option Bool:=
 (Uh x0 x1 x2.A).bind λ y1=>bif !y1.2 then some true else bif (x2.Kind==1) then (Uh x0 x1 x2.B).bind λ y5=>(A3 [(!y5.2,false)] (getI x1.Ac y1.1) default).bind λ y7=>(A3 [(!y5.2,false)] (getI x1.Ac y5.1) default).bind λ y9=>some ((!y5.2) || (Ajn x0 y7 y9)) else bif (x2.Kind==2) then (getI x1.Ac y1.1).bind λ y12=>(getI x1.Ac x2.B).bind λ y14=>some (Ajn x0 y12 y14) else some true
def Auk (x0:Aa) (x2:Int):Bool:=((decide (x2<0)) || (decide (x2>=(x0.Ad.length:Int))))
def Ajs (x0:Aa) (x1:Ab) (x2:Int):Option Int:=
 (F65 x0 x1).bind λ y1=>bif (y1 != 0) then some y1 else bif (Auk x0 x2) then some 10 else (Ajq x0 x1 x2).bind λ y5=>bif !y5 then some 11 else (getI x0.Ad x2).bind λ y8=>(Gg x0 x1 y8.A).bind λ y10=>(A3 [((y8.Kind==1),true)] (M9 y10.1.An y8.B) default).bind λ y12=>(A3 [(!((y8.Kind==1)&&y12),true)] (Ajp x0 x1 y8) default).bind λ y14=>bif ((!((y8.Kind==1)&&y12))&&(!y14)) then some 12 else some 0
def Aj0 (x0:Aa) (x1:Ab) (x2:Int):Option (Ab×Int):=
 (Ajs x0 x1 x2).bind λ y1=>bif (y1 != 0) then some ((⟨([]:List Bool),([]:List Af),([]:List Int),([]:List Ak)⟩:Ab),y1) else (F66 x1).bind λ y4=>(getI y4.Ag x2).bind λ y6=>(setI y4.Ag x2 true).bind λ y8=>(F47 x0 (⟨y8,y4.Ac,y4.Ap,y4.Am⟩:Ab)).bind λ y10=>some (y10.1,y10.2)
def Auo (x0:Aa) (x2:Int):Bool:=((decide (x2<0)) || (decide (x2>=(x0.Ad.length:Int))))
def Ajz (x0:Aa) (x1:Ab) (x2:Int):Option (Ab×Int):=
 (F65 x0 x1).bind λ y1=>bif (y1 != 0) then some ((⟨([]:List Bool),([]:List Af),([]:List Int),([]:List Ak)⟩:Ab),y1) else bif (Auo x0 x2) then some ((⟨([]:List Bool),([]:List Af),([]:List Int),([]:List Ak)⟩:Ab),10) else (getI x1.Ag x2).bind λ y5=>(A3 [(!y5,false)] (H_ x1 2 x2) default).bind λ y7=>bif ((!y5) || y7) then some ((⟨([]:List Bool),([]:List Af),([]:List Int),([]:List Ak)⟩:Ab),11) else (F66 x1).bind λ y10=>(getI y10.Ag x2).bind λ y12=>(setI y10.Ag x2 false).bind λ y14=>some ((⟨y14,y10.Ac,y10.Ap,y10.Am⟩:Ab),0)
def zG (x0:Aa) (x1:Ab) (x2:Int):Option (Int×Bool):=
 (F65 x0 x1).bind λ y1=>bif (y1 != 0) then some (0,false) else (F98 x0 x1 x2).bind λ y4=>some (y4.1,y4.2)
def Aun (x0:Aa) (x2:Int) (x3:Int):Bool:=((((decide (x2<0)) || (decide (x2>=(x0.Ac.length:Int)))) || (decide (x3<0))) || (decide (x3>=x0.An)))
def Ajy (x0:Aa) (x1:Ab) (x2:Int) (x3:Int):Option (Ab×Int):=
 (F65 x0 x1).bind λ y1=>bif (y1 != 0) then some ((⟨([]:List Bool),([]:List Af),([]:List Int),([]:List Ak)⟩:Ab),y1) else bif (Aun x0 x2 x3) then some ((⟨([]:List Bool),([]:List Af),([]:List Int),([]:List Ak)⟩:Ab),10) else (Uh x0 x1 x3).bind λ y5=>(A3 [(!y5.2,false)] (getI x1.Ac x2) default).bind λ y7=>bif ((!y5.2) || (y7.State != 2)) then some ((⟨([]:List Bool),([]:List Af),([]:List Int),([]:List Ak)⟩:Ab),11) else (F66 x1).bind λ y10=>(zG x0 x1 x2).bind λ y12=>bif y12.2 then (Gg x0 x1 y12.1).bind λ y15=>(getI x1.Ac y5.1).bind λ y17=>(Q_ y10 y15.1.Ac y17).bind λ y19=>some ((⟨y10.Ag,y19,y10.Ap,y10.Am⟩:Ab),0) else (getI x1.Ac y5.1).bind λ y21=>(Q_ y10 [x2] y21).bind λ y23=>some ((⟨y10.Ag,y23,y10.Ap,y10.Am⟩:Ab),0)
def qT (x0:Ai) (x1:Int):Bool:=
 ((x0.Kind==2)&&(x0.B==x1))
def N6 (x1c0:Int) (n0:Nat) (a0:Ai) (z0:Unit):Option (Ctl Unit (Int×Int)):=
 bif qT a0 x1c0 then some (.ret (cnt 0 n0,x1c0)) else some (.next ())
def qZ (x0:List Ai) (x1c0:Int):Option (Int×Int):=
 andThen (foldI (N6 x1c0) x0 0 ()) some λ z0=>some ((-1),x1c0)
def Ajo (x0:Aa) (x1:Int):Option Int:=
 (qZ x0.Ad x1).bind λ y1=>some y1.1
def Jm (x0:A1) (x1:Int):Option Bool:=
 (Ajo x0.Al x1).bind λ y1=>(getI x0.Au.Ag y1).bind λ y3=>some (!y3)
def U1 (x0:A1) (x1:Int):Option (Int×A1):=
 (getI x0.Au.Ac x1).bind λ y1=>(A3 [((y1.State != 0),false)] (H_ x0.Au 1 x1) default).bind λ y3=>bif ((y1.State != 0) || y3) then some (11,x0) else (getI x0.Al.Ac x1).bind λ y6=>(A3 [((y6.Start==0),true)] (Jm x0 x1) default).bind λ y8=>bif ((y6.Start==0)&&y8) then (setI x0.Au.Ac x1 (⟨2,x0.time,5000,0⟩:Af)).bind λ y11=>some (0,(⟨x0.Al,(⟨x0.Au.Ag,y11,x0.Au.Ap,x0.Au.Am⟩:Ab),x0.time⟩:A1)) else (setI x0.Au.Ac x1 (⟨1,x0.time,5000,0⟩:Af)).bind λ y13=>some (0,(⟨x0.Al,(⟨x0.Au.Ag,y13,x0.Au.Ap,x0.Au.Am⟩:Ab),x0.time⟩:A1))
def Ayo (y1:Af) (y3:Bool):Bool:=(((y1.State != 1)&&(y1.State != 2)) || (!y3))
def U0 (x0:A1) (x1:Int):Option (Int×A1):=
 (getI x0.Au.Ac x1).bind λ y1=>(A3 [(((y1.State != 1)&&(y1.State != 2)),false)] (Jm x0 x1) default).bind λ y3=>bif (Ayo y1 y3) then some (11,x0) else (setI x0.Au.Ac x1 (⟨0,y1.Since,y1.Aq,y1.Phase⟩:Af)).bind λ y6=>some (0,(⟨x0.Al,(⟨x0.Au.Ag,y6,x0.Au.Ap,x0.Au.Am⟩:Ab),x0.time⟩:A1))
def Ahe (x2:Int) (y1:A7):Bool:=((decide (x2<0)) || (decide (x2>y1.Load)))
def Uz (x0:A1) (x1:Int) (x2:Int):Option (Int×A1):=
 (A3 [(decide (x2<0),false)] (getI x0.Al.Ae x1) default).bind λ y1=>bif (Ahe x2 y1) then some (1,x0) else (getI x0.Au.Ap x1).bind λ y4=>(setI x0.Au.Ap x1 x2).bind λ y6=>some (0,(⟨x0.Al,(⟨x0.Au.Ag,x0.Au.Ac,y6,x0.Au.Am⟩:Ab),x0.time⟩:A1))
def Wi (n0:Nat) (a0:Af) (z0:(List Af)):Option (Ctl ((List Af)) Unit):=
 bif (a0.State==2) then (getI z0 (cnt 0 n0)).bind λ y7=>(setI z0 (cnt 0 n0) (⟨y7.State,y7.Since,y7.Aq,Gz (w64 (a0.Phase+(w64 (36*(w64 (a0.Aq-5000))))))⟩:Af)).bind λ y9=>some (.next y9) else some (.next z0)
def Yz (x0:Aa) (x1:Ab):Option (Ab×Int):=
 (F65 x0 x1).bind λ y1=>bif (y1 != 0) then some ((⟨([]:List Bool),([]:List Af),([]:List Int),([]:List Ak)⟩:Ab),y1) else (F66 x1).bind λ y4=>andThen (foldI Wi x1.Ac 0 y4.Ac) (λ _=>none) λ z0=>some ((⟨y4.Ag,z0,y4.Ap,y4.Am⟩:Ab),0)
def Ye (y1:Ab×Int) (z0:Int×(List Af)):Bool:=decide (z0.1<(y1.1.Ac.length:Int))
def M1 (x0:A1) (y4:Af) (y6:Bool) (y8:Bh):Bool:=(((y4.State==1)&&y6)&&(decide ((w64 (y4.Since+y8.Start))<=(w64 (x0.time+1)))))
def N9 (x0:A1) (y1:Ab×Int) (z0:Int×(List Af)):Option (Ctl (Int×(List Af)) Unit):=
 bif (Ye y1 z0) then (getI z0.2 z0.1).bind λ y4=>(A3 [((y4.State==1),true)] (Jm (⟨x0.Al,(⟨y1.1.Ag,z0.2,y1.1.Ap,y1.1.Am⟩:Ab),x0.time⟩:A1) z0.1) default).bind λ y6=>(A3 [(((y4.State==1)&&y6),true)] (getI x0.Al.Ac z0.1) default).bind λ y8=>bif (M1 x0 y4 y6 y8) then (setI z0.2 z0.1 (⟨2,y4.Since,y4.Aq,y4.Phase⟩:Af)).bind λ y11=>some (.next (w64 (z0.1+1),y11)) else some (.next (w64 (z0.1+1),z0.2)) else some (.brk (z0.1,z0.2))
def Kw (x0:A1):Option A1:=
 (Yz x0.Al x0.Au).bind λ y1=>andThen (whileN (N9 x0 y1) 1152921504606846976 (0,y1.1.Ac)) (λ _=>none) λ z0=>some (⟨x0.Al,(⟨y1.1.Ag,z0.2,y1.1.Ap,y1.1.Am⟩:Ab),x0.time⟩:A1)
def Rj (x0:Ak) (x1:Ak):Int:=
 bif (x0.Kind != x1.Kind) then w64 (x0.Kind-x1.Kind) else w64 (x0.Number-x1.Number)
def Uf (x0:List Ak) (x1:Ak) (z0:Int×Int):Option (Ctl (Int×Int) Unit):=
 bif decide (z0.1<z0.2) then (getI x0 (w64 (G6 .u64 (IntKind.wrap .u64 (w64 (z0.1+z0.2))) 1))).bind λ y2=>bif decide ((Rj y2 x1)<0) then some (.next (w64 ((w64 (G6 .u64 (IntKind.wrap .u64 (w64 (z0.1+z0.2))) 1))+1),z0.2)) else some (.next (z0.1,w64 (G6 .u64 (IntKind.wrap .u64 (w64 (z0.1+z0.2))) 1))) else some (.brk (z0.1,z0.2))
def Ug (x0:List Ak) (x1:Ak):Option (Int×Bool):=
 andThen (whileN (Uf x0 x1) 1152921504606846976 (0,(x0.length:Int))) (λ _=>none) λ z0=>(A3 [(decide (z0.1<(x0.length:Int)),true)] (getI x0 z0.1) default).bind λ y5=>some (z0.1,((decide (z0.1<(x0.length:Int)))&&((Rj y5 x1)==0)))
def Pk (x0:List Ak) (x1:Int) (x2:List Ak):Option ((List Ak)):=
 (bndI x0.length x1 (x0.length:Int)).bind λ u2=>bif ((x2.length:Int)==0) then some x0 else bif (x1==(x0.length:Int)) then (appI 17 x0 x2).bind λ y5=>some y5 else insI 17 x0 x1 x2
def Ue (x0:List Ak) (x1:Int) (x2:Int):Option ((List Ak)):=
 (bnd3I x0.length x1 x2 (x0.length:Int)).bind λ u2=>bif (x1==x2) then some x0 else (bndI x0.length 0 x1).bind λ u5=>(bndI x0.length x2 (x0.length:Int)).bind λ u7=>(appPI x0 ((Int.toNat x1)-0) ((x0.drop (Int.toNat x2)).take ((Int.toNat (x0.length:Int))-(Int.toNat x2)))).bind λ y8=>(bndI (y8.length-0) (((((Int.toNat x1)-0)+((x0.drop (Int.toNat x2)).take ((Int.toNat (x0.length:Int))-(Int.toNat x2))).length):Nat):Int) (x0.length:Int)).bind λ u11=>some ((Gd y8 (0+(Int.toNat (((((Int.toNat x1)-0)+((x0.drop (Int.toNat x2)).take ((Int.toNat (x0.length:Int))-(Int.toNat x2))).length):Nat):Int))) ((Int.toNat (x0.length:Int))-(Int.toNat (((((Int.toNat x1)-0)+((x0.drop (Int.toNat x2)).take ((Int.toNat (x0.length:Int))-(Int.toNat x2))).length):Nat):Int))) (⟨0,0⟩:Ak)).take (((Int.toNat x1)-0)+((x0.drop (Int.toNat x2)).take ((Int.toNat (x0.length:Int))-(Int.toNat x2))).length))
def Qt (x0:A1) (x2:Bool):Bool:=(x2&&(decide ((x0.Au.Am.length:Int)>=32)))
def N8 (x0:A1) (x1:Ak) (x2:Bool) (y1:Int×Bool):Option (Ctl ((List Ak)) Unit):=
 bif x2 then (Pk x0.Au.Am y1.1 [x1]).bind λ y6=>some (.next y6) else (Ue x0.Au.Am y1.1 (w64 (y1.1+1))).bind λ y8=>some (.next y8)
def Hg (x0:A1) (x1:Ak) (x2:Bool):Option (Int×A1):=
 (Ug x0.Au.Am x1).bind λ y1=>bif (y1.2==x2) then some (11,x0) else bif (Qt x0 x2) then some (2,x0) else andThen (N8 x0 x1 x2 y1) (λ _=>none) λ z0=>bif (x1.Kind==1) then (getI x0.Au.Ac x1.Number).bind λ y11=>(setI x0.Au.Ac x1.Number (⟨0,y11.Since,y11.Aq,y11.Phase⟩:Af)).bind λ y13=>bif x2 then (getI y13 x1.Number).bind λ y16=>(setI y13 x1.Number (⟨3,y16.Since,y16.Aq,y16.Phase⟩:Af)).bind λ y18=>some (0,(⟨x0.Al,(⟨x0.Au.Ag,y18,x0.Au.Ap,z0⟩:Ab),x0.time⟩:A1)) else some (0,(⟨x0.Al,(⟨x0.Au.Ag,y13,x0.Au.Ap,z0⟩:Ab),x0.time⟩:A1)) else some (0,(⟨x0.Al,(⟨x0.Au.Ag,x0.Au.Ac,x0.Au.Ap,z0⟩:Ab),x0.time⟩:A1))
def M_ (x0:A1) (x1:Ao):Option (Int×A1):=
 bif (x1.Kind==1) then (Aj0 x0.Al x0.Au x1.Unit).bind λ y2=>some (y2.2,(⟨x0.Al,y2.1,x0.time⟩:A1)) else bif (x1.Kind==2) then (Ajz x0.Al x0.Au x1.Unit).bind λ y5=>some (y5.2,(⟨x0.Al,y5.1,x0.time⟩:A1)) else bif (x1.Kind==6) then (Ajy x0.Al x0.Au x1.Unit x1.Value).bind λ y8=>some (y8.2,(⟨x0.Al,y8.1,x0.time⟩:A1)) else bif (x1.Kind==3) then (U1 x0 x1.Unit).bind λ y11=>some (y11.1,y11.2) else bif (x1.Kind==4) then (U0 x0 x1.Unit).bind λ y14=>some (y14.1,y14.2) else bif (x1.Kind==5) then (Uz x0 x1.Unit x1.Value).bind λ y17=>some (y17.1,y17.2) else bif (x1.Kind==7) then (Kw x0).bind λ y20=>some (0,y20) else (Hg x0 (⟨x1.Value,x1.Unit⟩:Ak) (x1.Kind==8)).bind λ y22=>some (y22.1,y22.2)
def Ao0 (x2:Int) (x3:Ao):Bool:=((((decide (x2<0)) || (decide (x2>2147483648))) || (decide (x3.Kind<1))) || (decide (x3.Kind>9)))
def F78 (x0:Aa) (x1:Ab) (x2:Int) (x3:Ao):Option (Ab×Int):=
 (F65 x0 x1).bind λ y1=>bif (y1 != 0) then some ((⟨([]:List Bool),([]:List Af),([]:List Int),([]:List Ak)⟩:Ab),y1) else bif (Ao0 x2 x3) then some ((⟨([]:List Bool),([]:List Af),([]:List Int),([]:List Ak)⟩:Ab),1) else (zY x0 x3).bind λ y5=>bif !y5 then some ((⟨([]:List Bool),([]:List Af),([]:List Int),([]:List Ak)⟩:Ab),10) else (F66 x1).bind λ y8=>(M_ (⟨x0,y8,x2⟩:A1) x3).bind λ y10=>bif (y10.1 != 0) then some ((⟨([]:List Bool),([]:List Af),([]:List Int),([]:List Ak)⟩:Ab),y10.1) else some (y10.2.Au,0)
def Pp (x0:A4) (x1:Ao) (x2:Int):Option A4:=
 (appI 41 x0.events [(⟨x0.A0.Time,x1,x2⟩:A6)]).bind λ y1=>some (⟨x0.A0,x0.Al,y1,x0.states⟩:A4)
def N2 (x0:A4) (x1:Ab):Option A4:=
 (F66 x1).bind λ y3=>(appI 97 x0.states [y3]).bind λ y5=>some (⟨x0.A0,x0.Al,x0.events,y5⟩:A4)
def Kv (x0:Int) (x1:Int) (x2:Ay):Option (Bool×Ay):=
 (H_ x2.Au x0 x1).bind λ y1=>some (y1,x2)
def Ur (x0:Ay) (x1:Ai):Option (Bool×Ay):=
 (Kv 3 x1.A x0).bind λ y1=>bif y1.1 then some (true,y1.2) else bif (x1.Kind==1) then (Kv 3 x1.B y1.2).bind λ y5=>some (y5.1,y5.2) else bif (x1.Kind==2) then (Kv 1 x1.B y1.2).bind λ y8=>(A3 [(y8.1,false)] (getI y8.2.Au.Ac x1.B) default).bind λ y10=>some ((y8.1 || (y10.State != 2)),y8.2) else (Kv 4 x1.B y1.2).bind λ y12=>some (y12.1,y12.2)
def M8 (x0:Ay) (x1:Int):Option Ay:=
 (getI x0.Au.Ag x1).bind λ y1=>(setI x0.Au.Ag x1 false).bind λ y3=>(appI 25 x0.acts [(⟨2,x1,0⟩:Ao)]).bind λ y5=>some (⟨x0.Al,(⟨y3,x0.Au.Ac,x0.Au.Ap,x0.Au.Am⟩:Ab),y5⟩:Ay)
def Uw (n0:Nat) (a0:Ai) (z0:Sg8):Option (Ctl (Sg8) Unit):=
 (getI z0.2.2.2.2.2.2.2.1 (cnt 0 n0)).bind λ y1=>(A3 [(y1,true)] (Ur (⟨(⟨z0.1,z0.2.1,z0.2.2.1,z0.2.2.2.1,z0.2.2.2.2.1,z0.2.2.2.2.2.1⟩:Aa),(⟨z0.2.2.2.2.2.2.2.1,z0.2.2.2.2.2.2.2.2.1,z0.2.2.2.2.2.2.2.2.2.1,z0.2.2.2.2.2.2.2.2.2.2.1⟩:Ab),z0.2.2.2.2.2.2.2.2.2.2.2⟩:Ay) a0) (default,(⟨(⟨z0.1,z0.2.1,z0.2.2.1,z0.2.2.2.1,z0.2.2.2.2.1,z0.2.2.2.2.2.1⟩:Aa),(⟨z0.2.2.2.2.2.2.2.1,z0.2.2.2.2.2.2.2.2.1,z0.2.2.2.2.2.2.2.2.2.1,z0.2.2.2.2.2.2.2.2.2.2.1⟩:Ab),z0.2.2.2.2.2.2.2.2.2.2.2⟩:Ay))).bind λ y3=>bif (y1&&y3.1) then (appI 9 z0.2.2.2.2.2.2.1 [cnt 0 n0]).bind λ y6=>some (.next (y3.2.Al.An,y3.2.Al.Ad,y3.2.Al.Ac,y3.2.Al.Ae,y3.2.Al.Phase,y3.2.Al.Aq,y6,y3.2.Au.Ag,y3.2.Au.Ac,y3.2.Au.Ap,y3.2.Au.Am,y3.2.acts)) else some (.next (y3.2.Al.An,y3.2.Al.Ad,y3.2.Al.Ac,y3.2.Al.Ae,y3.2.Al.Phase,y3.2.Al.Aq,z0.2.2.2.2.2.2.1,y3.2.Au.Ag,y3.2.Au.Ac,y3.2.Au.Ap,y3.2.Au.Am,y3.2.acts))
def N7 (n1:Nat) (a1:Int) (z1:Sg7):Option (Ctl (Sg7) Unit):=
 (M8 (⟨(⟨z1.1,z1.2.1,z1.2.2.1,z1.2.2.2.1,z1.2.2.2.2.1,z1.2.2.2.2.2.1⟩:Aa),(⟨z1.2.2.2.2.2.2.1,z1.2.2.2.2.2.2.2.1,z1.2.2.2.2.2.2.2.2.1,z1.2.2.2.2.2.2.2.2.2.1⟩:Ab),z1.2.2.2.2.2.2.2.2.2.2⟩:Ay) a1).bind λ y8=>some (.next (y8.Al.An,y8.Al.Ad,y8.Al.Ac,y8.Al.Ae,y8.Al.Phase,y8.Al.Aq,y8.Au.Ag,y8.Au.Ac,y8.Au.Ap,y8.Au.Am,y8.acts))
def Ux (x0:Ay):Option Ay:=
 andThen (foldI Uw x0.Al.Ad 0 (x0.Al.An,x0.Al.Ad,x0.Al.Ac,x0.Al.Ae,x0.Al.Phase,x0.Al.Aq,([]:List Int),x0.Au.Ag,x0.Au.Ac,x0.Au.Ap,x0.Au.Am,x0.acts)) (λ _=>none) λ z0=>andThen (foldI N7 z0.2.2.2.2.2.2.1 0 (z0.1,z0.2.1,z0.2.2.1,z0.2.2.2.1,z0.2.2.2.2.1,z0.2.2.2.2.2.1,z0.2.2.2.2.2.2.2.1,z0.2.2.2.2.2.2.2.2.1,z0.2.2.2.2.2.2.2.2.2.1,z0.2.2.2.2.2.2.2.2.2.2.1,z0.2.2.2.2.2.2.2.2.2.2.2)) (λ _=>none) λ z1=>some (⟨(⟨z1.1,z1.2.1,z1.2.2.1,z1.2.2.2.1,z1.2.2.2.2.1,z1.2.2.2.2.2.1⟩:Aa),(⟨z1.2.2.2.2.2.2.1,z1.2.2.2.2.2.2.2.1,z1.2.2.2.2.2.2.2.2.1,z1.2.2.2.2.2.2.2.2.2.1⟩:Ab),z1.2.2.2.2.2.2.2.2.2.2⟩:Ay)
def Y3 (x0:Aa) (x1:Ab) (x2:Int):Option Bool:=
 (Gg x0 x1 x2).bind λ y1=>some (decide ((y1.1.Ac.length:Int)>0))
def Uq (x0:Ai) (x1:Ay):Option (Bool×Ay):=
 (A3 [((x0.Kind==3),true)] (Y3 x1.Al x1.Au x0.A) default).bind λ y1=>some (((x0.Kind==3)&&(!y1)),x1)
def Uu (n0:Nat) (a0:Ai) (z0:Sg8):Option (Ctl (Sg8) Unit):=
 (getI z0.2.2.2.2.2.2.2.1 (cnt 0 n0)).bind λ y1=>(A3 [(y1,true)] (Uq a0 (⟨(⟨z0.1,z0.2.1,z0.2.2.1,z0.2.2.2.1,z0.2.2.2.2.1,z0.2.2.2.2.2.1⟩:Aa),(⟨z0.2.2.2.2.2.2.2.1,z0.2.2.2.2.2.2.2.2.1,z0.2.2.2.2.2.2.2.2.2.1,z0.2.2.2.2.2.2.2.2.2.2.1⟩:Ab),z0.2.2.2.2.2.2.2.2.2.2.2⟩:Ay)) (default,(⟨(⟨z0.1,z0.2.1,z0.2.2.1,z0.2.2.2.1,z0.2.2.2.2.1,z0.2.2.2.2.2.1⟩:Aa),(⟨z0.2.2.2.2.2.2.2.1,z0.2.2.2.2.2.2.2.2.1,z0.2.2.2.2.2.2.2.2.2.1,z0.2.2.2.2.2.2.2.2.2.2.1⟩:Ab),z0.2.2.2.2.2.2.2.2.2.2.2⟩:Ay))).bind λ y3=>bif (y1&&y3.1) then (appI 9 z0.2.2.2.2.2.2.1 [cnt 0 n0]).bind λ y6=>some (.next (y3.2.Al.An,y3.2.Al.Ad,y3.2.Al.Ac,y3.2.Al.Ae,y3.2.Al.Phase,y3.2.Al.Aq,y6,y3.2.Au.Ag,y3.2.Au.Ac,y3.2.Au.Ap,y3.2.Au.Am,y3.2.acts)) else some (.next (y3.2.Al.An,y3.2.Al.Ad,y3.2.Al.Ac,y3.2.Al.Ae,y3.2.Al.Phase,y3.2.Al.Aq,z0.2.2.2.2.2.2.1,y3.2.Au.Ag,y3.2.Au.Ac,y3.2.Au.Ap,y3.2.Au.Am,y3.2.acts))
def Ach (n1:Nat) (a1:Int) (z1:Sg7):Option (Ctl (Sg7) Unit):=
 (M8 (⟨(⟨z1.1,z1.2.1,z1.2.2.1,z1.2.2.2.1,z1.2.2.2.2.1,z1.2.2.2.2.2.1⟩:Aa),(⟨z1.2.2.2.2.2.2.1,z1.2.2.2.2.2.2.2.1,z1.2.2.2.2.2.2.2.2.1,z1.2.2.2.2.2.2.2.2.2.1⟩:Ab),z1.2.2.2.2.2.2.2.2.2.2⟩:Ay) a1).bind λ y8=>some (.next (y8.Al.An,y8.Al.Ad,y8.Al.Ac,y8.Al.Ae,y8.Al.Phase,y8.Al.Aq,y8.Au.Ag,y8.Au.Ac,y8.Au.Ap,y8.Au.Am,y8.acts))
def Uv (x0:Ay):Option Ay:=
 andThen (foldI Uu x0.Al.Ad 0 (x0.Al.An,x0.Al.Ad,x0.Al.Ac,x0.Al.Ae,x0.Al.Phase,x0.Al.Aq,([]:List Int),x0.Au.Ag,x0.Au.Ac,x0.Au.Ap,x0.Au.Am,x0.acts)) (λ _=>none) λ z0=>andThen (foldI Ach z0.2.2.2.2.2.2.1 0 (z0.1,z0.2.1,z0.2.2.1,z0.2.2.2.1,z0.2.2.2.2.1,z0.2.2.2.2.2.1,z0.2.2.2.2.2.2.2.1,z0.2.2.2.2.2.2.2.2.1,z0.2.2.2.2.2.2.2.2.2.1,z0.2.2.2.2.2.2.2.2.2.2.1,z0.2.2.2.2.2.2.2.2.2.2.2)) (λ _=>none) λ z1=>some (⟨(⟨z1.1,z1.2.1,z1.2.2.1,z1.2.2.2.1,z1.2.2.2.2.1,z1.2.2.2.2.2.1⟩:Aa),(⟨z1.2.2.2.2.2.2.1,z1.2.2.2.2.2.2.2.1,z1.2.2.2.2.2.2.2.2.1,z1.2.2.2.2.2.2.2.2.2.1⟩:Ab),z1.2.2.2.2.2.2.2.2.2.2⟩:Ay)
def U5 (x0:Ay):Option Ay:=
 (Ux x0).bind λ y1=>(Uv y1).bind λ y3=>(F47 y3.Al y3.Au).bind λ y5=>some (⟨y3.Al,y5.1,y3.acts⟩:Ay)
def M7 (x0:Int) (x1:Int) (x2:Aa):Option Int:=
 (getI x2.Ae x0).bind λ y1=>(getI x2.Ae x1).bind λ y3=>some (J7 y1.Bm y3.Bm)
def Yc (x1:Int) (z1:Int×(List Int)) (y12:Int):Bool:=((decide (z1.1>x1))&&(decide (y12<0)))
def N3 (x1:Int) (x3c0:Aa) (z1:Int×(List Int)):Option (Ctl (Int×(List Int)) Unit):=
 (A3 [(decide (z1.1>x1),true)] (getI z1.2 z1.1) default).bind λ y8=>(A3 [(decide (z1.1>x1),true)] (getI z1.2 (w64 (z1.1-1))) default).bind λ y10=>(A3 [(decide (z1.1>x1),true)] (M7 y8 y10 x3c0) default).bind λ y12=>bif (Yc x1 z1 y12) then (getI z1.2 (w64 (z1.1-1))).bind λ y15=>(getI z1.2 z1.1).bind λ y17=>(setI z1.2 z1.1 y15).bind λ y19=>(getI y19 (w64 (z1.1-1))).bind λ y21=>(setI y19 (w64 (z1.1-1)) y17).bind λ y23=>some (.next (w64 (z1.1-1),y23)) else some (.brk (z1.1,z1.2))
def T9 (x1:Int) (x2:Int) (x3c0:Aa) (z0:Int×(List Int)):Option (Ctl (Int×(List Int)) Unit):=
 bif decide (z0.1<x2) then andThen (whileN (N3 x1 x3c0) 1152921504606846976 (z0.1,z0.2)) (λ _=>none) λ z1=>some (.next (w64 (z0.1+1),z1.2)) else some (.brk (z0.1,z0.2))
def T_ (x0:List Int) (x1:Int) (x2:Int) (x3c0:Aa):Option ((List Int)×Aa):=
 andThen (whileN (T9 x1 x2 x3c0) 1152921504606846976 (w64 (x1+1),x0)) (λ _=>none) λ z0=>some (z0.2,x3c0)
def Ub (x1:Int) (z0:Sg9):Option (Ctl (Sg9) Unit):=
 bif decide (z0.2.1<=x1) then (T_ z0.2.2.1 z0.1 z0.2.1 (⟨z0.2.2.2.1,z0.2.2.2.2.1,z0.2.2.2.2.2.1,z0.2.2.2.2.2.2.1,z0.2.2.2.2.2.2.2.1,z0.2.2.2.2.2.2.2.2⟩:Aa)).bind λ y2=>some (.next (z0.2.1,w64 (z0.2.1+20),y2.1,y2.2.An,y2.2.Ad,y2.2.Ac,y2.2.Ae,y2.2.Phase,y2.2.Aq)) else some (.brk (z0.1,z0.2.1,z0.2.2.1,z0.2.2.2.1,z0.2.2.2.2.1,z0.2.2.2.2.2.1,z0.2.2.2.2.2.2.1,z0.2.2.2.2.2.2.2.1,z0.2.2.2.2.2.2.2.2))
def A7s (x1:Int) (z2:Unit):Option (Ctl Unit Unit):=
 bif decide (40<=x1) then none else some (.brk ())
def Ua (x1:Int) (z1:Unit):Option (Ctl Unit Unit):=
 bif decide (20<x1) then none else some (.brk ())
def qU (x0:List Int) (x1:Int) (x2c0:Aa):Option ((List Int)×Aa):=
 andThen (whileN (Ub x1) 1152921504606846976 (0,20,x0,x2c0.An,x2c0.Ad,x2c0.Ac,x2c0.Ae,x2c0.Phase,x2c0.Aq)) (λ _=>none) λ z0=>(T_ z0.2.2.1 z0.1 x1 (⟨z0.2.2.2.1,z0.2.2.2.2.1,z0.2.2.2.2.2.1,z0.2.2.2.2.2.2.1,z0.2.2.2.2.2.2.2.1,z0.2.2.2.2.2.2.2.2⟩:Aa)).bind λ y4=>andThen (whileN (Ua x1) 1152921504606846976 ()) (λ _=>none) λ z1=>some (y4.1,y4.2)
def Ud (x0:List Int) (x1c0:Aa):Option ((List Int)×Aa):=
 (qU x0 (x0.length:Int) x1c0).bind λ y1=>some (y1.1,y1.2)
def Aul (x0:Aa) (z0:Int×(List Int)):Bool:=decide (z0.1<(x0.Ae.length:Int))
def zI (x0:Aa) (z0:Int×(List Int)):Option (Ctl (Int×(List Int)) Unit):=
 bif (Aul x0 z0) then (appI 9 z0.2 [z0.1]).bind λ y5=>some (.next (w64 (z0.1+1),y5)) else some (.brk (z0.1,z0.2))
def Y0 (x0:Aa):Option ((List Int)):=
 (F86 x0).bind λ y1=>bif (y1 != 0) then some ([]:List Int) else andThen (whileN (zI x0) 1152921504606846976 (0,([]:List Int))) (λ _=>none) λ z0=>(Ud z0.2 x0).bind λ y7=>some y7.1
def Pn (x0:Int) (x1:Ah):Option Bool:=
 (M9 x1.Ae x0).bind λ y1=>some (!y1)
def N4 (x1c0:Ah) (n0:Nat) (a0:Int) (z0:Unit):Option (Ctl Unit (Int×Ah)):=
 (Pn a0 x1c0).bind λ y1=>bif y1 then some (.ret (cnt 0 n0,x1c0)) else some (.next ())
def qV (x0:List Int) (x1c0:Ah):Option (Int×Ah):=
 andThen (foldI (N4 x1c0) x0 0 ()) some λ z0=>some ((-1),x1c0)
def Ahd (z0:Int×Int×(List Int)):Bool:=decide (z0.2.1<(z0.2.2.length:Int))
def Un (y1:Int×Ah) (z0:Int×Int×(List Int)):Option (Ctl (Int×Int×(List Int)) Unit):=
 bif (Ahd z0) then (getI z0.2.2 z0.2.1).bind λ y5=>(Pn y5 y1.2).bind λ y7=>bif !y7 then (getI z0.2.2 z0.1).bind λ y10=>(setI z0.2.2 z0.1 y5).bind λ y12=>some (.next (w64 (z0.1+1),w64 (z0.2.1+1),y12)) else some (.next (z0.1,w64 (z0.2.1+1),z0.2.2)) else some (.brk (z0.1,z0.2.1,z0.2.2))
def Uo (x0:List Int) (x1c0:Ah):Option ((List Int)×Ah):=
 (qV x0 x1c0).bind λ y1=>bif (y1.1==(-1)) then some (x0,y1.2) else andThen (whileN (Un y1) 1152921504606846976 (y1.1,w64 (y1.1+1),x0)) (λ _=>none) λ z0=>(bndI z0.2.2.length z0.1 (z0.2.2.length:Int)).bind λ u15=>(bndI (Gd z0.2.2 (Int.toNat z0.1) ((Int.toNat (z0.2.2.length:Int))-(Int.toNat z0.1)) 0).length 0 z0.1).bind λ u17=>some (((Gd z0.2.2 (Int.toNat z0.1) ((Int.toNat (z0.2.2.length:Int))-(Int.toNat z0.1)) 0).take ((Int.toNat z0.1)-0)),y1.2)
def Wj (x1:Ab) (y1:Ah×Bool) (n0:Nat) (a0:Int) (z0:Int):Option (Ctl Int Unit):=
 bif decide ((y1.1.Ac.length:Int)>0) then (getI x1.Ap a0).bind λ y4=>some (.next (w64 (z0+y4))) else some (.next z0)
def Ui (x0:Aa) (x1:Ab) (x2:Int):Option Int:=
 (Gg x0 x1 x2).bind λ y1=>andThen (foldI (Wj x1 y1) y1.1.Ae 0 0) (λ _=>none) λ z0=>some z0
def zH (x0:Aa) (n0:Nat) (a0:Int) (z0:Int):Option (Ctl Int Unit):=
 (getI x0.Ac a0).bind λ y3=>some (.next (w64 (z0+y3.Rating)))
def Uj (x0:Aa) (x1:Ab) (x2:Int):Option Int:=
 (Gg x0 x1 x2).bind λ y1=>andThen (foldI (zH x0) y1.1.Ac 0 0) (λ _=>none) λ z0=>some z0
def Pj (x0:Ay) (x1:Int):Option Int:=
 (Ui x0.Al x0.Au x1).bind λ y1=>(Uj x0.Al x0.Au x1).bind λ y3=>some (max 0 (w64 (y1-y3)))
def Aiy (n0:Nat) (a0:Int) (z0:(List Ah)):Option (Ctl ((List Ah)) Unit):=
 (getI z0 a0).bind λ y8=>(appI 9 y8.An [cnt 0 n0]).bind λ y10=>(setI z0 a0 (⟨y10,y8.Ac,y8.Ae⟩:Ah)).bind λ y12=>some (.next y12)
def A2d (x0:Aa) (z1:Int×(List Ah)):Bool:=decide (z1.1<(x0.Ac.length:Int))
def Aix (x0:Aa) (x1:Ab) (y4:(List Int)) (z1:Int×(List Ah)):Option (Ctl (Int×(List Ah)) Unit):=
 bif (A2d x0 z1) then (F98 x0 x1 z1.1).bind λ y15=>bif y15.2 then (getI y4 y15.1).bind λ y18=>(getI z1.2 y18).bind λ y20=>(appI 9 y20.Ac [z1.1]).bind λ y22=>(setI z1.2 y18 (⟨y20.An,y22,y20.Ae⟩:Ah)).bind λ y24=>some (.next (w64 (z1.1+1),y24)) else some (.next (w64 (z1.1+1),z1.2)) else some (.brk (z1.1,z1.2))
def A2c (x0:Aa) (z2:Int×(List Ah)):Bool:=decide (z2.1<(x0.Ae.length:Int))
def Aiw (x0:Aa) (x1:Ab) (y4:(List Int)) (z2:Int×(List Ah)):Option (Ctl (Int×(List Ah)) Unit):=
 bif (A2c x0 z2) then (F99 x0 x1 z2.1).bind λ y27=>bif y27.2 then (getI y4 y27.1).bind λ y30=>(getI z2.2 y30).bind λ y32=>(appI 9 y32.Ae [z2.1]).bind λ y34=>(setI z2.2 y30 (⟨y32.An,y32.Ac,y34⟩:Ah)).bind λ y36=>some (.next (w64 (z2.1+1),y36)) else some (.next (w64 (z2.1+1),z2.2)) else some (.brk (z2.1,z2.2))
def Adi (x0:Aa) (x1:Ab):Option ((List Ah)):=
 (F65 x0 x1).bind λ y1=>bif (y1 != 0) then some ([]:List Ah) else (F97 x0 x1).bind λ y4=>(mkI 73 x0.An (⟨([]:List Int),([]:List Int),([]:List Int)⟩:Ah)).bind λ y6=>andThen (foldI Aiy y4 0 y6) (λ _=>none) λ z0=>andThen (whileN (Aix x0 x1 y4) 1152921504606846976 (0,z0)) (λ _=>none) λ z1=>andThen (whileN (Aiw x0 x1 y4) 1152921504606846976 (0,z1.2)) (λ _=>none) λ z2=>(Pq z2.2).bind λ y38=>some y38
def Yd (y1:Int) (y3:Int) (y5:A7):Bool:=decide ((min y1 (w64 (y3-y5.Least)))>0)
def Um (x0:Ay) (x2:Int) (n0:Nat) (a0:Int) (z0:(List Int)×(List Ao)):Option (Ctl ((List Int)×(List Ao)) Unit):=
 (Pj (⟨x0.Al,(⟨x0.Au.Ag,x0.Au.Ac,z0.1,x0.Au.Am⟩:Ab),z0.2⟩:Ay) x2).bind λ y1=>(getI z0.1 a0).bind λ y3=>(getI x0.Al.Ae a0).bind λ y5=>bif (Yd y1 y3 y5) then (setI z0.1 a0 (w64 (y3-(min y1 (w64 (y3-y5.Least)))))).bind λ y8=>(getI y8 a0).bind λ y10=>(appI 25 z0.2 [(⟨5,a0,y10⟩:Ao)]).bind λ y12=>some (.next (y8,y12)) else some (.next (z0.1,z0.2))
def Pm (x0:Ay) (x1:List Int) (x2:Int):Option Ay:=
 andThen (foldI (Um x0 x2) x1 0 (x0.Au.Ap,x0.acts)) (λ _=>none) λ z0=>some (⟨x0.Al,(⟨x0.Au.Ag,x0.Au.Ac,z0.1,x0.Au.Am⟩:Ab),z0.2⟩:Ay)
def Uc (x0:Ai) (x1:Int):Bool:=
 ((x0.Kind==3)&&(x0.B==x1))
def Us (x0:Ay) (x1c0:Int) (n0:Nat) (a0:Ai) (z0:(List Int)):Option (Ctl ((List Int)) Unit):=
 (getI x0.Au.Ag (cnt 0 n0)).bind λ y1=>bif (y1&&(Uc a0 x1c0)) then (appI 9 z0 [cnt 0 n0]).bind λ y4=>some (.next y4) else some (.next z0)
def Acg (n1:Nat) (a1:Int) (z1:Sg7):Option (Ctl (Sg7) Unit):=
 (M8 (⟨(⟨z1.1,z1.2.1,z1.2.2.1,z1.2.2.2.1,z1.2.2.2.2.1,z1.2.2.2.2.2.1⟩:Aa),(⟨z1.2.2.2.2.2.2.1,z1.2.2.2.2.2.2.2.1,z1.2.2.2.2.2.2.2.2.1,z1.2.2.2.2.2.2.2.2.2.1⟩:Ab),z1.2.2.2.2.2.2.2.2.2.2⟩:Ay) a1).bind λ y6=>some (.next (y6.Al.An,y6.Al.Ad,y6.Al.Ac,y6.Al.Ae,y6.Al.Phase,y6.Al.Aq,y6.Au.Ag,y6.Au.Ac,y6.Au.Ap,y6.Au.Am,y6.acts))
def Ut (x0:Ay) (x1c0:Int):Option (Ay×Int):=
 andThen (foldI (Us x0 x1c0) x0.Al.Ad 0 ([]:List Int)) (λ _=>none) λ z0=>andThen (foldI Acg z0 0 (x0.Al.An,x0.Al.Ad,x0.Al.Ac,x0.Al.Ae,x0.Al.Phase,x0.Al.Aq,x0.Au.Ag,x0.Au.Ac,x0.Au.Ap,x0.Au.Am,x0.acts)) (λ _=>none) λ z1=>some ((⟨(⟨z1.1,z1.2.1,z1.2.2.1,z1.2.2.2.1,z1.2.2.2.2.1,z1.2.2.2.2.2.1⟩:Aa),(⟨z1.2.2.2.2.2.2.1,z1.2.2.2.2.2.2.2.1,z1.2.2.2.2.2.2.2.2.1,z1.2.2.2.2.2.2.2.2.2.1⟩:Ab),z1.2.2.2.2.2.2.2.2.2.2⟩:Ay),x1c0)
def Ul (x2:Int) (n0:Nat) (a0:Int) (z0:Sg7):Option (Ctl (Sg7) Unit):=
 (getI z0.2.2.2.2.2.2.2.2.1 a0).bind λ y1=>(A3 [(decide (y1>0),true)] (Pj (⟨(⟨z0.1,z0.2.1,z0.2.2.1,z0.2.2.2.1,z0.2.2.2.2.1,z0.2.2.2.2.2.1⟩:Aa),(⟨z0.2.2.2.2.2.2.1,z0.2.2.2.2.2.2.2.1,z0.2.2.2.2.2.2.2.2.1,z0.2.2.2.2.2.2.2.2.2.1⟩:Ab),z0.2.2.2.2.2.2.2.2.2.2⟩:Ay) x2) default).bind λ y3=>bif ((decide (y1>0))&&(decide (y3>0))) then (Ut (⟨(⟨z0.1,z0.2.1,z0.2.2.1,z0.2.2.2.1,z0.2.2.2.2.1,z0.2.2.2.2.2.1⟩:Aa),(⟨z0.2.2.2.2.2.2.1,z0.2.2.2.2.2.2.2.1,z0.2.2.2.2.2.2.2.2.1,z0.2.2.2.2.2.2.2.2.2.1⟩:Ab),z0.2.2.2.2.2.2.2.2.2.2⟩:Ay) a0).bind λ y6=>some (.next (y6.1.Al.An,y6.1.Al.Ad,y6.1.Al.Ac,y6.1.Al.Ae,y6.1.Al.Phase,y6.1.Al.Aq,y6.1.Au.Ag,y6.1.Au.Ac,y6.1.Au.Ap,y6.1.Au.Am,y6.1.acts)) else some (.next (z0.1,z0.2.1,z0.2.2.1,z0.2.2.2.1,z0.2.2.2.2.1,z0.2.2.2.2.2.1,z0.2.2.2.2.2.2.1,z0.2.2.2.2.2.2.2.1,z0.2.2.2.2.2.2.2.2.1,z0.2.2.2.2.2.2.2.2.2.1,z0.2.2.2.2.2.2.2.2.2.2))
def Pl (x0:Ay) (x1:List Int) (x2:Int):Option Ay:=
 andThen (foldI (Ul x2) x1 0 (x0.Al.An,x0.Al.Ad,x0.Al.Ac,x0.Al.Ae,x0.Al.Phase,x0.Al.Aq,x0.Au.Ag,x0.Au.Ac,x0.Au.Ap,x0.Au.Am,x0.acts)) (λ _=>none) λ z0=>some (⟨(⟨z0.1,z0.2.1,z0.2.2.1,z0.2.2.2.1,z0.2.2.2.2.1,z0.2.2.2.2.2.1⟩:Aa),(⟨z0.2.2.2.2.2.2.1,z0.2.2.2.2.2.2.2.1,z0.2.2.2.2.2.2.2.2.1,z0.2.2.2.2.2.2.2.2.2.1⟩:Ab),z0.2.2.2.2.2.2.2.2.2.2⟩:Ay)
def U4 (y1:(List Int)) (n0:Nat) (a0:Ah) (z0:Sg7):Option (Ctl (Sg7) Unit):=
 (F95 y1).bind λ y5=>(Uo y5 a0).bind λ y7=>bif decide ((y7.2.Ac.length:Int)>0) then (getI y7.2.An 0).bind λ y10=>(Pm (⟨(⟨z0.1,z0.2.1,z0.2.2.1,z0.2.2.2.1,z0.2.2.2.2.1,z0.2.2.2.2.2.1⟩:Aa),(⟨z0.2.2.2.2.2.2.1,z0.2.2.2.2.2.2.2.1,z0.2.2.2.2.2.2.2.2.1,z0.2.2.2.2.2.2.2.2.2.1⟩:Ab),z0.2.2.2.2.2.2.2.2.2.2⟩:Ay) y7.1 y10).bind λ y12=>(getI y7.2.An 0).bind λ y14=>(Pl y12 y7.1 y14).bind λ y16=>some (.next (y16.Al.An,y16.Al.Ad,y16.Al.Ac,y16.Al.Ae,y16.Al.Phase,y16.Al.Aq,y16.Au.Ag,y16.Au.Ac,y16.Au.Ap,y16.Au.Am,y16.acts)) else some (.next (z0.1,z0.2.1,z0.2.2.1,z0.2.2.2.1,z0.2.2.2.2.1,z0.2.2.2.2.2.1,z0.2.2.2.2.2.2.1,z0.2.2.2.2.2.2.2.1,z0.2.2.2.2.2.2.2.2.1,z0.2.2.2.2.2.2.2.2.2.1,z0.2.2.2.2.2.2.2.2.2.2))
def Po (x0:Ay):Option Ay:=
 (Y0 x0.Al).bind λ y1=>(Adi x0.Al x0.Au).bind λ y3=>andThen (foldI (U4 y1) y3 0 (x0.Al.An,x0.Al.Ad,x0.Al.Ac,x0.Al.Ae,x0.Al.Phase,x0.Al.Aq,x0.Au.Ag,x0.Au.Ac,x0.Au.Ap,x0.Au.Am,x0.acts)) (λ _=>none) λ z0=>some (⟨(⟨z0.1,z0.2.1,z0.2.2.1,z0.2.2.2.1,z0.2.2.2.2.1,z0.2.2.2.2.2.1⟩:Aa),(⟨z0.2.2.2.2.2.2.1,z0.2.2.2.2.2.2.2.1,z0.2.2.2.2.2.2.2.2.1,z0.2.2.2.2.2.2.2.2.2.1⟩:Ab),z0.2.2.2.2.2.2.2.2.2.2⟩:Ay)
def uB (x0:Ay):Option Ay:=
 (U5 x0).bind λ y1=>(Po y1).bind λ y3=>some y3
def uC (x0:Aa) (x1:Ab):Option (Ab×(List Ao)×Int):=
 (F65 x0 x1).bind λ y1=>bif (y1 != 0) then some ((⟨([]:List Bool),([]:List Af),([]:List Int),([]:List Ak)⟩:Ab),([]:List Ao),y1) else (F66 x1).bind λ y4=>(uB (⟨x0,y4,([]:List Ao)⟩:Ay)).bind λ y6=>some (y6.Au,y6.acts,0)
def Aj8 (x0:Aa) (x1:Ab):Option (Ab×(List Ao)×Int):=
 (uC x0 x1).bind λ y1=>some (y1.1,y1.2.1,y1.2.2)
def Yv (x1:Ao) (y1:Ab×Int):Option (Ctl Int Unit):=
 bif (x1.Kind==7) then some (.next 1) else some (.next y1.2)
def Yw (y1:Ab×Int) (n1:Nat) (a1:Ao) (z1:yT):Option (Ctl (yT) Unit):=
 (Pp (⟨(⟨z1.1,(⟨z1.2.2.2.2.2.2.2.1,z1.2.2.2.2.2.2.2.2.1,z1.2.2.2.2.2.2.2.2.2.1,z1.2.2.2.2.2.2.2.2.2.2.1⟩:Ab),z1.2.2.2.2.2.2.2.2.2.2.2.1,z1.2.2.2.2.2.2.2.2.2.2.2.2.1⟩:Ar),(⟨z1.2.1,z1.2.2.1,z1.2.2.2.1,z1.2.2.2.2.1,z1.2.2.2.2.2.1,z1.2.2.2.2.2.2.1⟩:Aa),z1.2.2.2.2.2.2.2.2.2.2.2.2.2.2.1,z1.2.2.2.2.2.2.2.2.2.2.2.2.2.2.2.1⟩:A4) a1 0).bind λ y11=>bif (a1.Kind==2) then (getI z1.2.2.2.2.2.2.2.2.2.2.2.2.2.1 a1.Unit).bind λ y14=>(setI z1.2.2.2.2.2.2.2.2.2.2.2.2.2.1 a1.Unit false).bind λ y16=>(N2 y11 (⟨y16,y1.1.Ac,z1.2.2.2.2.2.2.2.2.2.2.2.2.2.2.2.2,y1.1.Am⟩:Ab)).bind λ y18=>some (.next (y18.A0.Time,y18.Al.An,y18.Al.Ad,y18.Al.Ac,y18.Al.Ae,y18.Al.Phase,y18.Al.Aq,y18.A0.Power.Ag,y18.A0.Power.Ac,y18.A0.Power.Ap,y18.A0.Power.Am,y18.A0.A2,y18.A0.A8,y16,y18.events,y18.states,z1.2.2.2.2.2.2.2.2.2.2.2.2.2.2.2.2)) else (getI z1.2.2.2.2.2.2.2.2.2.2.2.2.2.2.2.2 a1.Unit).bind λ y20=>(setI z1.2.2.2.2.2.2.2.2.2.2.2.2.2.2.2.2 a1.Unit a1.Value).bind λ y22=>(N2 y11 (⟨z1.2.2.2.2.2.2.2.2.2.2.2.2.2.1,y1.1.Ac,y22,y1.1.Am⟩:Ab)).bind λ y24=>some (.next (y24.A0.Time,y24.Al.An,y24.Al.Ad,y24.Al.Ac,y24.Al.Ae,y24.Al.Phase,y24.Al.Aq,y24.A0.Power.Ag,y24.A0.Power.Ac,y24.A0.Power.Ap,y24.A0.Power.Am,y24.A0.A2,y24.A0.A8,z1.2.2.2.2.2.2.2.2.2.2.2.2.2.1,y24.events,y24.states,y22))
def Wg (x0:A4) (x1:Ao):Option A4:=
 (F78 x0.Al x0.A0.Power x0.A0.Time x1).bind λ y1=>andThen (Yv x1 y1) (λ _=>none) λ z0=>(Pp x0 x1 z0).bind λ y4=>bif (z0 != 0) then some y4 else (N2 y4 y1.1).bind λ y7=>(Aj8 y7.Al y1.1).bind λ y9=>andThen (foldI (Yw y1) y9.2.1 0 (y7.A0.Time,y7.Al.An,y7.Al.Ad,y7.Al.Ac,y7.Al.Ae,y7.Al.Phase,y7.Al.Aq,y7.A0.Power.Ag,y7.A0.Power.Ac,y7.A0.Power.Ap,y7.A0.Power.Am,y7.A0.A2,y7.A0.A8,y1.1.Ag,y7.events,y7.states,y1.1.Ap)) (λ _=>none) λ z1=>(F50 (⟨z1.2.2.2.2.2.2.2.2.2.2.2.2.2.1,y1.1.Ac,z1.2.2.2.2.2.2.2.2.2.2.2.2.2.2.2.2,y1.1.Am⟩:Ab) y9.1).bind λ y26=>bif !y26 then (N2 (⟨(⟨z1.1,(⟨z1.2.2.2.2.2.2.2.1,z1.2.2.2.2.2.2.2.2.1,z1.2.2.2.2.2.2.2.2.2.1,z1.2.2.2.2.2.2.2.2.2.2.1⟩:Ab),z1.2.2.2.2.2.2.2.2.2.2.2.1,z1.2.2.2.2.2.2.2.2.2.2.2.2.1⟩:Ar),(⟨z1.2.1,z1.2.2.1,z1.2.2.2.1,z1.2.2.2.2.1,z1.2.2.2.2.2.1,z1.2.2.2.2.2.2.1⟩:Aa),z1.2.2.2.2.2.2.2.2.2.2.2.2.2.2.1,z1.2.2.2.2.2.2.2.2.2.2.2.2.2.2.2.1⟩:A4) y9.1).bind λ y29=>some (⟨(⟨y29.A0.Time,y9.1,y29.A0.A2,y29.A0.A8⟩:Ar),y29.Al,y29.events,y29.states⟩:A4) else some (⟨(⟨z1.1,y9.1,z1.2.2.2.2.2.2.2.2.2.2.2.1,z1.2.2.2.2.2.2.2.2.2.2.2.2.1⟩:Ar),(⟨z1.2.1,z1.2.2.1,z1.2.2.2.1,z1.2.2.2.2.1,z1.2.2.2.2.2.1,z1.2.2.2.2.2.2.1⟩:Aa),z1.2.2.2.2.2.2.2.2.2.2.2.2.2.2.1,z1.2.2.2.2.2.2.2.2.2.2.2.2.2.2.2.1⟩:A4)
def Aqo (x0:Int) (x1:Int):Int×Int:=
 (IntKind.wrap .u64 ((IntKind.wrap .u64 ((IntKind.wrap .u64 ((G6 .u64 x0 32)*(G6 .u64 x1 32)))+(G6 .u64 (IntKind.wrap .u64 ((IntKind.wrap .u64 ((G6 .u64 x0 32)*(Ol .u64 x1 4294967295)))+(G6 .u64 (IntKind.wrap .u64 ((Ol .u64 x0 4294967295)*(Ol .u64 x1 4294967295))) 32))) 32)))+(G6 .u64 (IntKind.wrap .u64 ((Ol .u64 (IntKind.wrap .u64 ((IntKind.wrap .u64 ((G6 .u64 x0 32)*(Ol .u64 x1 4294967295)))+(G6 .u64 (IntKind.wrap .u64 ((Ol .u64 x0 4294967295)*(Ol .u64 x1 4294967295))) 32))) 4294967295)+(IntKind.wrap .u64 ((Ol .u64 x0 4294967295)*(G6 .u64 x1 32))))) 32)),IntKind.wrap .u64 (x0*x1))
def Uk (x0:Int) (x1:Int):Int×Int:=
 ((Aqo x0 x1).1,(Aqo x0 x1).2)
def Ane (x1:Int):Option (Ctl Unit Unit):=
 bif decide (x1<0) then none else some (.next ())
def A51 (x0:List Av) (x1:Int):Bool:=((decide (((Uk (IntKind.wrap .u64 (x0.length:Int)) (IntKind.wrap .u64 x1)).1)>0)) || (decide (((Uk (IntKind.wrap .u64 (x0.length:Int)) (IntKind.wrap .u64 x1)).2)>9223372036854775807)))
def And (x0:List Av) (x1:Int):Option (Ctl Unit Unit):=
 bif (A51 x0 x1) then none else some (.next ())
def A50 (z2:Int×(List Av)):Bool:=decide (z2.1<(z2.2.length:Int))
def Anf (z2:Int×(List Av)):Option (Ctl (Int×(List Av)) Unit):=
 bif (A50 z2) then (bndI z2.2.length z2.1 (z2.2.length:Int)).bind λ u7=>(bndI z2.2.length 0 z2.1).bind λ u9=>some (.next (w64 (z2.1+((Nat.min ((z2.2.drop 0).take ((Int.toNat z2.1)-0)).length ((Int.toNat (z2.2.length:Int))-(Int.toNat z2.1))):Int)),(Ts z2.2 (Int.toNat z2.1) ((Int.toNat (z2.2.length:Int))-(Int.toNat z2.1)) ((z2.2.drop 0).take ((Int.toNat z2.1)-0))))) else some (.brk (z2.1,z2.2))
def Ay9 (x0:List Av) (x1:Int):Option ((List Av)):=
 andThen (Ane x1) (λ _=>none) λ z0=>andThen (And x0 x1) (λ _=>none) λ z1=>(mkI 17 (w64 ((Uk (IntKind.wrap .u64 (x0.length:Int)) (IntKind.wrap .u64 x1)).2)) (⟨0,0⟩:Av)).bind λ y3=>andThen (whileN Anf 1152921504606846976 (((Nat.min x0.length y3.length):Int),(Ts y3 0 y3.length x0))) (λ _=>none) λ z2=>some z2.2
def On (x0:Int):Option ((List Av)):=
 (Ay9 [(⟨(-1),(-1)⟩:Av)] x0).bind λ y1=>some y1
def Kx (x0:Int) (x1:Int):Bool:=
 ((decide (x0>=(-1)))&&(decide (x0<=x1)))
def qX (x0:Ai) (x1:Int):Bool:=
 ((x0.Kind==2)&&(x0.B==x1))
def N5 (x1c0:Int) (n0:Nat) (a0:Ai) (z0:Unit):Option (Ctl Unit (Int×Int)):=
 bif qX a0 x1c0 then some (.ret (cnt 0 n0,x1c0)) else some (.next ())
def qY (x0:List Ai) (x1c0:Int):Option (Int×Int):=
 andThen (foldI (N5 x1c0) x0 0 ()) some λ z0=>some ((-1),x1c0)
def U2 (x0:Aa) (x1:Int):Option Int:=
 (qY x0.Ad x1).bind λ y1=>some y1.1
def A5z (x1:A5) (y1:Ah×Bool):Bool:=((!(F49 x1)) || (decide ((y1.1.Ac.length:Int)<2)))
def Aup (x1:A5) (y9:Int) (y11:Bh) (y13:Int):Bool:=decide ((w64 (100*y13))<=(w64 (x1.Stop*(w64 (y9-y11.Rating)))))
def Wm (x0:Aa) (x1:A5) (x2:Ab) (x3:Int) (a0:Int×Int) (z0:Unit):Option (Ctl Unit (Int×Bool)):=
 (U2 x0 a0.2).bind λ y4=>(H_ x2 2 y4).bind λ y6=>bif y6 then some (.next ()) else (Uj x0 x2 x3).bind λ y9=>(getI x0.Ac a0.2).bind λ y11=>(Ui x0 x2 x3).bind λ y13=>bif (Aup x1 y9 y11 y13) then some (.ret (a0.2,true)) else some (.next ())
def Aj3 (x0:Aa) (x1:A5) (x2:Ab) (x3:Int):Option (Int×Bool):=
 (Gg x0 x2 x3).bind λ y1=>bif (A5z x1 y1) then some (0,false) else andThen (foldE (Wm x0 x1 x2 x3) (bw y1.1.Ac) ()) (λ v129_0=>some (v129_0.1,v129_0.2)) λ z0=>some (0,false)
def Aj2 (x0:Aa) (x1:A5) (x2:Ab) (x3:Int):Option Bool:=
 (A3 [(F49 x1,true)] (Y3 x0 x2 x3) default).bind λ y1=>(A3 [(((F49 x1)&&y1),true)] (Ui x0 x2 x3) default).bind λ y3=>(A3 [(((F49 x1)&&y1),true)] (Uj x0 x2 x3) default).bind λ y5=>some (((F49 x1)&&y1)&&(decide ((w64 (100*y3))>(w64 (x1.Start*y5)))))
def Ir (x0:Int) (x1:Bool) (x2:Int):Int:=
 bif !x1 then (-1) else bif (x0==(-1)) then x2 else x0
def Ajt (x0:Aa) (x1:Ab) (x2:Ah) (x3:Int):Option Bool:=
 (U2 x0 x3).bind λ y1=>(getI x0.Ad y1).bind λ y3=>(H_ x1 1 x3).bind λ y5=>(A3 [(y5,false)] (H_ x1 2 y1) default).bind λ y7=>(A3 [((y5 || y7),false)] (H_ x1 3 y3.A) default).bind λ y9=>(A3 [(!((y5 || y7) || y9),true)] (M9 x2.An y3.A) default).bind λ y11=>(A3 [(((!((y5 || y7) || y9))&&y11),true)] (M9 x2.Ac x3) default).bind λ y13=>(A3 [((((!((y5 || y7) || y9))&&y11)&&(!y13)),true)] (getI x1.Ac x3) default).bind λ y15=>some ((((!((y5 || y7) || y9))&&y11)&&(!y13))&&(y15.State != 3))
def zN (x0:Aa) (x1:Ab) (y1:Ah×Bool) (a0:Int) (n1:Nat) (a1:Af) (z1:Unit):Option (Ctl Unit (Int×Bool)):=
 (A3 [((a1.State==a0),true)] (Ajt x0 x1 y1.1 (cnt 0 n1)) default).bind λ y4=>bif ((a1.State==a0)&&y4) then some (.ret (cnt 0 n1,true)) else some (.next ())
def zO (x0:Aa) (x1:Ab) (y1:Ah×Bool) (n0:Nat) (a0:Int) (z0:Unit):Option (Ctl Unit (Int×Bool)):=
 andThen (foldI (zN x0 x1 y1 a0) x1.Ac 0 ()) (λ v=>some (.ret v)) λ z1=>some (.next ())
def Aj1 (x0:Aa) (x1:Ab) (x2:Int):Option (Int×Bool):=
 (Gg x0 x1 x2).bind λ y1=>bif !y1.2 then some (0,false) else andThen (foldI (zO x0 x1 y1) [2,1,0] 0 ()) some λ z0=>some (0,false)
def U3 (x0:Aa) (x1:Ab) (x2:Int) (x3:Int):Option ((List Ao)×Bool):=
 (getI x1.Ac x3).bind λ y1=>bif (y1.State==0) then some ([(⟨3,x3,0⟩:Ao)],false) else bif (y1.State==2) then (Uh x0 x1 x2).bind λ y5=>(zG x0 x1 y5.1).bind λ y7=>(U2 x0 x3).bind λ y9=>some ([(⟨6,x3,y7.1⟩:Ao),(⟨1,y9,0⟩:Ao)],true) else some ([],false)
def Ahk (x1:A5) (x4:Int) (x5:Av):Bool:=(((((!(F49 x1)) || (decide (x4<0))) || (decide (x4>2147483648))) || (!(Kx x5.High x4))) || (!(Kx x5.Low x4)))
def Ahj (x0:Aa) (x3:Int):Bool:=((decide (x3<0)) || (decide (x3>=x0.An)))
def Ahi (x1:A5) (x4:Int) (x5:Av) (y8:Bool) (y10:Int×Bool):Bool:=((y10.2&&((Ir x5.High y8 x4) != (-1)))&&(decide ((w64 (x4-(Ir x5.High y8 x4)))>=x1.Delay)))
def U7 (x4:Int) (x5:Av) (y8:Bool) (y13:(List Ao)×Bool):Option (Ctl Int Unit):=
 bif y13.2 then some (.next (-1)) else some (.next (Ir x5.High y8 x4))
def Ahh (x1:A5) (x4:Int) (x5:Av) (y6:Int×Bool):Bool:=(((Ir x5.Low y6.2 x4) != (-1))&&(decide ((w64 (x4-(Ir x5.Low y6.2 x4)))>=x1.Delay)))
def U8 (x0:Aa) (x1:A5) (x2:Ab) (x3:Int) (x4:Int) (x5:Av):Option (Av×(List Ao)×Int):=
 (F65 x0 x2).bind λ y1=>bif (y1 != 0) then some ((⟨0,0⟩:Av),[],y1) else bif (Ahk x1 x4 x5) then some ((⟨0,0⟩:Av),[],1) else bif (Ahj x0 x3) then some ((⟨0,0⟩:Av),[],10) else (Aj3 x0 x1 x2 x3).bind λ y6=>(Aj2 x0 x1 x2 x3).bind λ y8=>(Aj1 x0 x2 x3).bind λ y10=>bif (Ahi x1 x4 x5 y8 y10) then (U3 x0 x2 x3 y10.1).bind λ y13=>andThen (U7 x4 x5 y8 y13) (λ _=>none) λ z0=>some ((⟨z0,Ir x5.Low y6.2 x4⟩:Av),y13.1,0) else bif (Ahh x1 x4 x5 y6) then (U2 x0 y6.1).bind λ y17=>some ((⟨Ir x5.High y8 x4,(-1)⟩:Av),[(⟨2,y17,0⟩:Ao),(⟨4,y6.1,0⟩:Ao)],0) else some ((⟨Ir x5.High y8 x4,Ir x5.Low y6.2 x4⟩:Av),[],0)
def A2b (a0:Ah) (y7:Bool):Bool:=(((a0.Ac.length:Int)==0) || (!y7))
def Q9 (n1:Nat) (a1:Ao) (z1:K_):Option (Ctl (K_) Unit):=
 (Wg (⟨(⟨z1.1,(⟨z1.2.2.2.2.2.2.2.1,z1.2.2.2.2.2.2.2.2.1,z1.2.2.2.2.2.2.2.2.2.1,z1.2.2.2.2.2.2.2.2.2.2.1⟩:Ab),z1.2.2.2.2.2.2.2.2.2.2.2.1,z1.2.2.2.2.2.2.2.2.2.2.2.2.1⟩:Ar),(⟨z1.2.1,z1.2.2.1,z1.2.2.2.1,z1.2.2.2.2.1,z1.2.2.2.2.2.1,z1.2.2.2.2.2.2.1⟩:Aa),z1.2.2.2.2.2.2.2.2.2.2.2.2.2.1,z1.2.2.2.2.2.2.2.2.2.2.2.2.2.2⟩:A4) a1).bind λ y18=>some (.next (y18.A0.Time,y18.Al.An,y18.Al.Ad,y18.Al.Ac,y18.Al.Ae,y18.Al.Phase,y18.Al.Aq,y18.A0.Power.Ag,y18.A0.Power.Ac,y18.A0.Power.Ap,y18.A0.Power.Am,y18.A0.A2,y18.A0.A8,y18.events,y18.states))
def Yu (x1:A5) (n0:Nat) (a0:Ah) (z0:yS):Option (Ctl (yS) Unit):=
 (getI a0.An 0).bind λ y5=>(A3 [(((a0.Ac.length:Int)==0),false)] (Y3 (⟨z0.2.1,z0.2.2.1,z0.2.2.2.1,z0.2.2.2.2.1,z0.2.2.2.2.2.1,z0.2.2.2.2.2.2.1⟩:Aa) (⟨z0.2.2.2.2.2.2.2.2.1,z0.2.2.2.2.2.2.2.2.2.1,z0.2.2.2.2.2.2.2.2.2.2.1,z0.2.2.2.2.2.2.2.2.2.2.2.1⟩:Ab) y5) default).bind λ y7=>bif (A2b a0 y7) then some (.next (z0.1,z0.2.1,z0.2.2.1,z0.2.2.2.1,z0.2.2.2.2.1,z0.2.2.2.2.2.1,z0.2.2.2.2.2.2.1,z0.2.2.2.2.2.2.2.1,z0.2.2.2.2.2.2.2.2.1,z0.2.2.2.2.2.2.2.2.2.1,z0.2.2.2.2.2.2.2.2.2.2.1,z0.2.2.2.2.2.2.2.2.2.2.2.1,z0.2.2.2.2.2.2.2.2.2.2.2.2.1,z0.2.2.2.2.2.2.2.2.2.2.2.2.2.1,z0.2.2.2.2.2.2.2.2.2.2.2.2.2.2.1,z0.2.2.2.2.2.2.2.2.2.2.2.2.2.2.2)) else (getI z0.2.2.2.2.2.2.2.2.2.2.2.2.1 y5).bind λ y10=>(U8 (⟨z0.2.1,z0.2.2.1,z0.2.2.2.1,z0.2.2.2.2.1,z0.2.2.2.2.2.1,z0.2.2.2.2.2.2.1⟩:Aa) x1 (⟨z0.2.2.2.2.2.2.2.2.1,z0.2.2.2.2.2.2.2.2.2.1,z0.2.2.2.2.2.2.2.2.2.2.1,z0.2.2.2.2.2.2.2.2.2.2.2.1⟩:Ab) y5 z0.1 y10).bind λ y12=>(getI z0.2.2.2.2.2.2.2.1 y5).bind λ y14=>(setI z0.2.2.2.2.2.2.2.1 y5 y12.1).bind λ y16=>andThen (foldI Q9 y12.2.1 0 (z0.1,z0.2.1,z0.2.2.1,z0.2.2.2.1,z0.2.2.2.2.1,z0.2.2.2.2.2.1,z0.2.2.2.2.2.2.1,z0.2.2.2.2.2.2.2.2.1,z0.2.2.2.2.2.2.2.2.2.1,z0.2.2.2.2.2.2.2.2.2.2.1,z0.2.2.2.2.2.2.2.2.2.2.2.1,z0.2.2.2.2.2.2.2.2.2.2.2.2.1,z0.2.2.2.2.2.2.2.2.2.2.2.2.2.1,z0.2.2.2.2.2.2.2.2.2.2.2.2.2.2.1,z0.2.2.2.2.2.2.2.2.2.2.2.2.2.2.2)) (λ _=>none) λ z1=>some (.next (z1.1,z1.2.1,z1.2.2.1,z1.2.2.2.1,z1.2.2.2.2.1,z1.2.2.2.2.2.1,z1.2.2.2.2.2.2.1,y16,z1.2.2.2.2.2.2.2.1,z1.2.2.2.2.2.2.2.2.1,z1.2.2.2.2.2.2.2.2.2.1,z1.2.2.2.2.2.2.2.2.2.2.1,z1.2.2.2.2.2.2.2.2.2.2.2.1,z1.2.2.2.2.2.2.2.2.2.2.2.2.1,z1.2.2.2.2.2.2.2.2.2.2.2.2.2.1,z1.2.2.2.2.2.2.2.2.2.2.2.2.2.2))
def qJ (x0:A4) (x1:A5):Option A4:=
 (On x0.Al.An).bind λ y1=>(Adi x0.Al x0.A0.Power).bind λ y3=>andThen (foldI (Yu x1) y3 0 (x0.A0.Time,x0.Al.An,x0.Al.Ad,x0.Al.Ac,x0.Al.Ae,x0.Al.Phase,x0.Al.Aq,y1,x0.A0.Power.Ag,x0.A0.Power.Ac,x0.A0.Power.Ap,x0.A0.Power.Am,x0.A0.A2,x0.A0.A8,x0.events,x0.states)) (λ _=>none) λ z0=>some (⟨(⟨z0.1,(⟨z0.2.2.2.2.2.2.2.2.1,z0.2.2.2.2.2.2.2.2.2.1,z0.2.2.2.2.2.2.2.2.2.2.1,z0.2.2.2.2.2.2.2.2.2.2.2.1⟩:Ab),z0.2.2.2.2.2.2.2.1,z0.2.2.2.2.2.2.2.2.2.2.2.2.2.1⟩:Ar),(⟨z0.2.1,z0.2.2.1,z0.2.2.2.1,z0.2.2.2.2.1,z0.2.2.2.2.2.1,z0.2.2.2.2.2.2.1⟩:Aa),z0.2.2.2.2.2.2.2.2.2.2.2.2.2.2.1,z0.2.2.2.2.2.2.2.2.2.2.2.2.2.2.2⟩:A4)
def qK (x0:A4) (x1:Ab):Option A4:=
 (F66 x0.A0.Power).bind λ y3=>(appI 97 x0.states [y3]).bind λ y5=>some (⟨x0.A0,x0.Al,x0.events,y5⟩:A4)
def Awm (n0:Nat) (a0:Ao) (z0:K_):Option (Ctl (K_) Unit):=
 (Wg (⟨(⟨z0.1,(⟨z0.2.2.2.2.2.2.2.1,z0.2.2.2.2.2.2.2.2.1,z0.2.2.2.2.2.2.2.2.2.1,z0.2.2.2.2.2.2.2.2.2.2.1⟩:Ab),z0.2.2.2.2.2.2.2.2.2.2.2.1,z0.2.2.2.2.2.2.2.2.2.2.2.2.1⟩:Ar),(⟨z0.2.1,z0.2.2.1,z0.2.2.2.1,z0.2.2.2.2.1,z0.2.2.2.2.2.1,z0.2.2.2.2.2.2.1⟩:Aa),z0.2.2.2.2.2.2.2.2.2.2.2.2.2.1,z0.2.2.2.2.2.2.2.2.2.2.2.2.2.2⟩:A4) a0).bind λ y10=>some (.next (y10.A0.Time,y10.Al.An,y10.Al.Ad,y10.Al.Ac,y10.Al.Ae,y10.Al.Phase,y10.Al.Aq,y10.A0.Power.Ag,y10.A0.Power.Ac,y10.A0.Power.Ap,y10.A0.Power.Am,y10.A0.A2,y10.A0.A8,y10.events,y10.states))
def F53 (x0:Aa) (x1:A5) (x2:Ar) (x3:List Ao):Option (A4×Int):=
 (F29 x0 x1 x2).bind λ y1=>bif (y1 != 0) then none else bif decide ((x3.length:Int)>200) then none else bif (x2.Time==2147483648) then none else (F74 x0 x2).bind λ y6=>(qL y6 x2.Power).bind λ y8=>andThen (foldI Awm x3 0 (y8.A0.Time,y8.Al.An,y8.Al.Ad,y8.Al.Ac,y8.Al.Ae,y8.Al.Phase,y8.Al.Aq,y8.A0.Power.Ag,y8.A0.Power.Ac,y8.A0.Power.Ap,y8.A0.Power.Am,y8.A0.A2,y8.A0.A8,y8.events,y8.states)) (λ _=>none) λ z0=>(qJ (⟨(⟨z0.1,(⟨z0.2.2.2.2.2.2.2.1,z0.2.2.2.2.2.2.2.2.1,z0.2.2.2.2.2.2.2.2.2.1,z0.2.2.2.2.2.2.2.2.2.2.1⟩:Ab),z0.2.2.2.2.2.2.2.2.2.2.2.1,z0.2.2.2.2.2.2.2.2.2.2.2.2.1⟩:Ar),(⟨z0.2.1,z0.2.2.1,z0.2.2.2.1,z0.2.2.2.2.1,z0.2.2.2.2.2.1,z0.2.2.2.2.2.2.1⟩:Aa),z0.2.2.2.2.2.2.2.2.2.2.2.2.2.1,z0.2.2.2.2.2.2.2.2.2.2.2.2.2.2⟩:A4) x1).bind λ y12=>(F78 x0 y12.A0.Power y12.A0.Time (⟨7,0,0⟩:Ao)).bind λ y14=>(qK (⟨(⟨y12.A0.Time,y14.1,y12.A0.A2,y12.A0.A8⟩:Ar),y12.Al,y12.events,y12.states⟩:A4) y14.1).bind λ y16=>(appI 41 y16.A0.A8 y16.events).bind λ y18=>(cutI y18 (max 0 (w64 ((y18.length:Int)-200))) (y18.length:Int)).bind λ y21=>(F79 y21).bind λ y22=>some ((⟨(⟨w64 (y16.A0.Time+1),y16.A0.Power,y16.A0.A2,y22⟩:Ar),y16.Al,y16.events,y16.states⟩:A4),0)
def F31 (x0:Aa) (x1:A5) (x2:Ar) (x3:List Ao):Option (Ar×(List A6)×Int):=
 (F53 x0 x1 x2 x3).bind λ y1=>bif (y1.2 != 0) then some ((⟨0,(⟨([]:List Bool),([]:List Af),([]:List Int),([]:List Ak)⟩:Ab),([]:List Av),([]:List A6)⟩:Ar),([]:List A6),y1.2) else some (y1.1.A0,y1.1.events,0)
def F42:Int:=
 14695981039346656037
def F22 (x0:Ar):Option ByteArray:=
 O2 ([[x0.Time],x0.Power.Ag.map Du]++x0.Power.Ac.map (λ s=>[s.State,s.Since,s.Aq,s.Phase])++[x0.Power.Ap]++x0.Power.Am.map (λ s=>[s.Kind,s.Number])++x0.A2.map (λ s=>[s.High,s.Low]))
def Awn (n0:Nat) (a0:Int) (z0:Int):Option (Ctl Int Unit):=
 some (.next (IntKind.wrap .u64 ((Awt .u64 z0 (IntKind.wrap .u64 a0))*1099511628211)))
def F41 (x0:Int) (x1:ByteArray):Option Int:=
 (Ty x1).bind λ y1=>andThen (foldI Awn y1 0 x0) (λ _=>none) λ z0=>some z0
def F23 (x0:Ar):Option Int:=
 (F22 x0).bind λ y1=>(F41 F42 y1).bind λ y3=>some y3
def Ao6 (x3:List (List Ao)) (x4:Int):Bool:=((decide (x4<0)) || (decide (x4>(x3.length:Int))))
def Ao5 (x3:List (List Ao)) (x4:Int) (z0:Sg1):Bool:=decide (z0.1<(w64 ((x3.length:Int)-x4)))
def Aju (x0:Aa) (x1:A5) (x3:List (List Ao)) (x4:Int) (z0:Sg1):Option (Ctl (Sg1) ((List Int)×Ar×Int)):=
 bif (Ao5 x3 x4 z0) then (getI x3 (w64 (x4+z0.1))).bind λ y9=>(F31 x0 x1 (⟨z0.2.2.2.2.2.2.2.1,(⟨z0.2.1,z0.2.2.1,z0.2.2.2.1,z0.2.2.2.2.1⟩:Ab),z0.2.2.2.2.2.1,z0.2.2.2.2.2.2.1⟩:Ar) y9).bind λ y11=>bif (y11.2.2 != 0) then some (.ret (([]:List Int),(⟨0,(⟨([]:List Bool),([]:List Af),([]:List Int),([]:List Ak)⟩:Ab),([]:List Av),([]:List A6)⟩:Ar),y11.2.2)) else (F23 y11.1).bind λ y14=>(appI 9 z0.2.2.2.2.2.2.2.2 [y14]).bind λ y16=>some (.next (w64 (z0.1+1),y11.1.Power.Ag,y11.1.Power.Ac,y11.1.Power.Ap,y11.1.Power.Am,y11.1.A2,y11.1.A8,y11.1.Time,y16)) else some (.brk (z0.1,z0.2.1,z0.2.2.1,z0.2.2.2.1,z0.2.2.2.2.1,z0.2.2.2.2.2.1,z0.2.2.2.2.2.2.1,z0.2.2.2.2.2.2.2.1,z0.2.2.2.2.2.2.2.2))
def F15 (x0:Aa) (x1:A5) (x2:Ar) (x3:List (List Ao)) (x4:Int):Option ((List Int)×Ar×Int):=
 bif (Ao6 x3 x4) then some (([]:List Int),(⟨0,(⟨([]:List Bool),([]:List Af),([]:List Int),([]:List Ak)⟩:Ab),([]:List Av),([]:List A6)⟩:Ar),1) else bif decide ((x3.length:Int)>60) then some (([]:List Int),(⟨0,(⟨([]:List Bool),([]:List Af),([]:List Int),([]:List Ak)⟩:Ab),([]:List Av),([]:List A6)⟩:Ar),2) else (F29 x0 x1 x2).bind λ y3=>bif (y3 != 0) then some (([]:List Int),(⟨0,(⟨([]:List Bool),([]:List Af),([]:List Int),([]:List Ak)⟩:Ab),([]:List Av),([]:List A6)⟩:Ar),y3) else (F30 x2).bind λ y6=>andThen (whileN (Aju x0 x1 x3 x4) 1152921504606846976 (0,y6.Power.Ag,y6.Power.Ac,y6.Power.Ap,y6.Power.Am,y6.A2,y6.A8,y6.Time,([]:List Int))) some λ z0=>some (z0.2.2.2.2.2.2.2.2,(⟨z0.2.2.2.2.2.2.2.1,(⟨z0.2.1,z0.2.2.1,z0.2.2.2.1,z0.2.2.2.2.1⟩:Ab),z0.2.2.2.2.2.1,z0.2.2.2.2.2.2.1⟩:Ar),0)
def F14 (x0:Aa) (x1:A5) (x2:Ar) (x3:List (List Ao)):Option ((List Int)×Ar×Int):=
 (F15 x0 x1 x2 x3 0).bind λ y1=>some (y1.1,y1.2.1,y1.2.2)
def A7k (x0:List Int) (x1:List Int) (z0:Int):Bool:=decide (z0<(max (x0.length:Int) (x1.length:Int)))
def A7j (x0:List Int) (x1:List Int) (z0:Int) (y2:Int) (y4:Int):Bool:=(((decide (z0>=(x0.length:Int))) || (decide (z0>=(x1.length:Int)))) || (y2 != y4))
def Awo (x0:List Int) (x1:List Int) (z0:Int):Option (Ctl Int Int):=
 bif (A7k x0 x1 z0) then (A3 [(((decide (z0>=(x0.length:Int))) || (decide (z0>=(x1.length:Int)))),false)] (getI x0 z0) default).bind λ y2=>(A3 [(((decide (z0>=(x0.length:Int))) || (decide (z0>=(x1.length:Int)))),false)] (getI x1 z0) default).bind λ y4=>bif (A7j x0 x1 z0 y2 y4) then some (.ret z0) else some (.next (w64 (z0+1))) else some (.brk z0)
def F25 (x0:List Int) (x1:List Int):Option Int:=
 andThen (whileN (Awo x0 x1) 1152921504606846976 0) some λ z0=>some (-1)
def F18 (x0:Aa) (x1:A5) (x2:Ar) (x3:List (List Ao)) (x4:List (List Ao)):Option (Int×Int):=
 (F14 x0 x1 x2 x3).bind λ y1=>bif (y1.2.2 != 0) then none else (F14 x0 x1 x2 x4).bind λ y4=>bif (y4.2.2 != 0) then none else (F25 y1.1 y4.1).bind λ y7=>some (y7,0)
def F8:Option Bool:=
 (F24 (⟨1,[(⟨2,0,0⟩:Ai)],[(⟨10,0,0⟩:Bh)],[],0,0⟩:Aa) (⟨80,10,1⟩:A5)).bind λ y1=>(F18 (⟨1,[(⟨2,0,0⟩:Ai)],[(⟨10,0,0⟩:Bh)],[],0,0⟩:Aa) (⟨80,10,1⟩:A5) y1.1 [([]:List Ao),([]:List Ao),([]:List Ao),[(⟨3,0,0⟩:Ao)],([]:List Ao)] [([]:List Ao),([]:List Ao),([]:List Ao),([]:List Ao),([]:List Ao)]).bind λ y3=>(A3 [((((y1.2==0)&&(y3.2==0))&&(y3.1==3)),true)] (F22 y1.1) default).bind λ y5=>(A3 [(((((y1.2==0)&&(y3.2==0))&&(y3.1==3))&&(y5.toList==(⟨#[48,10,48,10,48,32,48,32,53,48,48,48,32,48,10,10,45,49,32,45,49,10]⟩:ByteArray).toList)),true)] (F25 [1,2] [1,3]) default).bind λ y7=>(A3 [((((((y1.2==0)&&(y3.2==0))&&(y3.1==3))&&(y5.toList==(⟨#[48,10,48,10,48,32,48,32,53,48,48,48,32,48,10,10,45,49,32,45,49,10]⟩:ByteArray).toList))&&(y7==1)),true)] (F25 [1] [1]) default).bind λ y9=>some ((((((y1.2==0)&&(y3.2==0))&&(y3.1==3))&&(y5.toList==(⟨#[48,10,48,10,48,32,48,32,53,48,48,48,32,48,10,10,45,49,32,45,49,10]⟩:ByteArray).toList))&&(y7==1))&&(y9==(-1)))
def F9 (x0:List Int):Option Aj:=
 (cutI x0 0 (min (x0.length:Int) 600)).bind λ y2=>some (⟨y2,0⟩:Aj)
def F35 (x0:Int) (x1:Int):Option Int:=
 bif decide (x1<1) then some 0 else (nzI x1).bind λ u3=>(nzI x1).bind λ u5=>some (Int.tmod (w64 ((Int.tmod x0 x1)+x1)) x1)
def F19 (x0:Aj) (x1:Int):Option (Int×Aj):=
 bif decide (x0.At>=(x0.L.length:Int)) then some (0,x0) else (getI x0.L (w64 ((w64 (x0.At+1))-1))).bind λ y2=>(F35 y2 x1).bind λ y4=>some (y4,(⟨x0.L,w64 (x0.At+1)⟩:Aj))
def F26 (x0:Aj) (x1:Int) (x2:Int):Option (Int×Aj):=
 (F19 x0 (w64 ((w64 (x2-x1))+1))).bind λ y1=>some (w64 (x1+y1.1),y1.2)
def F27 (x0:Aj) (x1:List Int):Option (Int×Aj):=
 (F19 x0 (x1.length:Int)).bind λ y1=>(getI x1 y1.1).bind λ y3=>some (y3,y1.2)
def uG (y1:Int×Aj) (z0:Sg2):Option (Ctl (Sg2) Unit):=
 bif decide (z0.1<y1.1) then (F19 (⟨z0.2.1,z0.2.2.1⟩:Aj) 6).bind λ y8=>bif decide (y8.1<5) then (F19 y8.2 z0.1).bind λ y11=>(appI 25 z0.2.2.2 [(⟨1,y11.1,z0.1⟩:Ai)]).bind λ y13=>some (.next (w64 (z0.1+1),y11.2.L,y11.2.At,y13)) else some (.next (w64 (z0.1+1),y8.2.L,y8.2.At,z0.2.2.2)) else some (.brk (z0.1,z0.2.1,z0.2.2.1,z0.2.2.2))
def Aj7 (y1:Int×Aj) (z0:Sg2) (y15:Int×Aj):Option (Ctl ((List Ai)) Unit):=
 bif ((decide (y1.1>2))&&(y15.1==1)) then (appI 25 z0.2.2.2 [(⟨1,0,w64 (y1.1-1)⟩:Ai)]).bind λ y18=>some (.next y18) else some (.next z0.2.2.2)
def uF (y1:Int×Aj) (z2:Sg4):Option (Ctl (Sg4) Unit):=
 bif decide (z2.1>0) then (F19 (⟨z2.2.1,z2.2.2.1⟩:Aj) y1.1).bind λ y23=>(appI 25 z2.2.2.2.1 [(⟨2,y23.1,(z2.2.2.2.2.length:Int)⟩:Ai)]).bind λ y25=>(F27 y23.2 [10,50,100]).bind λ y27=>(F27 y27.2 [0,5,y27.1]).bind λ y29=>(F27 y29.2 [0,1,3]).bind λ y31=>(appI 25 z2.2.2.2.2 [(⟨y27.1,y29.1,y31.1⟩:Bh)]).bind λ y33=>some (.next (w64 (z2.1-1),y31.2.L,y31.2.At,y25,y33)) else some (.brk (z2.1,z2.2.1,z2.2.2.1,z2.2.2.2.1,z2.2.2.2.2))
def Aj6 (y1:Int×Aj) (z3:Sg3) (y38:Int×Aj) (y40:List Ai) (y42:Int×Aj):Option (Ctl ((List Ai)) Unit):=
 bif ((decide (y1.1>1))&&(y42.1==3)) then (nzI y1.1).bind λ u46=>(appI 25 y40 [(⟨3,Int.tmod (w64 (y38.1+1)) y1.1,(z3.2.2.2.2.length:Int)⟩:Ai)]).bind λ y47=>some (.next y47) else some (.next y40)
def A0q (z3:Sg3) (y57:Int×Aj):Bool:=((decide ((z3.2.2.2.2.length:Int)>0))&&(y57.1==3))
def uE (y1:Int×Aj) (z3:Sg3):Option (Ctl (Sg3) Unit):=
 bif decide (z3.1>0) then (F19 (⟨z3.2.1,z3.2.2.1⟩:Aj) y1.1).bind λ y38=>(appI 25 z3.2.2.2.1 [(⟨3,y38.1,(z3.2.2.2.2.length:Int)⟩:Ai)]).bind λ y40=>(A3 [(decide (y1.1>1),true)] (F19 y38.2 4) (default,y38.2)).bind λ y42=>andThen (Aj6 y1 z3 y38 y40 y42) (λ _=>none) λ z4=>(F27 y42.2 [0,5,20,40]).bind λ y49=>(F27 y49.2 [0,w64 (Int.tdiv y49.1 2),y49.1]).bind λ y51=>(F19 y51.2 3).bind λ y53=>(F26 y53.2 (-1) 2).bind λ y55=>(A3 [(decide ((z3.2.2.2.2.length:Int)>0),true)] (F19 y55.2 4) (default,y55.2)).bind λ y57=>bif (A0q z3 y57) then (F19 y57.2 (z3.2.2.2.2.length:Int)).bind λ y60=>(appI 57 z3.2.2.2.2 [(⟨y49.1,y51.1,y53.1,y55.1,[y60.1]⟩:A7)]).bind λ y62=>some (.next (w64 (z3.1-1),y60.2.L,y60.2.At,z4,y62)) else (appI 57 z3.2.2.2.2 [(⟨y49.1,y51.1,y53.1,y55.1,([]:List Int)⟩:A7)]).bind λ y64=>some (.next (w64 (z3.1-1),y57.2.L,y57.2.At,z4,y64)) else some (.brk (z3.1,z3.2.1,z3.2.2.1,z3.2.2.2.1,z3.2.2.2.2))
def F10 (x0:Aj):Option (Aa×Aj):=
 (F26 x0 1 4).bind λ y1=>(F27 y1.2 [0,50,200,1800]).bind λ y3=>(F27 y3.2 [0,10,50]).bind λ y5=>andThen (whileN (uG y1) 1152921504606846976 (1,y5.2.L,y5.2.At,([]:List Ai))) (λ _=>none) λ z0=>(A3 [(decide (y1.1>2),true)] (F19 (⟨z0.2.1,z0.2.2.1⟩:Aj) 2) (default,(⟨z0.2.1,z0.2.2.1⟩:Aj))).bind λ y15=>andThen (Aj7 y1 z0 y15) (λ _=>none) λ z1=>(F19 y15.2 5).bind λ y20=>andThen (whileN (uF y1) 1152921504606846976 (y20.1,y20.2.L,y20.2.At,z1,([]:List Bh))) (λ _=>none) λ z2=>(F19 (⟨z2.2.1,z2.2.2.1⟩:Aj) 6).bind λ y35=>andThen (whileN (uE y1) 1152921504606846976 (y35.1,y35.2.L,y35.2.At,z2.2.2.2.1,([]:List A7))) (λ _=>none) λ z3=>some ((⟨y1.1,z3.2.2.2.1,z2.2.2.2.2,z3.2.2.2.2,y3.1,y5.1⟩:Aa),(⟨z3.2.1,z3.2.2.1⟩:Aj))
def F11 (x0:Aj):Option (A5×Aj):=
 (F27 x0 [60,80,100]).bind λ y1=>(F27 y1.2 [1,30,50]).bind λ y3=>(F27 y3.2 [0,1,3]).bind λ y5=>some ((⟨y1.1,y3.1,y5.1⟩:A5),y5.2)
def F64 (x0:Aa) (x1:Ak):Bool:=
 bif (x1.Kind==1) then F82 x1.Number 0 (w64 ((x0.Ac.length:Int)-1)) else bif (x1.Kind==2) then F82 x1.Number 0 (w64 ((x0.Ad.length:Int)-1)) else bif (x1.Kind==3) then F82 x1.Number 0 (w64 (x0.An-1)) else bif (x1.Kind==4) then F82 x1.Number 0 (w64 ((x0.Ae.length:Int)-1)) else false
def Amg (x1:Aa) (z0:Int×(List Int)×Int×(List Bool)):Bool:=decide (z0.1<(x1.Ad.length:Int))
def Ri (x1:Aa) (z0:Int×(List Int)×Int×(List Bool)):Option (Ctl (Int×(List Int)×Int×(List Bool)) Unit):=
 bif (Amg x1 z0) then (F19 (⟨z0.2.1,z0.2.2.1⟩:Aj) 2).bind λ y2=>(appI 2 z0.2.2.2 [(y2.1==1)]).bind λ y4=>some (.next (w64 (z0.1+1),y2.2.L,y2.2.At,y4)) else some (.brk (z0.1,z0.2.1,z0.2.2.1,z0.2.2.2))
def Amf (x1:Aa) (z1:Int×(List Bool)):Bool:=decide (z1.1<(x1.Ae.length:Int))
def Ahc (z1:Int×(List Bool)) (a2:Ai) (y7:Bool):Bool:=(((a2.Kind==3)&&(a2.B==z1.1))&&y7)
def Rf (z1:Int×(List Bool)) (n2:Nat) (a2:Ai) (z2:Bool×(List Bool)):Option (Ctl (Bool×(List Bool)) Unit):=
 (A3 [(((a2.Kind==3)&&(a2.B==z1.1)),true)] (getI z2.2 (cnt 0 n2)) default).bind λ y7=>bif (Ahc z1 a2 y7) then (getI z2.2 (cnt 0 n2)).bind λ y10=>(setI z2.2 (cnt 0 n2) z2.1).bind λ y12=>some (.next (false,y12)) else some (.next (z2.1,z2.2))
def Rh (x1:Aa) (z1:Int×(List Bool)):Option (Ctl (Int×(List Bool)) Unit):=
 bif (Amf x1 z1) then andThen (foldI (Rf z1) x1.Ad 0 (true,z1.2)) (λ _=>none) λ z2=>some (.next (w64 (z1.1+1),z2.2)) else some (.brk (z1.1,z1.2))
def Ahb (x1:Aa) (z3:Sg6):Bool:=decide (z3.1<(x1.Ac.length:Int))
def Re (x1:Aa) (z3:Sg6):Option (Ctl (Sg6) Unit):=
 bif (Ahb x1 z3) then (F27 (⟨z3.2.1,z3.2.2.1⟩:Aj) [0,1,2,2,2,3]).bind λ y15=>(F19 y15.2 5).bind λ y17=>(F27 y17.2 [5000,5000,5005,4950]).bind λ y19=>(F27 y19.2 [0,0,40,1800,3590]).bind λ y21=>(appI 33 z3.2.2.2 [(⟨y15.1,y17.1,y19.1,y21.1⟩:Af)]).bind λ y23=>some (.next (w64 (z3.1+1),y21.2.L,y21.2.At,y23)) else some (.brk (z3.1,z3.2.1,z3.2.2.1,z3.2.2.2))
def Rc (n4:Nat) (a4:A7) (z4:(List Int)×Int×(List Int)):Option (Ctl ((List Int)×Int×(List Int)) Unit):=
 (F27 (⟨z4.1,z4.2.1⟩:Aj) [a4.Load,a4.Load,a4.Least,w64 (Int.tdiv a4.Load 3)]).bind λ y25=>(appI 9 z4.2.2 [y25.1]).bind λ y27=>some (.next (y25.2.L,y25.2.At,y27))
def Rb (x1:Aa) (z5:Int×(List Int)×Int×(List Ak)):Option (Ctl (Int×(List Int)×Int×(List Ak)) Unit):=
 bif decide (z5.1<=4) then (F19 (⟨z5.2.1,z5.2.2.1⟩:Aj) 5).bind λ y30=>bif (y30.1==4) then (F19 y30.2 4).bind λ y33=>bif F64 x1 (⟨z5.1,y33.1⟩:Ak) then (appI 17 z5.2.2.2 [(⟨z5.1,y33.1⟩:Ak)]).bind λ y36=>some (.next (w64 (z5.1+1),y33.2.L,y33.2.At,y36)) else some (.next (w64 (z5.1+1),y33.2.L,y33.2.At,z5.2.2.2)) else some (.next (w64 (z5.1+1),y30.2.L,y30.2.At,z5.2.2.2)) else some (.brk (z5.1,z5.2.1,z5.2.2.1,z5.2.2.2))
def Wh (x0:Aj) (x1:Aa):Option (Ab×Aj):=
 andThen (whileN (Ri x1) 1152921504606846976 (0,x0.L,x0.At,([]:List Bool))) (λ _=>none) λ z0=>andThen (whileN (Rh x1) 1152921504606846976 (0,z0.2.2.2)) (λ _=>none) λ z1=>andThen (whileN (Re x1) 1152921504606846976 (0,z0.2.1,z0.2.2.1,([]:List Af))) (λ _=>none) λ z3=>andThen (foldI Rc x1.Ae 0 (z3.2.1,z3.2.2.1,([]:List Int))) (λ _=>none) λ z4=>andThen (whileN (Rb x1) 7 (1,z4.1,z4.2.1,([]:List Ak))) (λ _=>none) λ z5=>some ((⟨z1.2,z3.2.2.2,z4.2.2,z5.2.2.2⟩:Ab),(⟨z5.2.1,z5.2.2.1⟩:Aj))
def F84 (x0:Ak) (x1:Ak):Bool:=
 ((decide (x0.Kind<x1.Kind)) || ((x0.Kind==x1.Kind)&&(decide (x0.Number<x1.Number))))
def Az7 (x0:Aa) (x1:Ab):Bool:=((((x1.Ag.length:Int) != (x0.Ad.length:Int)) || ((x1.Ac.length:Int) != (x0.Ac.length:Int))) || ((x1.Ap.length:Int) != (x0.Ae.length:Int)))
def Az6 (a0:Af):Bool:=((((!(F82 a0.State 0 3)) || (!(F82 a0.Since 0 2147483648))) || (!(F82 a0.Aq 0 6000))) || (!(F82 a0.Phase 0 3599)))
def Ai9 (n0:Nat) (a0:Af) (z0:Unit):Option (Ctl Unit Int):=
 bif (Az6 a0) then some (.ret 11) else some (.next ())
def Ai8 (x0:Aa) (n1:Nat) (a1:Int) (z1:Unit):Option (Ctl Unit Int):=
 (getI x0.Ae (cnt 0 n1)).bind λ y6=>bif !(F82 a1 0 y6.Load) then some (.ret 11) else some (.next ())
def Az5 (x0:Aa) (n2:Nat) (a2:Ak) (y10:Ak):Bool:=((!(F64 x0 a2)) || ((decide ((cnt 0 n2)>0))&&(!(F84 y10 a2))))
def Ai7 (x0:Aa) (x1:Ab) (n2:Nat) (a2:Ak) (z2:Unit):Option (Ctl Unit Int):=
 (A3 [(!(F64 x0 a2),false),(decide ((cnt 0 n2)>0),true)] (getI x1.Am (w64 ((cnt 0 n2)-1))) default).bind λ y10=>bif (Az5 x0 n2 a2 y10) then some (.ret 11) else some (.next ())
def Az4 (x0:Aa) (z3:Int):Bool:=decide (z3<(x0.Ae.length:Int))
def Ai5 (x1:Ab) (n4:Nat) (a4:Int) (z4:Int):Option (Ctl Int Unit):=
 (getI x1.Ag a4).bind λ y16=>bif y16 then some (.next (w64 (z4+1))) else some (.next z4)
def Ai6 (x0:Aa) (x1:Ab) (z3:Int):Option (Ctl Int Int):=
 bif (Az4 x0 z3) then (F83 x0 3 z3).bind λ y14=>andThen (foldI (Ai5 x1) y14 0 0) (λ _=>none) λ z4=>bif decide (z4>1) then some (.ret 11) else some (.next (w64 (z3+1))) else some (.brk z3)
def F62 (x0:Aa) (x1:Ab):Option Int:=
 (F43 x0).bind λ y1=>bif (y1 != 0) then some y1 else bif (Az7 x0 x1) then some 8 else andThen (foldI Ai9 x1.Ac 0 ()) some λ z0=>andThen (foldI (Ai8 x0) x1.Ap 0 ()) some λ z1=>bif decide ((x1.Am.length:Int)>32) then some 11 else andThen (foldI (Ai7 x0 x1) x1.Am 0 ()) some λ z2=>andThen (whileN (Ai6 x0 x1) 1152921504606846976 0) some λ z3=>some 0
def F37 (x0:Ab):Option Ab:=
 (appI 2 ([]:List Bool) x0.Ag).bind λ y1=>(appI 33 ([]:List Af) x0.Ac).bind λ y3=>(appI 9 ([]:List Int) x0.Ap).bind λ y5=>(appI 17 ([]:List Ak) x0.Am).bind λ y7=>some (⟨y1,y3,y5,y7⟩:Ab)
def Tx (a1:Ai) (y7:Bool) (y9:Bool) (y11:Bool):Bool:=(((a1.Kind==1)&&y7)&&(y9 || y11))
def zL (x1:Ab) (n1:Nat) (a1:Ai) (z1:(List Bool)):Option (Ctl ((List Bool)) Unit):=
 (A3 [((a1.Kind==1),true)] (getI x1.Ag (cnt 0 n1)) default).bind λ y7=>(A3 [(((a1.Kind==1)&&y7),true)] (getI z1 a1.A) default).bind λ y9=>(A3 [(((a1.Kind==1)&&y7),true),(y9,false)] (getI z1 a1.B) default).bind λ y11=>bif (Tx a1 y7 y9 y11) then (getI z1 a1.A).bind λ y14=>(setI z1 a1.A true).bind λ y16=>(getI y16 a1.B).bind λ y18=>(setI y16 a1.B true).bind λ y20=>some (.next y20) else some (.next z1)
def zM (x0:Aa) (x1:Ab) (n0:Nat) (a0:Bool) (z0:(List Bool)):Option (Ctl ((List Bool)) Unit):=
 andThen (foldI (zL x1) x0.Ad 0 z0) (λ _=>none) λ z1=>some (.next z1)
def zK (n2:Nat) (a2:Bool) (z2:(List Int)):Option (Ctl ((List Int)) Unit):=
 bif a2 then (appI 9 z2 [cnt 0 n2]).bind λ y23=>some (.next y23) else some (.next z2)
def Ajx (x0:Aa) (x1:Ab) (x2:Int):Option ((List Int)):=
 (mkI 2 x0.An false).bind λ y1=>(getI y1 x2).bind λ y3=>(setI y1 x2 true).bind λ y5=>andThen (foldI (zM x0 x1) y5 0 y5) (λ _=>none) λ z0=>andThen (foldI zK z0 0 ([]:List Int)) (λ _=>none) λ z2=>some z2
def jV (x0:Aa) (x2:Int) (y1:Int) (y3:Af):Bool:=((((y1 != 0) || (decide (x2<0))) || (decide (x2>=(x0.Ac.length:Int)))) || (y3.State != 2))
def Ajw (x0:Aa) (x1:Ab) (x2:Int):Option (Int×Bool):=
 (F62 x0 x1).bind λ y1=>(A3 [((((y1 != 0) || (decide (x2<0))) || (decide (x2>=(x0.Ac.length:Int)))),false)] (getI x1.Ac x2) default).bind λ y3=>bif (jV x0 x2 y1 y3) then some (0,false) else (F83 x0 2 x2).bind λ y6=>(getI y6 0).bind λ y8=>(getI x1.Ag y8).bind λ y10=>bif !y10 then some (0,false) else (getI x0.Ad y8).bind λ y13=>some (y13.A,true)
def Wl (x1:Int) (n0:Nat) (a0:Int) (z0:Unit):Option (Ctl Unit Bool):=
 bif (a0==x1) then some (.ret true) else some (.next ())
def zJ (x0:List Int) (x1:Int):Option Bool:=
 andThen (foldI (Wl x1) x0 0 ()) some λ z0=>some false
def Aum (x0:Aa) (x2:Int) (y1:Int):Bool:=(((y1 != 0) || (decide (x2<0))) || (decide (x2>=(x0.Ae.length:Int))))
def Wk (x0:Aa) (x1:Ab) (n0:Nat) (a0:Int) (z0:Unit):Option (Ctl Unit (Int×Bool)):=
 (getI x1.Ag a0).bind λ y6=>bif y6 then (getI x0.Ad a0).bind λ y9=>some (.ret (y9.A,true)) else some (.next ())
def Ajv (x0:Aa) (x1:Ab) (x2:Int):Option (Int×Bool):=
 (F62 x0 x1).bind λ y1=>bif (Aum x0 x2 y1) then some (0,false) else (F83 x0 3 x2).bind λ y4=>andThen (foldI (Wk x0 x1) y4 0 ()) some λ z0=>some (0,false)
def Auv (x0:Aa) (x2:Int) (y1:Int):Bool:=(((y1 != 0) || (decide (x2<0))) || (decide (x2>=x0.An)))
def Auu (x0:Aa) (z0:Int×(List Int)):Bool:=decide (z0.1<(x0.Ac.length:Int))
def zV (x0:Aa) (x1:Ab) (y4:(List Int)) (z0:Int×(List Int)):Option (Ctl (Int×(List Int)) Unit):=
 bif (Auu x0 z0) then (Ajw x0 x1 z0.1).bind λ y7=>(A3 [(y7.2,true)] (zJ y4 y7.1) default).bind λ y9=>bif (y7.2&&y9) then (appI 9 z0.2 [z0.1]).bind λ y12=>some (.next (w64 (z0.1+1),y12)) else some (.next (w64 (z0.1+1),z0.2)) else some (.brk (z0.1,z0.2))
def Aut (x0:Aa) (z1:Int×(List Int)):Bool:=decide (z1.1<(x0.Ae.length:Int))
def zU (x0:Aa) (x1:Ab) (y4:(List Int)) (z1:Int×(List Int)):Option (Ctl (Int×(List Int)) Unit):=
 bif (Aut x0 z1) then (Ajv x0 x1 z1.1).bind λ y15=>(A3 [(y15.2,true)] (zJ y4 y15.1) default).bind λ y17=>bif (y15.2&&y17) then (appI 9 z1.2 [z1.1]).bind λ y20=>some (.next (w64 (z1.1+1),y20)) else some (.next (w64 (z1.1+1),z1.2)) else some (.brk (z1.1,z1.2))
def Aj5 (x0:Aa) (x1:Ab) (x2:Int):Option (Ah×Bool):=
 (F62 x0 x1).bind λ y1=>bif (Auv x0 x2 y1) then some ((⟨([]:List Int),([]:List Int),([]:List Int)⟩:Ah),false) else (Ajx x0 x1 x2).bind λ y4=>andThen (whileN (zV x0 x1 y4) 1152921504606846976 (0,([]:List Int))) (λ _=>none) λ z0=>andThen (whileN (zU x0 x1 y4) 1152921504606846976 (0,([]:List Int))) (λ _=>none) λ z1=>some ((⟨y4,z0.2,z1.2⟩:Ah),true)
def Aiu (x0:Aa) (x1:Ab) (z0:Int×(List Ah)):Option (Ctl (Int×(List Ah)) Unit):=
 bif decide (z0.1<x0.An) then (Aj5 x0 x1 z0.1).bind λ y5=>(getI y5.1.An 0).bind λ y7=>bif (y7==z0.1) then (appI 73 z0.2 [y5.1]).bind λ y10=>some (.next (w64 (z0.1+1),y10)) else some (.next (w64 (z0.1+1),z0.2)) else some (.brk (z0.1,z0.2))
def F85 (x0:Aa) (x1:Ab):Option ((List Ah)):=
 (F62 x0 x1).bind λ y1=>bif (y1 != 0) then some ([]:List Ah) else andThen (whileN (Aiu x0 x1) 1152921504606846976 (0,([]:List Ah))) (λ _=>none) λ z0=>some z0.2
def Ai3 (x1:Ab) (a0:Ah) (n1:Nat) (a1:Int) (z1:(List Af)):Option (Ctl ((List Af)) Unit):=
 (getI a0.Ac 0).bind λ y5=>(getI x1.Ac y5).bind λ y7=>(getI a0.Ac 0).bind λ y9=>(getI x1.Ac y9).bind λ y11=>(getI z1 a1).bind λ y13=>(setI z1 a1 (⟨y13.State,y13.Since,y7.Aq,y13.Phase⟩:Af)).bind λ y15=>(getI y15 a1).bind λ y17=>(setI y15 a1 (⟨y17.State,y17.Since,y17.Aq,y11.Phase⟩:Af)).bind λ y19=>some (.next y19)
def Ai4 (x1:Ab) (n0:Nat) (a0:Ah) (z0:(List Af)):Option (Ctl ((List Af)) Unit):=
 andThen (foldI (Ai3 x1 a0) a0.Ac 0 z0) (λ _=>none) λ z1=>some (.next z1)
def F63 (x0:Aa) (x1:Ab):Option Ab:=
 (F37 x1).bind λ y1=>(F85 x0 x1).bind λ y3=>andThen (foldI (Ai4 x1) y3 0 y1.Ac) (λ _=>none) λ z0=>some (⟨y1.Ag,z0,y1.Ap,y1.Am⟩:Ab)
def F45 (x0:Aa) (x1:Ab):Option (Ab×Int):=
 (F62 x0 x1).bind λ y1=>bif (y1 != 0) then some ((⟨([]:List Bool),([]:List Af),([]:List Int),([]:List Ak)⟩:Ab),y1) else (F63 x0 x1).bind λ y4=>some (y4,0)
def qS (x0:Aj) (x1:Aa):Option (Ab×Aj):=
 (Wh x0 x1).bind λ y1=>(F45 x1 y1.1).bind λ y3=>some (y3.1,y1.2)
def Y2 (x1:Aa) (z0:Sg5):Option (Ctl (Sg5) Unit):=
 bif decide (z0.1<x1.An) then (F26 (⟨z0.2.1,z0.2.2.1⟩:Aj) (-1) 4).bind λ y6=>(F26 y6.2 (-1) 4).bind λ y8=>(appI 17 z0.2.2.2 [(⟨y6.1,y8.1⟩:Av)]).bind λ y10=>some (.next (w64 (z0.1+1),y8.2.L,y8.2.At,y10)) else some (.brk (z0.1,z0.2.1,z0.2.2.1,z0.2.2.2))
def uA (x0:Aj) (x1:Aa):Option (Ar×Aj):=
 (F26 x0 5 20).bind λ y1=>(qS y1.2 x1).bind λ y3=>andThen (whileN (Y2 x1) 1152921504606846976 (0,y3.2.L,y3.2.At,([]:List Av))) (λ _=>none) λ z0=>some ((⟨y1.1,y3.1,z0.2.2.2,([]:List A6)⟩:Ar),(⟨z0.2.1,z0.2.2.1⟩:Aj))
def A0l (x0:List Int) (x1:List Int) (z0:Int):Bool:=((decide (z0<(x0.length:Int))) || (decide (z0<(x1.length:Int))))
def A0k (x0:List Int) (x1:List Int) (z0:Int) (y2:Int) (y4:Int):Bool:=(((decide (z0>=(x0.length:Int))) || (decide (z0>=(x1.length:Int)))) || (y2 != y4))
def Ajm (x0:List Int) (x1:List Int) (z0:Int):Option (Ctl Int Int):=
 bif (A0l x0 x1 z0) then (A3 [(((decide (z0>=(x0.length:Int))) || (decide (z0>=(x1.length:Int)))),false)] (getI x0 z0) default).bind λ y2=>(A3 [(((decide (z0>=(x0.length:Int))) || (decide (z0>=(x1.length:Int)))),false)] (getI x1 z0) default).bind λ y4=>bif (A0k x0 x1 z0 y2 y4) then some (.ret z0) else some (.next (w64 (z0+1))) else some (.brk z0)
def F32 (x0:List Int) (x1:List Int):Option Int:=
 andThen (whileN (Ajm x0 x1) 1152921504606846976 0) some λ z0=>some (-1)
def F16 (x0:List Int) (x1:List Int):Option Bool:=
 (F32 x0 x1).bind λ y1=>some (y1==(-1))
def Ajh (x1:List Bool) (n0:Nat) (a0:Bool) (z0:Unit):Option (Ctl Unit Bool):=
 (getI x1 (cnt 0 n0)).bind λ y2=>bif !(a0==y2) then some (.ret false) else some (.next ())
def F54 (x0:List Bool) (x1:List Bool):Option Bool:=
 bif ((x0.length:Int) != (x1.length:Int)) then some false else andThen (foldI (Ajh x1) x0 0 ()) some λ z0=>some true
def Ajg (x1:List Int) (n0:Nat) (a0:Int) (z0:Unit):Option (Ctl Unit Bool):=
 (getI x1 (cnt 0 n0)).bind λ y2=>bif (a0 != y2) then some (.ret false) else some (.next ())
def F55 (x0:List Int) (x1:List Int):Option Bool:=
 bif ((x0.length:Int) != (x1.length:Int)) then some false else andThen (foldI (Ajg x1) x0 0 ()) some λ z0=>some true
def A0j (x0:Ab) (x1:Ab) (y1:Bool) (y3:Bool):Bool:=((((!y1) || (!y3)) || ((x0.Ac.length:Int) != (x1.Ac.length:Int))) || ((x0.Am.length:Int) != (x1.Am.length:Int)))
def A0i (x0:Ab) (z0:Int):Bool:=decide (z0<(x0.Ac.length:Int))
def A0h (y7:Af) (y9:Af):Bool:=!((y7.State==y9.State)&&((y7.Since==y9.Since)&&((y7.Aq==y9.Aq)&&((y7.Phase==y9.Phase)&&true))))
def Ajl (x0:Ab) (x1:Ab) (z0:Int):Option (Ctl Int Bool):=
 bif (A0i x0 z0) then (getI x0.Ac z0).bind λ y7=>(getI x1.Ac z0).bind λ y9=>bif (A0h y7 y9) then some (.ret false) else some (.next (w64 (z0+1))) else some (.brk z0)
def A0g (x0:Ab) (z1:Int):Bool:=decide (z1<(x0.Am.length:Int))
def Auj (y13:Ak) (y15:Ak):Bool:=!((y13.Kind==y15.Kind)&&((y13.Number==y15.Number)&&true))
def Ajk (x0:Ab) (x1:Ab) (z1:Int):Option (Ctl Int Bool):=
 bif (A0g x0 z1) then (getI x0.Am z1).bind λ y13=>(getI x1.Am z1).bind λ y15=>bif (Auj y13 y15) then some (.ret false) else some (.next (w64 (z1+1))) else some (.brk z1)
def F33 (x0:Ab) (x1:Ab):Option Bool:=
 (F54 x0.Ag x1.Ag).bind λ y1=>(A3 [(!y1,false)] (F55 x0.Ap x1.Ap) default).bind λ y3=>bif (A0j x0 x1 y1 y3) then some false else andThen (whileN (Ajl x0 x1) 1152921504606846976 0) some λ z0=>andThen (whileN (Ajk x0 x1) 1152921504606846976 0) some λ z1=>some true
def A0f (a0:A6) (y2:A6):Bool:=!((a0.Time==y2.Time)&&(((a0.Act.Kind==y2.Act.Kind)&&((a0.Act.Unit==y2.Act.Unit)&&((a0.Act.Value==y2.Act.Value)&&true)))&&((a0.Err==y2.Err)&&true)))
def Ajj (x1:List A6) (n0:Nat) (a0:A6) (z0:Unit):Option (Ctl Unit Bool):=
 (getI x1 (cnt 0 n0)).bind λ y2=>bif (A0f a0 y2) then some (.ret false) else some (.next ())
def F34 (x0:List A6) (x1:List A6):Option Bool:=
 bif ((x0.length:Int) != (x1.length:Int)) then some false else andThen (foldI (Ajj x1) x0 0 ()) some λ z0=>some true
def A0p (x0:Ar) (x1:Ar) (y1:Bool) (y3:Bool):Bool:=((((x0.Time != x1.Time) || (!y1)) || ((x0.A2.length:Int) != (x1.A2.length:Int))) || (!y3))
def A0o (x0:Ar) (z0:Int):Bool:=decide (z0<(x0.A2.length:Int))
def A0n (y7:Av) (y9:Av):Bool:=!((y7.High==y9.High)&&((y7.Low==y9.Low)&&true))
def Ajr (x0:Ar) (x1:Ar) (z0:Int):Option (Ctl Int Bool):=
 bif (A0o x0 z0) then (getI x0.A2 z0).bind λ y7=>(getI x1.A2 z0).bind λ y9=>bif (A0n y7 y9) then some (.ret false) else some (.next (w64 (z0+1))) else some (.brk z0)
def F17 (x0:Ar) (x1:Ar):Option Bool:=
 (A3 [((x0.Time != x1.Time),false)] (F33 x0.Power x1.Power) default).bind λ y1=>(A3 [((((x0.Time != x1.Time) || (!y1)) || ((x0.A2.length:Int) != (x1.A2.length:Int))),false)] (F34 x0.A8 x1.A8) default).bind λ y3=>bif (A0p x0 x1 y1 y3) then some false else andThen (whileN (Ajr x0 x1) 1152921504606846976 0) some λ z0=>some true
def F7 (x0:List Int):Option Bool:=
 bif decide ((x0.length:Int)>600) then (F8).bind λ y2=>some y2 else (F9 x0).bind λ y4=>(F10 y4).bind λ y6=>(F11 y6.2).bind λ y8=>(uA y8.2 y6.1).bind λ y10=>(mkI 25 4 ([]:List Ao)).bind λ y12=>(F14 y6.1 y8.1 y10.1 y12).bind λ y14=>(mkI 25 4 ([]:List Ao)).bind λ y16=>(F14 y6.1 y8.1 y10.1 y16).bind λ y18=>(A3 [(((y14.2.2==0)&&(y18.2.2==0)),true)] (F16 y14.1 y18.1) default).bind λ y20=>(A3 [((((y14.2.2==0)&&(y18.2.2==0))&&y20),true)] (F17 y14.2.1 y18.2.1) default).bind λ y22=>(A3 [((((((y14.2.2==0)&&(y18.2.2==0))&&y20)&&y22)&&(y14.2.1.Time==(w64 (y10.1.Time+4)))),true)] (F22 y14.2.1) default).bind λ y24=>(A3 [((((((y14.2.2==0)&&(y18.2.2==0))&&y20)&&y22)&&(y14.2.1.Time==(w64 (y10.1.Time+4)))),true)] (F22 y10.1) default).bind λ y26=>(A3 [(((((((y14.2.2==0)&&(y18.2.2==0))&&y20)&&y22)&&(y14.2.1.Time==(w64 (y10.1.Time+4))))&&(!(y24.toList==y26.toList))),true)] (F8) default).bind λ y28=>some (((((((y14.2.2==0)&&(y18.2.2==0))&&y20)&&y22)&&(y14.2.1.Time==(w64 (y10.1.Time+4))))&&(!(y24.toList==y26.toList)))&&y28)
end Go.Proofs.YtpdbkiafikdgpaaGreatDoor
