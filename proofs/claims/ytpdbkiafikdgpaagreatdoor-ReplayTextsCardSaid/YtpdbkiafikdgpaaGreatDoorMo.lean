import Derived.Test.YtpdbkiafikdgpaaGreatDoorTy
import Derived.Test.YtpdbkiafikdgpaaGreatDoorTx
set_option linter.unusedVariables false
namespace Go.Proofs.YtpdbkiafikdgpaaGreatDoor
open Go.SL
abbrev Sg0:=Int×(List Bool)×(List Ae)×(List Int)×(List Aq)×(List Ar)×(List A3)
abbrev Sg1:=Int×(List Bool)×(List Ae)×(List Int)×(List Aq)×(List Ar)×(List A3)×Int×(List Int)
abbrev Sg2:=Int×(List Int)×Int×(List Af)
abbrev Sg3:=Int×(List Int)×Int×(List Af)×(List A1)
abbrev Sg4:=Int×(List Int)×Int×(List Af)×(List A8)
abbrev Sg5:=Int×(List Int)×Int×(List Ar)
abbrev Sg6:=Int×(List Int)×Int×(List Ae)
abbrev Sg7:=Int×(List Af)×(List A8)×(List A1)×Int×Int×(List Bool)×(List Ae)×(List Int)×(List Aq)×(List A0)
abbrev Sg8:=Int×Int×(List Af)×(List A8)×(List A1)×Int×Int×(List Bool)×(List Ae)×(List Int)×(List Aq)×(List Ar)×(List A3)×(List Bool)×(List A3)×(List Ab)×(List Int)
abbrev Sg9:=Int×Int×(List Af)×(List A8)×(List A1)×Int×Int×(List Bool)×(List Ae)×(List Int)×(List Aq)×(List Ar)×(List A3)×(List A3)×(List Ab)
def F82 (x0:Int) (x1:Int) (x2:Int):Bool:=
 ((decide (x0>=x1))&&(decide (x0<=x2)))
def Hk (x1:Int) (x2:Int) (a0:Af):Bool:=((a0.Kind==x1)&&((a0.B==x2) || ((x1==1)&&(a0.A==x2))))
def jK (x1:Int) (x2:Int) (n0:Nat) (a0:Af) (z0:(List Int)):Option (Ctl ((List Int)) Unit):=
 bif (Hk x1 x2 a0) then (appI 9 z0 [cnt 0 n0]).bind λ y2=>some (.next y2) else some (.next z0)
def F83 (x0:Aa) (x1:Int) (x2:Int):Option ((List Int)):=
 andThen (foldI (jK x1 x2) x0.Ag 0 ([]:List Int)) (λ _=>none) λ z0=>some z0
def Ali (x0:Aa) (a0:Af):Bool:=!(F82 a0.B (w64 (a0.A+1)) (w64 (x0.Ap-1)))
def Alh (x0:Aa) (a0:Af):Bool:=!(F82 a0.B 0 (w64 ((x0.Ac.length:Int)-1)))
def Alg (x0:Aa) (a0:Af):Bool:=!(F82 a0.B 0 (w64 ((x0.Ah.length:Int)-1)))
def Abi (a0:Af) (a1:Af):Bool:=((a1.Kind==a0.Kind)&&((a1.A==a0.A)&&((a1.B==a0.B)&&true)))
def Q7 (a0:Af) (n1:Nat) (a1:Af) (z1:Unit):Option (Ctl Unit Bool):=
 bif (Abi a0 a1) then some (.ret false) else some (.next ())
def qE (x0:Aa) (n0:Nat) (a0:Af) (z0:Unit):Option (Ctl Unit Bool):=
 bif !(F82 a0.A 0 (w64 (x0.Ap-1))) then some (.ret false) else bif (a0.Kind==1) then bif (Ali x0 a0) then some (.ret false) else some (.next ()) else bif (a0.Kind==2) then bif (Alh x0 a0) then some (.ret false) else some (.next ()) else bif (a0.Kind==3) then bif (Alg x0 a0) then some (.ret false) else (cutI x0.Ag 0 (cnt 0 n0)).bind λ y9=>andThen (foldI (Q7 a0) y9 0 ()) (λ v=>some (.ret v)) λ z1=>some (.next ()) else some (.ret false)
def Af6 (x0:Aa) (z2:Int):Bool:=decide (z2<(x0.Ac.length:Int))
def qD (x0:Aa) (z2:Int):Option (Ctl Int Bool):=
 bif (Af6 x0 z2) then (F83 x0 2 z2).bind λ y12=>bif ((y12.length:Int) != 1) then some (.ret false) else some (.next (w64 (z2+1))) else some (.brk z2)
def Af5 (x0:Aa) (z3:Int):Bool:=decide (z3<(x0.Ah.length:Int))
def qC (x0:Aa) (z3:Int):Option (Ctl Int Bool):=
 bif (Af5 x0 z3) then (F83 x0 3 z3).bind λ y16=>bif decide ((y16.length:Int)<1) then some (.ret false) else some (.next (w64 (z3+1))) else some (.brk z3)
def F59 (x0:Aa):Option Bool:=
 andThen (foldI (qE x0) x0.Ag 0 ()) some λ z0=>andThen (whileN (qD x0) 1152921504606846976 0) some λ z2=>andThen (whileN (qC x0) 1152921504606846976 0) some λ z3=>some true
def Alf (a0:A8):Bool:=(((!(F82 a0.Rating 1 50000)) || (!(F82 a0.Least 0 a0.Rating))) || (!(F82 a0.Start 0 600)))
def qB (n0:Nat) (a0:A8) (z0:Unit):Option (Ctl Unit Bool):=
 bif (Alf a0) then some (.ret false) else some (.next ())
def F60 (x0:Aa):Option Bool:=
 andThen (foldI qB x0.Ac 0 ()) some λ z0=>some true
def Ale (a0:A1):Bool:=(((((!(F82 a0.Load 0 50000)) || (!(F82 a0.Least 0 a0.Load))) || (!(F82 a0.By 0 15))) || (!(F82 a0.Thruster (-1) 7))) || (decide ((a0.Needs.length:Int)>4)))
def Ald (n0:Nat) (n1:Nat) (a1:Int) (y2:Int):Bool:=((!(F82 a1 0 (w64 ((cnt 0 n0)-1)))) || ((decide ((cnt 0 n1)>0))&&(decide (y2>=a1))))
def jZ (n0:Nat) (a0:A1) (n1:Nat) (a1:Int) (z1:Unit):Option (Ctl Unit Bool):=
 (A5 [(!(F82 a1 0 (w64 ((cnt 0 n0)-1))),false),(decide ((cnt 0 n1)>0),true)] (getI a0.Needs (w64 ((cnt 0 n1)-1))) default).bind λ y2=>bif (Ald n0 n1 a1 y2) then some (.ret false) else some (.next ())
def qA (n0:Nat) (a0:A1) (z0:Unit):Option (Ctl Unit Bool):=
 bif (Ale a0) then some (.ret false) else andThen (foldI (jZ n0 a0) a0.Needs 0 ()) (λ v=>some (.ret v)) λ z1=>some (.next ())
def F61 (x0:Aa):Option Bool:=
 andThen (foldI qA x0.Ah 0 ()) some λ z0=>some true
def Abk (x0:Aa):Bool:=(((((decide (x0.Ap<1)) || (decide (x0.Ap>6))) || (decide ((x0.Ag.length:Int)>24))) || (decide ((x0.Ac.length:Int)>8))) || (decide ((x0.Ah.length:Int)>16)))
def Abj (x0:Aa) (y2:Bool) (y4:Bool) (y6:Bool):Bool:=(((((((!y2) || (!y4)) || (!y6)) || (decide (x0.Phase<0))) || (decide (x0.Phase>1800))) || (decide (x0.An<0))) || (decide (x0.An>6000)))
def F43 (x0:Aa):Option Int:=
 bif (Abk x0) then some 2 else (F59 x0).bind λ y2=>(A5 [(!y2,false)] (F60 x0) default).bind λ y4=>(A5 [(((!y2) || (!y4)),false)] (F61 x0) default).bind λ y6=>bif (Abj x0 y2 y4 y6) then some 14 else some 0
def F44 (x0:Bd):Bool:=
 ((((((decide (x0.Stop>=1))&&(decide (x0.Stop<=99)))&&(decide (x0.Start>x0.Stop)))&&(decide (x0.Start<=100)))&&(decide (x0.Delay>=0)))&&(decide (x0.Delay<=600)))
def Aqa (x0:Aa) (z0:Int×(List Ae)):Bool:=decide (z0.1<(x0.Ac.length:Int))
def Aii (x0:Aa) (z0:Int×(List Ae)):Option (Ctl (Int×(List Ae)) Unit):=
 bif (Aqa x0 z0) then (appI 33 z0.2 [(⟨0,0,5000,0⟩:Ae)]).bind λ y8=>some (.next (w64 (z0.1+1),y8)) else some (.brk (z0.1,z0.2))
def Aih (n1:Nat) (a1:A1) (z1:(List Int)):Option (Ctl ((List Int)) Unit):=
 (appI 9 z1 [a1.Load]).bind λ y10=>some (.next y10)
def Aig (x0:Aa) (z2:Int×(List Ar)):Option (Ctl (Int×(List Ar)) Unit):=
 bif decide (z2.1<x0.Ap) then (appI 17 z2.2 [(⟨(-1),(-1)⟩:Ar)]).bind λ y13=>some (.next (w64 (z2.1+1),y13)) else some (.brk (z2.1,z2.2))
def F24 (x0:Aa) (x1:Bd):Option (Al×Int):=
 (F43 x0).bind λ y1=>bif (y1 != 0) then none else bif !(F44 x1) then none else (mkI 2 (x0.Ag.length:Int) false).bind λ y5=>andThen (whileN (Aii x0) 1152921504606846976 (0,([]:List Ae))) (λ _=>none) λ z0=>andThen (foldI Aih x0.Ah 0 ([]:List Int)) (λ _=>none) λ z1=>andThen (whileN (Aig x0) 1152921504606846976 (0,([]:List Ar))) (λ _=>none) λ z2=>some ((⟨0,(⟨y5,z0.2,z1,([]:List Aq)⟩:Ab),z2.2,([]:List A3)⟩:Al),0)
def F91 (x0:Int) (x1:Int) (x2:Int):Bool:=
 ((decide (x0>=x1))&&(decide (x0<=x2)))
def zV (x1:Int) (n0:Nat) (a0:Int) (z0:Unit):Option (Ctl Unit Unit):=
 bif (x1==a0) then none else some (.next ())
def Ake (x0:List Int) (x1:Int):Option Int:=
 andThen (foldI (zV x1) x0 0 ()) (λ _=>none) λ z0=>some (-1)
def qW (x0:List Int) (x1:Int):Option Bool:=
 (Ake x0 x1).bind λ y1=>some (decide (y1>=0))
def Akh (x0:List Int):Bool:=
 ((x0.length:Int)==0)
def U_ (n0:Nat) (a0:List Int) (z0:Unit):Option (Ctl Unit Int):=
 bif Akh a0 then some (.ret (cnt 0 n0)) else some (.next ())
def qM (x0:List (List Int)):Option Int:=
 andThen (foldI U_ x0 0 ()) some λ z0=>some (-1)
def qV (x0:List (List Int)):Option Bool:=
 (qM x0).bind λ y1=>some (decide (y1>=0))
def Aoh (x0:Aa) (a0:Af):Bool:=((a0.Kind==1)&&(F91 a0.B (w64 (a0.A+1)) (w64 (x0.Ap-1))))
def Aog (z0:(List Int)) (a0:Af) (y7:Int):Bool:=(((a0.Kind==2)&&(F91 a0.B 0 (w64 ((z0.length:Int)-1))))&&(y7==0))
def Aaf (x0:Aa) (n0:Nat) (a0:Af) (z0:(List Int)):Option (Ctl ((List Int)) Unit):=
 bif !(F91 a0.A 0 (w64 (x0.Ap-1))) then none else bif (Aoh x0 a0) then none else (A5 [(((a0.Kind==2)&&(F91 a0.B 0 (w64 ((z0.length:Int)-1)))),true)] (getI z0 a0.B) default).bind λ y7=>bif (Aog z0 a0 y7) then (getI z0 a0.B).bind λ y10=>(setI z0 a0.B (w64 (y10+1))).bind λ y12=>some (.next y12) else none
def Ako (x0:Aa):Option Bool:=
 (mkI 9 (x0.Ac.length:Int) 0).bind λ y1=>(mkI 25 (x0.Ah.length:Int) ([]:List Int)).bind λ y3=>andThen (foldI (Aaf x0) x0.Ag 0 y1) (λ _=>none) λ z0=>(qW z0 0).bind λ y16=>(A5 [(!y16,true)] (qV y3) default).bind λ y18=>some ((!y16)&&(!y18))
def Ada (x0:A8):Bool:=
 (((F91 x0.Rating 1 50000)&&(F91 x0.Least 0 x0.Rating))&&(F91 x0.Start 0 600))
def Aof (x1:Int) (n0:Nat) (a0:Int) (y1:Int):Bool:=((!(F91 a0 0 (w64 (x1-1)))) || ((decide ((cnt 0 n0)>0))&&(decide (y1>=a0))))
def Aae (x0:A1) (x1:Int) (n0:Nat) (a0:Int) (z0:Unit):Option (Ctl Unit Bool):=
 (A5 [(!(F91 a0 0 (w64 (x1-1))),false),(decide ((cnt 0 n0)>0),true)] (getI x0.Needs (w64 ((cnt 0 n0)-1))) default).bind λ y1=>bif (Aof x1 n0 a0 y1) then some (.ret false) else some (.next ())
def Akn (x0:A1) (x1:Int):Option Bool:=
 andThen (foldI (Aae x0 x1) x0.Needs 0 ()) some λ z0=>some (((((F91 x0.Load 0 50000)&&(F91 x0.Least 0 x0.Load))&&(F91 x0.By 0 15))&&(F91 x0.Thruster (-1) 7))&&(decide ((x0.Needs.length:Int)<=4)))
def Apz (x0:Aa):Bool:=((((!(F91 x0.Ap 1 6)) || (decide ((x0.Ag.length:Int)>24))) || (decide ((x0.Ac.length:Int)>8))) || (decide ((x0.Ah.length:Int)>16)))
def Ah2 (n0:Nat) (a0:A8) (z0:Bool):Option (Ctl Bool Unit):=
 some (.next (z0&&(Ada a0)))
def Ah1 (n1:Nat) (a1:A1) (z1:Bool):Option (Ctl Bool Unit):=
 (A5 [(z1,true)] (Akn a1 (cnt 0 n1)) default).bind λ y4=>some (.next (z1&&y4))
def F86 (x0:Aa):Option Int:=
 bif (Apz x0) then none else (Ako x0).bind λ y2=>andThen (foldI Ah2 x0.Ac 0 ((y2&&(F91 x0.Phase 0 1800))&&(F91 x0.An 0 6000))) (λ _=>none) λ z0=>andThen (foldI Ah1 x0.Ah 0 z0) (λ _=>none) λ z1=>bif !z1 then none else some 0
def Kr (x0:Aa) (x1:Int):Int:=
 bif (x1==1) then (x0.Ac.length:Int) else bif (x1==2) then (x0.Ag.length:Int) else bif (x1==3) then x0.Ap else bif (x1==4) then (x0.Ah.length:Int) else 0
def qU (x0:Int):Bool:=
 (x0 != x0)
def Mn (x0:Int) (x1:Int):Int:=
 bif qU x0 then bif qU x1 then 0 else (-1) else bif qU x1 then 1 else bif decide (x0<x1) then (-1) else bif decide (x0>x1) then 1 else 0
def Aad (n0:Nat) (a0:Int) (z0:Unit):Option (Ctl Unit Int):=
 bif (a0 != 0) then some (.ret a0) else some (.next ())
def Akm (x0:List Int):Option Int:=
 andThen (foldI Aad x0 0 ()) some λ z0=>some 0
def Apy (x0:Aa) (n0:Nat) (a0:Aq) (y5:Int):Bool:=((!(F91 a0.Number 0 (w64 ((Kr x0 a0.Kind)-1)))) || ((decide ((cnt 0 n0)>0))&&(decide (y5>=0))))
def Ah0 (x0:Aa) (x1:List Aq) (n0:Nat) (a0:Aq) (z0:Unit):Option (Ctl Unit Bool):=
 (A5 [(!(F91 a0.Number 0 (w64 ((Kr x0 a0.Kind)-1))),false),(decide ((cnt 0 n0)>0),true)] (getI x1 (w64 ((cnt 0 n0)-1))) default).bind λ y1=>(A5 [(!(F91 a0.Number 0 (w64 ((Kr x0 a0.Kind)-1))),false),(decide ((cnt 0 n0)>0),true)] (getI x1 (w64 ((cnt 0 n0)-1))) default).bind λ y3=>(A5 [(!(F91 a0.Number 0 (w64 ((Kr x0 a0.Kind)-1))),false),(decide ((cnt 0 n0)>0),true)] (Akm [Mn y1.Kind a0.Kind,Mn y3.Number a0.Number]) default).bind λ y5=>bif (Apy x0 n0 a0 y5) then some (.ret false) else some (.next ())
def F87 (x0:Aa) (x1:List Aq):Option Bool:=
 andThen (foldI (Ah0 x0 x1) x1 0 ()) some λ z0=>some (decide ((x1.length:Int)<=32))
def F90 (x0:Ae):Bool:=
 ((((F91 x0.State 0 3)&&(F91 x0.Since 0 2147483648))&&(F91 x0.An 0 6000))&&(F91 x0.Phase 0 3599))
def F89 (x0:Ae):Bool:=
 !(F90 x0)
def Vi (n0:Nat) (a0:Ae) (z0:Unit):Option (Ctl Unit Unit):=
 bif F89 a0 then none else some (.next ())
def uH (x0:List Ae):Option Int:=
 andThen (foldI Vi x0 0 ()) (λ _=>none) λ z0=>some (-1)
def Ac0 (x0:List Ae):Option Bool:=
 (uH x0).bind λ y1=>some (decide (y1>=0))
def Apx (x2:Int) (a0:Af) (y1:Bool):Bool:=(((a0.Kind==3)&&(a0.B==x2))&&y1)
def Ahz (x1:Ab) (x2:Int) (n0:Nat) (a0:Af) (z0:Int):Option (Ctl Int Unit):=
 (A5 [(((a0.Kind==3)&&(a0.B==x2)),true)] (getI x1.Am (cnt 0 n0)) default).bind λ y1=>bif (Apx x2 a0 y1) then some (.next (w64 (z0+1))) else some (.next z0)
def F92 (x0:Aa) (x1:Ab) (x2:Int):Option Int:=
 andThen (foldI (Ahz x1 x2) x0.Ag 0 0) (λ _=>none) λ z0=>some z0
def Ap4 (x0:Aa) (x1:Ab):Bool:=((((x1.Am.length:Int) != (x0.Ag.length:Int)) || ((x1.Ac.length:Int) != (x0.Ac.length:Int))) || ((x1.Aw.length:Int) != (x0.Ah.length:Int)))
def Aia (x0:Aa) (x1:Ab) (n0:Nat) (a0:Int) (z0:Bool):Option (Ctl Bool Unit):=
 (A5 [(z0,true)] (getI x0.Ah (cnt 0 n0)) default).bind λ y9=>(A5 [((z0&&(F91 a0 0 y9.Load)),true)] (F92 x0 x1 (cnt 0 n0)) default).bind λ y11=>some (.next ((z0&&(F91 a0 0 y9.Load))&&(decide (y11<=1))))
def F65 (x0:Aa) (x1:Ab):Option Int:=
 (F86 x0).bind λ y1=>bif (y1 != 0) then none else bif (Ap4 x0 x1) then none else (F87 x0 x1.As).bind λ y5=>(A5 [(y5,true)] (Ac0 x1.Ac) default).bind λ y7=>andThen (foldI (Aia x0 x1) x1.Aw 0 (y5&&(!y7))) (λ _=>none) λ z0=>bif !z0 then none else some 0
def F93 (x0:List Bool):Option (List Bool):=appI 2 [] x0
def F94 (x0:List Ae):Option (List Ae):=appI 33 [] x0
def F95 (x0:List Int):Option (List Int):=appI 9 [] x0
def F96 (x0:List Aq):Option (List Aq):=appI 17 [] x0
def F66 (x0:Ab):Option Ab:=
 (F93 x0.Am).bind λ y1=>(F94 x0.Ac).bind λ y3=>(F95 x0.Aw).bind λ y5=>(F96 x0.As).bind λ y7=>some (⟨y1,y3,y5,y7⟩:Ab)
def Ahy (n0:Nat) (a0:Int) (z0:(List Int)):Option (Ctl ((List Int)) Unit):=
 (getI z0 (cnt 0 n0)).bind λ y3=>(setI z0 (cnt 0 n0) (cnt 0 n0)).bind λ y5=>some (.next y5)
def Ahw (x1:Ab) (n2:Nat) (a2:Af) (z2:Unit):Option (Ctl Unit Unit):=
 (A5 [((a2.Kind==1),true)] (getI x1.Am (cnt 0 n2)) default).bind λ y7=>bif ((a2.Kind==1)&&y7) then none else some (.next ())
def Ahx (x0:Aa) (x1:Ab) (n1:Nat) (a1:Int) (z1:Unit):Option (Ctl Unit Unit):=
 andThen (foldI (Ahw x1) x0.Ag 0 ()) (λ _=>none) λ z2=>some (.next ())
def F97 (x0:Aa) (x1:Ab):Option ((List Int)):=
 (mkI 9 x0.Ap 0).bind λ y1=>andThen (foldI Ahy y1 0 y1) (λ _=>none) λ z0=>andThen (foldI (Ahx x0 x1) z0 0 ()) (λ _=>none) λ z1=>some z0
def Aoe (x2:Int) (x3:Int) (a0:Af) (y1:Bool):Bool:=(((a0.Kind==x2)&&(a0.B==x3))&&y1)
def Aac (x1:Ab) (x2:Int) (x3:Int) (n0:Nat) (a0:Af) (z0:Unit):Option (Ctl Unit Unit):=
 (A5 [(((a0.Kind==x2)&&(a0.B==x3)),true)] (getI x1.Am (cnt 0 n0)) default).bind λ y1=>bif (Aoe x2 x3 a0 y1) then none else some (.next ())
def Akl (x0:Aa) (x1:Ab) (x2:Int) (x3:Int):Option (Int×Bool):=
 andThen (foldI (Aac x1 x2 x3) x0.Ag 0 ()) (λ _=>none) λ z0=>some (0,false)
def Apw (x1:Ab) (x2:Int) (y1:Ae):Bool:=((!(F91 x2 0 (w64 ((x1.Ac.length:Int)-1)))) || (y1.State != 2))
def F98 (x0:Aa) (x1:Ab) (x2:Int):Option (Int×Bool):=
 (A5 [(!(F91 x2 0 (w64 ((x1.Ac.length:Int)-1))),false)] (getI x1.Ac x2) default).bind λ y1=>bif (Apw x1 x2 y1) then some (0,false) else (Akl x0 x1 2 x2).bind λ y4=>some (y4.1,y4.2)
def Akt (x0:Ai):Bool:=
 ((x0.Ap.length:Int)==0)
def Vh (n0:Nat) (a0:Ai) (z0:Unit):Option (Ctl Unit Unit):=
 bif Akt a0 then none else some (.next ())
def uG (x0:List Ai):Option Int:=
 andThen (foldI Vh x0 0 ()) (λ _=>none) λ z0=>some (-1)
def Rk (x0:List Ai):Option ((List Ai)):=
 (uG x0).bind λ y1=>bif (y1==(-1)) then some x0 else none
def Ah9 (n0:Nat) (a0:Int) (z0:(List Ai)):Option (Ctl ((List Ai)) Unit):=
 (getI z0 a0).bind λ y8=>(appI 9 y8.Ap [cnt 0 n0]).bind λ y10=>(setI z0 a0 (⟨y10,y8.Ac,y8.Ah⟩:Ai)).bind λ y12=>some (.next y12)
def Ap3 (x0:Aa) (z1:Int):Bool:=decide (z1<(x0.Ac.length:Int))
def Ah8 (x0:Aa) (x1:Ab) (z1:Int):Option (Ctl Int Unit):=
 bif (Ap3 x0 z1) then (F98 x0 x1 z1).bind λ y15=>bif y15.2 then none else some (.next (w64 (z1+1))) else some (.brk z1)
def Ah7 (x0:Aa) (z2:Unit):Option (Ctl Unit Unit):=
 bif decide (0<(x0.Ah.length:Int)) then none else some (.brk ())
def F67 (x0:Aa) (x1:Ab):Option ((List Ai)):=
 (F65 x0 x1).bind λ y1=>bif (y1 != 0) then none else (F97 x0 x1).bind λ y4=>(mkI 73 x0.Ap (⟨([]:List Int),([]:List Int),([]:List Int)⟩:Ai)).bind λ y6=>andThen (foldI Ah9 y4 0 y6) (λ _=>none) λ z0=>andThen (whileN (Ah8 x0 x1) 1152921504606846976 0) (λ _=>none) λ z1=>andThen (whileN (Ah7 x0) 1152921504606846976 ()) (λ _=>none) λ z2=>(Rk z0).bind λ y19=>some y19
def Ap5 (a0:Ai):Bool:=decide ((a0.Ac.length:Int)>0)
def Aic (n0:Nat) (a0:Ai) (z0:Unit):Option (Ctl Unit Unit):=
 bif (Ap5 a0) then none else some (.next ())
def F47 (x0:Aa) (x1:Ab):Option (Ab×Int):=
 (F65 x0 x1).bind λ y1=>bif (y1 != 0) then none else (F66 x1).bind λ y4=>(F67 x0 x1).bind λ y6=>andThen (foldI Aic y6 0 ()) (λ _=>none) λ z0=>some (y4,0)
def F49 (x0:Bd):Bool:=
 ((((((decide (x0.Stop>=1))&&(decide (x0.Stop<=99)))&&(decide (x0.Start>x0.Stop)))&&(decide (x0.Start<=100)))&&(decide (x0.Delay>=0)))&&(decide (x0.Delay<=600)))
def Ah6 (x1:List Bool) (n0:Nat) (a0:Bool) (z0:Unit):Option (Ctl Unit Unit):=
 (getI x1 (cnt 0 n0)).bind λ y2=>bif !(a0==y2) then none else some (.next ())
def F69 (x0:List Bool) (x1:List Bool):Option Bool:=
 bif ((x0.length:Int) != (x1.length:Int)) then none else andThen (foldI (Ah6 x1) x0 0 ()) (λ _=>none) λ z0=>some true
def Ap2 (a0:Ae) (y2:Ae):Bool:=!((a0.State==y2.State)&&((a0.Since==y2.Since)&&((a0.An==y2.An)&&((a0.Phase==y2.Phase)&&true))))
def Ah5 (x1:List Ae) (n0:Nat) (a0:Ae) (z0:Unit):Option (Ctl Unit Unit):=
 (getI x1 (cnt 0 n0)).bind λ y2=>bif (Ap2 a0 y2) then none else some (.next ())
def F70 (x0:List Ae) (x1:List Ae):Option Bool:=
 bif ((x0.length:Int) != (x1.length:Int)) then none else andThen (foldI (Ah5 x1) x0 0 ()) (λ _=>none) λ z0=>some true
def Ah4 (x1:List Int) (n0:Nat) (a0:Int) (z0:Unit):Option (Ctl Unit Bool):=
 (getI x1 (cnt 0 n0)).bind λ y2=>bif (a0 != y2) then some (.ret false) else some (.next ())
def F71 (x0:List Int) (x1:List Int):Option Bool:=
 bif ((x0.length:Int) != (x1.length:Int)) then none else andThen (foldI (Ah4 x1) x0 0 ()) some λ z0=>some true
def Ap1 (a0:Aq) (y2:Aq):Bool:=!((a0.Kind==y2.Kind)&&((a0.Number==y2.Number)&&true))
def Ah3 (x1:List Aq) (n0:Nat) (a0:Aq) (z0:Unit):Option (Ctl Unit Bool):=
 (getI x1 (cnt 0 n0)).bind λ y2=>bif (Ap1 a0 y2) then some (.ret false) else some (.next ())
def F72 (x0:List Aq) (x1:List Aq):Option Bool:=
 bif ((x0.length:Int) != (x1.length:Int)) then none else andThen (foldI (Ah3 x1) x0 0 ()) some λ z0=>some true
def F50 (x0:Ab) (x1:Ab):Option Bool:=
 (F69 x0.Am x1.Am).bind λ y1=>(A5 [(y1,true)] (F70 x0.Ac x1.Ac) default).bind λ y3=>(A5 [((y1&&y3),true)] (F71 x0.Aw x1.Aw) default).bind λ y5=>(A5 [(((y1&&y3)&&y5),true)] (F72 x0.As x1.As) default).bind λ y7=>some (((y1&&y3)&&y5)&&y7)
def Ng (x0:Int) (x1:Al):Bool:=
 ((decide (x0>=(-1)))&&(decide (x0<=x1.Time)))
def Gs (x0:Ar) (x1c0:Al):Bool×Al:=
 (((!(Ng x0.High x1c0)) || (!(Ng x0.Low x1c0))),x1c0)
def Al4 (z0:Sg0) (a0:Ar):Bool:=(Gs a0 (⟨z0.1,(⟨z0.2.1,z0.2.2.1,z0.2.2.2.1,z0.2.2.2.2.1⟩:Ab),z0.2.2.2.2.2.1,z0.2.2.2.2.2.2⟩:Al)).1
def jO (n0:Nat) (a0:Ar) (z0:Sg0):Option (Ctl (Sg0) Unit):=
 bif (Al4 z0 a0) then none else some (.next (((Gs a0 (⟨z0.1,(⟨z0.2.1,z0.2.2.1,z0.2.2.2.1,z0.2.2.2.2.1⟩:Ab),z0.2.2.2.2.2.1,z0.2.2.2.2.2.2⟩:Al)).2).Time,(((Gs a0 (⟨z0.1,(⟨z0.2.1,z0.2.2.1,z0.2.2.2.1,z0.2.2.2.2.1⟩:Ab),z0.2.2.2.2.2.1,z0.2.2.2.2.2.2⟩:Al)).2).Power).Am,(((Gs a0 (⟨z0.1,(⟨z0.2.1,z0.2.2.1,z0.2.2.2.1,z0.2.2.2.2.1⟩:Ab),z0.2.2.2.2.2.1,z0.2.2.2.2.2.2⟩:Al)).2).Power).Ac,(((Gs a0 (⟨z0.1,(⟨z0.2.1,z0.2.2.1,z0.2.2.2.1,z0.2.2.2.2.1⟩:Ab),z0.2.2.2.2.2.1,z0.2.2.2.2.2.2⟩:Al)).2).Power).Aw,(((Gs a0 (⟨z0.1,(⟨z0.2.1,z0.2.2.1,z0.2.2.2.1,z0.2.2.2.2.1⟩:Ab),z0.2.2.2.2.2.1,z0.2.2.2.2.2.2⟩:Al)).2).Power).As,((Gs a0 (⟨z0.1,(⟨z0.2.1,z0.2.2.1,z0.2.2.2.1,z0.2.2.2.2.1⟩:Ab),z0.2.2.2.2.2.1,z0.2.2.2.2.2.2⟩:Al)).2).Av,((Gs a0 (⟨z0.1,(⟨z0.2.1,z0.2.2.1,z0.2.2.2.1,z0.2.2.2.2.1⟩:Ab),z0.2.2.2.2.2.1,z0.2.2.2.2.2.2⟩:Al)).2).A7))
def Ac5 (x0:List Ar) (x1c0c0:Al):Option (Int×Al):=
 andThen (foldI jO x0 0 (x1c0c0.Time,x1c0c0.Power.Am,x1c0c0.Power.Ac,x1c0c0.Power.Aw,x1c0c0.Power.As,x1c0c0.Av,x1c0c0.A7)) (λ _=>none) λ z0=>some ((-1),(⟨z0.1,(⟨z0.2.1,z0.2.2.1,z0.2.2.2.1,z0.2.2.2.2.1⟩:Ab),z0.2.2.2.2.2.1,z0.2.2.2.2.2.2⟩:Al))
def Ac7 (x0:List Ar) (x1c0c0:Al):Option (Bool×Al):=
 (Ac5 x0 x1c0c0).bind λ y1=>some (decide (y1.1>=0),y1.2)
def Ap7 (x1:Bd) (x2:Al):Bool:=(((!(F49 x1)) || (decide (x2.Time<0))) || (decide (x2.Time>2147483648)))
def F29 (x0:Aa) (x1:Bd) (x2:Al):Option Int:=
 (F47 x0 x2.Power).bind λ y1=>bif (y1.2 != 0) then none else bif (Ap7 x1 x2) then none else bif ((x2.Av.length:Int) != x0.Ap) then none else (F50 x2.Power y1.1).bind λ y6=>(A5 [(!y6,false)] (Ac7 x2.Av x2) (default,x2)).bind λ y8=>bif ((!y6) || y8.1) then none else some 0
def F30 (x0:Al):Option Al:=
 (appI 17 ([]:List Ar) x0.Av).bind λ y1=>(appI 41 ([]:List A3) x0.A7).bind λ y3=>(appI 2 ([]:List Bool) x0.Power.Am).bind λ y5=>(appI 33 ([]:List Ae) x0.Power.Ac).bind λ y7=>(appI 9 ([]:List Int) x0.Power.Aw).bind λ y9=>(appI 17 ([]:List Aq) x0.Power.As).bind λ y11=>some (⟨x0.Time,(⟨y5,y7,y9,y11⟩:Ab),y1,y3⟩:Al)
def Aks (x0:List Ar):Option (List Ar):=appI 17 [] x0
def F79 (x0:List A3):Option (List A3):=appI 41 [] x0
def F74 (x0:Aa) (x1:Al):Option Ay:=
 (F66 x1.Power).bind λ y1=>(Aks x1.Av).bind λ y3=>(F79 x1.A7).bind λ y5=>some (⟨(⟨x1.Time,y1,y3,y5⟩:Al),x0,([]:List A3),([]:List Ab)⟩:Ay)
def Ac4 (x0:Ay) (x1:Ab):Option Ay:=
 (F66 x1).bind λ y3=>(appI 97 x0.states [y3]).bind λ y5=>some (⟨x0.Ao,x0.Aj,x0.events,y5⟩:Ay)
def Aki (x0:Aa) (x1:Int) (x2:Int):Option Bool:=
 bif (x1==1) then some ((decide (x2>=0))&&(decide (x2<(x0.Ac.length:Int)))) else none
def Aah (x1:A0):Option (Ctl Bool Unit):=
 bif (x1.Kind==1) then none else some (.next (x1.Kind==2))
def Aag (x1:A0):Option (Ctl Bool Unit):=
 bif (x1.Kind==3) then some (.next (x1.Kind==3)) else some (.next (x1.Kind==4))
def Akp (x0:Aa) (x1:A0):Option Bool:=
 andThen (Aah x1) (λ _=>none) λ z0=>bif z0 then none else andThen (Aag x1) (λ _=>none) λ z1=>bif z1 then (Aki x0 1 x1.Unit).bind λ y5=>some y5 else bif (x1.Kind==5) then none else bif (x1.Kind==6) then none else bif (x1.Kind==8) then none else bif (x1.Kind==9) then none else some true
def Aob (x1:Aq) (a0:Aq):Bool:=((x1.Kind==a0.Kind)&&((x1.Number==a0.Number)&&true))
def zU (x1:Aq) (n0:Nat) (a0:Aq) (z0:Unit):Option (Ctl Unit Int):=
 bif (Aob x1 a0) then some (.ret (cnt 0 n0)) else some (.next ())
def Aka (x0:List Aq) (x1:Aq):Option Int:=
 andThen (foldI (zU x1) x0 0 ()) some λ z0=>some (-1)
def Akd (x0:List Aq) (x1:Aq):Option Bool:=
 (Aka x0 x1).bind λ y1=>some (decide (y1>=0))
def Ac9 (x0:Ab) (x1:Int) (x2:Int):Option Bool:=
 (Akd x0.As (⟨x1,x2⟩:Aq)).bind λ y1=>some y1
def qI (x0:Af) (x1:Int):Bool:=
 ((x0.Kind==2)&&(x0.B==x1))
def Va (x1c0:Int) (n0:Nat) (a0:Af) (z0:Unit):Option (Ctl Unit (Int×Int)):=
 bif qI a0 x1c0 then some (.ret (cnt 0 n0,x1c0)) else none
def qN (x0:List Af) (x1c0:Int):Option (Int×Int):=
 andThen (foldI (Va x1c0) x0 0 ()) some λ z0=>some ((-1),x1c0)
def Akc (x0:Aa) (x1:Int):Option Int:=
 (qN x0.Ag x1).bind λ y1=>some y1.1
def Re (x0:A_) (x1:Int):Option Bool:=
 (Akc x0.Aj x1).bind λ y1=>(getI x0.Az.Am y1).bind λ y3=>some (!y3)
def uB (x0:A_) (x1:Int):Option (Int×A_):=
 (getI x0.Az.Ac x1).bind λ y1=>(A5 [((y1.State != 0),false)] (Ac9 x0.Az 1 x1) default).bind λ y3=>bif ((y1.State != 0) || y3) then none else (getI x0.Aj.Ac x1).bind λ y6=>(A5 [((y6.Start==0),true)] (Re x0 x1) default).bind λ y8=>bif ((y6.Start==0)&&y8) then (setI x0.Az.Ac x1 (⟨2,x0.time,5000,0⟩:Ae)).bind λ y11=>some (0,(⟨x0.Aj,(⟨x0.Az.Am,y11,x0.Az.Aw,x0.Az.As⟩:Ab),x0.time⟩:A_)) else none
def Akb (x0:Int):Option Int:=
 bif decide ((Int.tmod x0 3600)<0) then none else some (Int.tmod x0 3600)
def zW (n0:Nat) (a0:Ae) (z0:(List Ae)):Option (Ctl ((List Ae)) Unit):=
 bif (a0.State==2) then (Akb (w64 (a0.Phase+(w64 (36*(w64 (a0.An-5000))))))).bind λ y7=>(getI z0 (cnt 0 n0)).bind λ y9=>(setI z0 (cnt 0 n0) (⟨y9.State,y9.Since,y9.An,y7⟩:Ae)).bind λ y11=>some (.next y11) else some (.next z0)
def Akf (x0:Aa) (x1:Ab):Option (Ab×Int):=
 (F65 x0 x1).bind λ y1=>bif (y1 != 0) then none else (F66 x1).bind λ y4=>andThen (foldI zW x1.Ac 0 y4.Ac) (λ _=>none) λ z0=>some ((⟨y4.Am,z0,y4.Aw,y4.As⟩:Ab),0)
def Aju (y1:Ab×Int) (z0:Int):Bool:=decide (z0<(y1.1.Ac.length:Int))
def Ajt (x0:A_) (y4:Ae) (y6:Bool) (y8:A8):Bool:=(((y4.State==1)&&y6)&&(decide ((w64 (y4.Since+y8.Start))<=(w64 (x0.time+1)))))
def Vf (x0:A_) (y1:Ab×Int) (z0:Int):Option (Ctl Int Unit):=
 bif (Aju y1 z0) then (getI y1.1.Ac z0).bind λ y4=>(A5 [((y4.State==1),true)] (Re (⟨x0.Aj,y1.1,x0.time⟩:A_) z0) default).bind λ y6=>(A5 [(((y4.State==1)&&y6),true)] (getI x0.Aj.Ac z0) default).bind λ y8=>bif (Ajt x0 y4 y6 y8) then none else some (.next (w64 (z0+1))) else some (.brk z0)
def uA (x0:A_):Option A_:=
 (Akf x0.Aj x0.Az).bind λ y1=>andThen (whileN (Vf x0 y1) 1152921504606846976 0) (λ _=>none) λ z0=>some (⟨x0.Aj,y1.1,x0.time⟩:A_)
def uL (x0:A_) (x1:A0):Option (Int×A_):=
 bif (x1.Kind==1) then none else bif (x1.Kind==2) then none else bif (x1.Kind==6) then none else bif (x1.Kind==3) then (uB x0 x1.Unit).bind λ y5=>some (y5.1,y5.2) else bif (x1.Kind==4) then none else bif (x1.Kind==5) then none else bif (x1.Kind==7) then (uA x0).bind λ y10=>some (0,y10) else none
def Ap0 (x2:Int) (x3:A0):Bool:=((((decide (x2<0)) || (decide (x2>2147483648))) || (decide (x3.Kind<1))) || (decide (x3.Kind>9)))
def F78 (x0:Aa) (x1:Ab) (x2:Int) (x3:A0):Option (Ab×Int):=
 (F65 x0 x1).bind λ y1=>bif (y1 != 0) then none else bif (Ap0 x2 x3) then none else (Akp x0 x3).bind λ y5=>bif !y5 then none else (F66 x1).bind λ y8=>(uL (⟨x0,y8,x2⟩:A_) x3).bind λ y10=>bif (y10.1 != 0) then none else some (y10.2.Az,0)
def Rj (x0:Ay) (x1:A0) (x2:Int):Option Ay:=
 (appI 41 x0.events [(⟨x0.Ao.Time,x1,x2⟩:A3)]).bind λ y1=>some (⟨x0.Ao,x0.Aj,y1,x0.states⟩:Ay)
def Q6 (x0:Ay) (x1:Ab):Option Ay:=
 (F66 x1).bind λ y3=>(appI 97 x0.states [y3]).bind λ y5=>some (⟨x0.Ao,x0.Aj,x0.events,y5⟩:Ay)
def Jr (x0:Int) (x1:Int) (x2:Ax):Option (Bool×Ax):=
 (Ac9 x2.Az x0 x1).bind λ y1=>some (y1,x2)
def qR (x0:Ax) (x1:Af):Option (Bool×Ax):=
 (Jr 3 x1.A x0).bind λ y1=>bif y1.1 then some (true,y1.2) else bif (x1.Kind==1) then (Jr 3 x1.B y1.2).bind λ y5=>some (y5.1,y5.2) else bif (x1.Kind==2) then (Jr 1 x1.B y1.2).bind λ y8=>(A5 [(y8.1,false)] (getI y8.2.Az.Ac x1.B) default).bind λ y10=>some ((y8.1 || (y10.State != 2)),y8.2) else (Jr 4 x1.B y1.2).bind λ y12=>some (y12.1,y12.2)
def Rb (x0:Ax) (x1:Int):Option Ax:=
 (getI x0.Az.Am x1).bind λ y1=>(setI x0.Az.Am x1 false).bind λ y3=>(appI 25 x0.acts [(⟨2,x1,0⟩:A0)]).bind λ y5=>some (⟨x0.Aj,(⟨y3,x0.Az.Ac,x0.Az.Aw,x0.Az.As⟩:Ab),y5⟩:Ax)
def Ve (n0:Nat) (a0:Af) (z0:Sg7):Option (Ctl (Sg7) Unit):=
 (getI z0.2.2.2.2.2.2.1 (cnt 0 n0)).bind λ y1=>(A5 [(y1,true)] (qR (⟨(⟨z0.1,z0.2.1,z0.2.2.1,z0.2.2.2.1,z0.2.2.2.2.1,z0.2.2.2.2.2.1⟩:Aa),(⟨z0.2.2.2.2.2.2.1,z0.2.2.2.2.2.2.2.1,z0.2.2.2.2.2.2.2.2.1,z0.2.2.2.2.2.2.2.2.2.1⟩:Ab),z0.2.2.2.2.2.2.2.2.2.2⟩:Ax) a0) (default,(⟨(⟨z0.1,z0.2.1,z0.2.2.1,z0.2.2.2.1,z0.2.2.2.2.1,z0.2.2.2.2.2.1⟩:Aa),(⟨z0.2.2.2.2.2.2.1,z0.2.2.2.2.2.2.2.1,z0.2.2.2.2.2.2.2.2.1,z0.2.2.2.2.2.2.2.2.2.1⟩:Ab),z0.2.2.2.2.2.2.2.2.2.2⟩:Ax))).bind λ y3=>bif (y1&&y3.1) then none else some (.next (y3.2.Aj.Ap,y3.2.Aj.Ag,y3.2.Aj.Ac,y3.2.Aj.Ah,y3.2.Aj.Phase,y3.2.Aj.An,y3.2.Az.Am,y3.2.Az.Ac,y3.2.Az.Aw,y3.2.Az.As,y3.2.acts))
def Vd (n1:Nat) (a1:Int) (z1:Sg7):Option (Ctl (Sg7) Unit):=
 (Rb (⟨(⟨z1.1,z1.2.1,z1.2.2.1,z1.2.2.2.1,z1.2.2.2.2.1,z1.2.2.2.2.2.1⟩:Aa),(⟨z1.2.2.2.2.2.2.1,z1.2.2.2.2.2.2.2.1,z1.2.2.2.2.2.2.2.2.1,z1.2.2.2.2.2.2.2.2.2.1⟩:Ab),z1.2.2.2.2.2.2.2.2.2.2⟩:Ax) a1).bind λ y6=>some (.next (y6.Aj.Ap,y6.Aj.Ag,y6.Aj.Ac,y6.Aj.Ah,y6.Aj.Phase,y6.Aj.An,y6.Az.Am,y6.Az.Ac,y6.Az.Aw,y6.Az.As,y6.acts))
def qT (x0:Ax):Option Ax:=
 andThen (foldI Ve x0.Aj.Ag 0 (x0.Aj.Ap,x0.Aj.Ag,x0.Aj.Ac,x0.Aj.Ah,x0.Aj.Phase,x0.Aj.An,x0.Az.Am,x0.Az.Ac,x0.Az.Aw,x0.Az.As,x0.acts)) (λ _=>none) λ z0=>andThen (foldI Vd ([]:List Int) 0 (z0.1,z0.2.1,z0.2.2.1,z0.2.2.2.1,z0.2.2.2.2.1,z0.2.2.2.2.2.1,z0.2.2.2.2.2.2.1,z0.2.2.2.2.2.2.2.1,z0.2.2.2.2.2.2.2.2.1,z0.2.2.2.2.2.2.2.2.2.1,z0.2.2.2.2.2.2.2.2.2.2)) (λ _=>none) λ z1=>some (⟨(⟨z1.1,z1.2.1,z1.2.2.1,z1.2.2.2.1,z1.2.2.2.2.1,z1.2.2.2.2.2.1⟩:Aa),(⟨z1.2.2.2.2.2.2.1,z1.2.2.2.2.2.2.2.1,z1.2.2.2.2.2.2.2.2.1,z1.2.2.2.2.2.2.2.2.2.1⟩:Ab),z1.2.2.2.2.2.2.2.2.2.2⟩:Ax)
def zY (x2:Int) (n0:Nat) (a0:Ai) (z0:Unit):Option (Ctl Unit (Ai×Bool)):=
 (qW a0.Ap x2).bind λ y3=>bif y3 then some (.ret (a0,true)) else some (.next ())
def Akj (x0:Aa) (x1:Ab) (x2:Int):Option (Ai×Bool):=
 (F67 x0 x1).bind λ y1=>andThen (foldI (zY x2) y1 0 ()) some λ z0=>some ((⟨([]:List Int),([]:List Int),([]:List Int)⟩:Ai),false)
def Adb (x0:Aa) (x1:Ab) (x2:Int):Option Bool:=
 (Akj x0 x1 x2).bind λ y1=>some (decide ((y1.1.Ac.length:Int)>0))
def qQ (x0:Af) (x1:Ax):Option (Bool×Ax):=
 (A5 [((x0.Kind==3),true)] (Adb x1.Aj x1.Az x0.A) default).bind λ y1=>some (((x0.Kind==3)&&(!y1)),x1)
def Vc (n0:Nat) (a0:Af) (z0:Sg7):Option (Ctl (Sg7) Unit):=
 (getI z0.2.2.2.2.2.2.1 (cnt 0 n0)).bind λ y1=>(A5 [(y1,true)] (qQ a0 (⟨(⟨z0.1,z0.2.1,z0.2.2.1,z0.2.2.2.1,z0.2.2.2.2.1,z0.2.2.2.2.2.1⟩:Aa),(⟨z0.2.2.2.2.2.2.1,z0.2.2.2.2.2.2.2.1,z0.2.2.2.2.2.2.2.2.1,z0.2.2.2.2.2.2.2.2.2.1⟩:Ab),z0.2.2.2.2.2.2.2.2.2.2⟩:Ax)) (default,(⟨(⟨z0.1,z0.2.1,z0.2.2.1,z0.2.2.2.1,z0.2.2.2.2.1,z0.2.2.2.2.2.1⟩:Aa),(⟨z0.2.2.2.2.2.2.1,z0.2.2.2.2.2.2.2.1,z0.2.2.2.2.2.2.2.2.1,z0.2.2.2.2.2.2.2.2.2.1⟩:Ab),z0.2.2.2.2.2.2.2.2.2.2⟩:Ax))).bind λ y3=>bif (y1&&y3.1) then none else some (.next (y3.2.Aj.Ap,y3.2.Aj.Ag,y3.2.Aj.Ac,y3.2.Aj.Ah,y3.2.Aj.Phase,y3.2.Aj.An,y3.2.Az.Am,y3.2.Az.Ac,y3.2.Az.Aw,y3.2.Az.As,y3.2.acts))
def Vb (n1:Nat) (a1:Int) (z1:Sg7):Option (Ctl (Sg7) Unit):=
 (Rb (⟨(⟨z1.1,z1.2.1,z1.2.2.1,z1.2.2.2.1,z1.2.2.2.2.1,z1.2.2.2.2.2.1⟩:Aa),(⟨z1.2.2.2.2.2.2.1,z1.2.2.2.2.2.2.2.1,z1.2.2.2.2.2.2.2.2.1,z1.2.2.2.2.2.2.2.2.2.1⟩:Ab),z1.2.2.2.2.2.2.2.2.2.2⟩:Ax) a1).bind λ y6=>some (.next (y6.Aj.Ap,y6.Aj.Ag,y6.Aj.Ac,y6.Aj.Ah,y6.Aj.Phase,y6.Aj.An,y6.Az.Am,y6.Az.Ac,y6.Az.Aw,y6.Az.As,y6.acts))
def qS (x0:Ax):Option Ax:=
 andThen (foldI Vc x0.Aj.Ag 0 (x0.Aj.Ap,x0.Aj.Ag,x0.Aj.Ac,x0.Aj.Ah,x0.Aj.Phase,x0.Aj.An,x0.Az.Am,x0.Az.Ac,x0.Az.Aw,x0.Az.As,x0.acts)) (λ _=>none) λ z0=>andThen (foldI Vb ([]:List Int) 0 (z0.1,z0.2.1,z0.2.2.1,z0.2.2.2.1,z0.2.2.2.2.1,z0.2.2.2.2.2.1,z0.2.2.2.2.2.2.1,z0.2.2.2.2.2.2.2.1,z0.2.2.2.2.2.2.2.2.1,z0.2.2.2.2.2.2.2.2.2.1,z0.2.2.2.2.2.2.2.2.2.2)) (λ _=>none) λ z1=>some (⟨(⟨z1.1,z1.2.1,z1.2.2.1,z1.2.2.2.1,z1.2.2.2.2.1,z1.2.2.2.2.2.1⟩:Aa),(⟨z1.2.2.2.2.2.2.1,z1.2.2.2.2.2.2.2.1,z1.2.2.2.2.2.2.2.2.1,z1.2.2.2.2.2.2.2.2.2.1⟩:Ab),z1.2.2.2.2.2.2.2.2.2.2⟩:Ax)
def uD (x0:Ax):Option Ax:=
 (qT x0).bind λ y1=>(qS y1).bind λ y3=>(F47 y3.Aj y3.Az).bind λ y5=>some (⟨y3.Aj,y5.1,y3.acts⟩:Ax)
def U6 (x1:Int) (x2:Int) (z0:Unit):Option (Ctl Unit Unit):=
 bif decide ((w64 (x1+1))<x2) then none else some (.brk ())
def qH (x0:List Int) (x1:Int) (x2:Int) (x3c0:Aa):Option Unit:=
 andThen (whileN (U6 x1 x2) 1152921504606846976 ()) (λ _=>none) λ z0=>some ()
def U8 (x1:Int) (z0:Unit):Option (Ctl Unit Unit):=
 bif decide (20<=x1) then none else some (.brk ())
def U7 (x1:Int) (z1:Unit):Option (Ctl Unit Unit):=
 bif decide (20<x1) then none else some (.brk ())
def qJ (x0:List Int) (x1:Int) (x2c0:Aa):Option Aa:=
 andThen (whileN (U8 x1) 1152921504606846976 ()) (λ _=>none) λ z0=>(qH x0 0 x1 x2c0).bind λ y2=>andThen (whileN (U7 x1) 1152921504606846976 ()) (λ _=>none) λ z1=>some x2c0
def qL (x0:List Int) (x1c0:Aa):Option Aa:=
 (qJ x0 (x0.length:Int) x1c0).bind λ y1=>some y1
def zX (x0:Aa) (z0:Unit):Option (Ctl Unit Unit):=
 bif decide (0<(x0.Ah.length:Int)) then none else some (.brk ())
def Akg (x0:Aa):Option ((List Int)):=
 (F86 x0).bind λ y1=>bif (y1 != 0) then none else andThen (whileN (zX x0) 1152921504606846976 ()) (λ _=>none) λ z0=>(qL ([]:List Int) x0).bind λ y5=>some ([]:List Int)
def qO (x0:Int) (x1:Ai):Option Bool:=
 (qW x1.Ah x0).bind λ y1=>some (!y1)
def U9 (x1c0:Ai) (n0:Nat) (a0:Int) (z0:Unit):Option (Ctl Unit (Int×Ai)):=
 (qO a0 x1c0).bind λ y1=>bif y1 then some (.ret (cnt 0 n0,x1c0)) else some (.next ())
def qK (x0:List Int) (x1c0:Ai):Option (Int×Ai):=
 andThen (foldI (U9 x1c0) x0 0 ()) some λ z0=>some ((-1),x1c0)
def qP (x0:List Int) (x1c0:Ai):Option ((List Int)×Ai):=
 (qK x0 x1c0).bind λ y1=>bif (y1.1==(-1)) then some (x0,y1.2) else none
def Vg (y1:(List Int)) (n0:Nat) (a0:Ai) (z0:Unit):Option (Ctl Unit Unit):=
 (F95 y1).bind λ y5=>(qP y5 a0).bind λ y7=>bif decide ((y7.2.Ac.length:Int)>0) then none else some (.next ())
def uC (x0:Ax):Option Unit:=
 (Akg x0.Aj).bind λ y1=>(F67 x0.Aj x0.Az).bind λ y3=>andThen (foldI (Vg y1) y3 0 ()) (λ _=>none) λ z0=>some ()
def uE (x0:Ax):Option Ax:=
 (uD x0).bind λ y1=>(uC y1).bind λ y3=>some y1
def uF (x0:Aa) (x1:Ab):Option (Ab×(List A0)×Int):=
 (F65 x0 x1).bind λ y1=>bif (y1 != 0) then none else (F66 x1).bind λ y4=>(uE (⟨x0,y4,([]:List A0)⟩:Ax)).bind λ y6=>some (y6.Az,y6.acts,0)
def Akr (x0:Aa) (x1:Ab):Option (Ab×(List A0)×Int):=
 (uF x0 x1).bind λ y1=>some (y1.1,y1.2.1,y1.2.2)
def jM (x1:A0):Option (Ctl Unit Unit):=
 bif (x1.Kind==7) then none else some (.next ())
def jN (y1:Ab×Int) (n1:Nat) (a1:A0) (z1:Sg8):Option (Ctl (Sg8) Unit):=
 (Rj (⟨(⟨z1.1,(⟨z1.2.2.2.2.2.2.2.1,z1.2.2.2.2.2.2.2.2.1,z1.2.2.2.2.2.2.2.2.2.1,z1.2.2.2.2.2.2.2.2.2.2.1⟩:Ab),z1.2.2.2.2.2.2.2.2.2.2.2.1,z1.2.2.2.2.2.2.2.2.2.2.2.2.1⟩:Al),(⟨z1.2.1,z1.2.2.1,z1.2.2.2.1,z1.2.2.2.2.1,z1.2.2.2.2.2.1,z1.2.2.2.2.2.2.1⟩:Aa),z1.2.2.2.2.2.2.2.2.2.2.2.2.2.2.1,z1.2.2.2.2.2.2.2.2.2.2.2.2.2.2.2.1⟩:Ay) a1 0).bind λ y11=>bif (a1.Kind==2) then (getI z1.2.2.2.2.2.2.2.2.2.2.2.2.2.1 a1.Unit).bind λ y14=>(setI z1.2.2.2.2.2.2.2.2.2.2.2.2.2.1 a1.Unit false).bind λ y16=>(Q6 y11 (⟨y16,y1.1.Ac,z1.2.2.2.2.2.2.2.2.2.2.2.2.2.2.2.2,y1.1.As⟩:Ab)).bind λ y18=>some (.next (y18.Ao.Time,y18.Aj.Ap,y18.Aj.Ag,y18.Aj.Ac,y18.Aj.Ah,y18.Aj.Phase,y18.Aj.An,y18.Ao.Power.Am,y18.Ao.Power.Ac,y18.Ao.Power.Aw,y18.Ao.Power.As,y18.Ao.Av,y18.Ao.A7,y16,y18.events,y18.states,z1.2.2.2.2.2.2.2.2.2.2.2.2.2.2.2.2)) else (getI z1.2.2.2.2.2.2.2.2.2.2.2.2.2.2.2.2 a1.Unit).bind λ y20=>(setI z1.2.2.2.2.2.2.2.2.2.2.2.2.2.2.2.2 a1.Unit a1.Value).bind λ y22=>(Q6 y11 (⟨z1.2.2.2.2.2.2.2.2.2.2.2.2.2.1,y1.1.Ac,y22,y1.1.As⟩:Ab)).bind λ y24=>some (.next (y24.Ao.Time,y24.Aj.Ap,y24.Aj.Ag,y24.Aj.Ac,y24.Aj.Ah,y24.Aj.Phase,y24.Aj.An,y24.Ao.Power.Am,y24.Ao.Power.Ac,y24.Ao.Power.Aw,y24.Ao.Power.As,y24.Ao.Av,y24.Ao.A7,z1.2.2.2.2.2.2.2.2.2.2.2.2.2.1,y24.events,y24.states,y22))
def Ac2 (x0:Ay) (x1:A0):Option Ay:=
 (F78 x0.Aj x0.Ao.Power x0.Ao.Time x1).bind λ y1=>andThen (jM x1) (λ _=>none) λ z0=>(Rj x0 x1 y1.2).bind λ y4=>bif (y1.2 != 0) then none else (Q6 y4 y1.1).bind λ y7=>(Akr y7.Aj y1.1).bind λ y9=>andThen (foldI (jN y1) y9.2.1 0 (y7.Ao.Time,y7.Aj.Ap,y7.Aj.Ag,y7.Aj.Ac,y7.Aj.Ah,y7.Aj.Phase,y7.Aj.An,y7.Ao.Power.Am,y7.Ao.Power.Ac,y7.Ao.Power.Aw,y7.Ao.Power.As,y7.Ao.Av,y7.Ao.A7,y1.1.Am,y7.events,y7.states,y1.1.Aw)) (λ _=>none) λ z1=>(F50 (⟨z1.2.2.2.2.2.2.2.2.2.2.2.2.2.1,y1.1.Ac,z1.2.2.2.2.2.2.2.2.2.2.2.2.2.2.2.2,y1.1.As⟩:Ab) y9.1).bind λ y26=>bif !y26 then none else some (⟨(⟨z1.1,y9.1,z1.2.2.2.2.2.2.2.2.2.2.2.1,z1.2.2.2.2.2.2.2.2.2.2.2.2.1⟩:Al),(⟨z1.2.1,z1.2.2.1,z1.2.2.2.1,z1.2.2.2.2.1,z1.2.2.2.2.2.1,z1.2.2.2.2.2.2.1⟩:Aa),z1.2.2.2.2.2.2.2.2.2.2.2.2.2.2.1,z1.2.2.2.2.2.2.2.2.2.2.2.2.2.2.2.1⟩:Ay)
def Ac8 (x0:Int) (x1:Int):Int×Int:=
 (IntKind.wrap .u64 ((IntKind.wrap .u64 ((IntKind.wrap .u64 ((Hv .u64 x0 32)*(Hv .u64 x1 32)))+(Hv .u64 (IntKind.wrap .u64 ((IntKind.wrap .u64 ((Hv .u64 x0 32)*(Iw .u64 x1 4294967295)))+(Hv .u64 (IntKind.wrap .u64 ((Iw .u64 x0 4294967295)*(Iw .u64 x1 4294967295))) 32))) 32)))+(Hv .u64 (IntKind.wrap .u64 ((Iw .u64 (IntKind.wrap .u64 ((IntKind.wrap .u64 ((Hv .u64 x0 32)*(Iw .u64 x1 4294967295)))+(Hv .u64 (IntKind.wrap .u64 ((Iw .u64 x0 4294967295)*(Iw .u64 x1 4294967295))) 32))) 4294967295)+(IntKind.wrap .u64 ((Iw .u64 x0 4294967295)*(Hv .u64 x1 32))))) 32)),IntKind.wrap .u64 (x0*x1))
def Mm (x0:Int) (x1:Int):Int×Int:=
 ((Ac8 x0 x1).1,(Ac8 x0 x1).2)
def Aaa (x1:Int):Option (Ctl Unit Unit):=
 bif decide (x1<0) then none else some (.next ())
def Aod (x0:List Ar) (x1:Int):Bool:=((decide (((Mm (IntKind.wrap .u64 (x0.length:Int)) (IntKind.wrap .u64 x1)).1)>0)) || (decide (((Mm (IntKind.wrap .u64 (x0.length:Int)) (IntKind.wrap .u64 x1)).2)>9223372036854775807)))
def zZ (x0:List Ar) (x1:Int):Option (Ctl Unit Unit):=
 bif (Aod x0 x1) then none else some (.next ())
def Aoc (x0:List Ar) (y3:List Ar):Bool:=decide (((Nat.min x0.length y3.length):Int)<((Mb y3 0 y3.length x0).length:Int))
def Aab (x0:List Ar) (y3:List Ar) (z2:Unit):Option (Ctl Unit Unit):=
 bif (Aoc x0 y3) then none else some (.brk ())
def Akk (x0:List Ar) (x1:Int):Option ((List Ar)):=
 andThen (Aaa x1) (λ _=>none) λ z0=>andThen (zZ x0 x1) (λ _=>none) λ z1=>(mkI 17 (w64 ((Mm (IntKind.wrap .u64 (x0.length:Int)) (IntKind.wrap .u64 x1)).2)) (⟨0,0⟩:Ar)).bind λ y3=>andThen (whileN (Aab x0 y3) 1152921504606846976 ()) (λ _=>none) λ z2=>some (Mb y3 0 y3.length x0)
def Akq (x0:Int):Option ((List Ar)):=
 (Akk [(⟨(-1),(-1)⟩:Ar)] x0).bind λ y1=>some y1
def jR (n0:Nat) (a0:Int) (z0:(List Ai)):Option (Ctl ((List Ai)) Unit):=
 (getI z0 a0).bind λ y8=>(appI 9 y8.Ap [cnt 0 n0]).bind λ y10=>(setI z0 a0 (⟨y10,y8.Ac,y8.Ah⟩:Ai)).bind λ y12=>some (.next y12)
def Al5 (x0:Aa) (z1:Int):Bool:=decide (z1<(x0.Ac.length:Int))
def jQ (x0:Aa) (x1:Ab) (z1:Int):Option (Ctl Int Unit):=
 bif (Al5 x0 z1) then (F98 x0 x1 z1).bind λ y15=>bif y15.2 then none else some (.next (w64 (z1+1))) else some (.brk z1)
def jP (x0:Aa) (z2:Unit):Option (Ctl Unit Unit):=
 bif decide (0<(x0.Ah.length:Int)) then none else some (.brk ())
def Ac6 (x0:Aa) (x1:Ab):Option ((List Ai)):=
 (F65 x0 x1).bind λ y1=>bif (y1 != 0) then none else (F97 x0 x1).bind λ y4=>(mkI 73 x0.Ap (⟨([]:List Int),([]:List Int),([]:List Int)⟩:Ai)).bind λ y6=>andThen (foldI jR y4 0 y6) (λ _=>none) λ z0=>andThen (whileN (jQ x0 x1) 1152921504606846976 0) (λ _=>none) λ z1=>andThen (whileN (jP x0) 1152921504606846976 ()) (λ _=>none) λ z2=>(Rk z0).bind λ y19=>some y19
def Al3 (a0:Ai) (y7:Bool):Bool:=(((a0.Ac.length:Int)==0) || (!y7))
def jL (x0:Ay) (n0:Nat) (a0:Ai) (z0:Unit):Option (Ctl Unit Unit):=
 (getI a0.Ap 0).bind λ y5=>(A5 [(((a0.Ac.length:Int)==0),false)] (Adb x0.Aj x0.Ao.Power y5) default).bind λ y7=>bif (Al3 a0 y7) then some (.next ()) else none
def Ac1 (x0:Ay) (x1:Bd):Option Ay:=
 (Akq x0.Aj.Ap).bind λ y1=>(Ac6 x0.Aj x0.Ao.Power).bind λ y3=>andThen (foldI (jL x0) y3 0 ()) (λ _=>none) λ z0=>some (⟨(⟨x0.Ao.Time,x0.Ao.Power,y1,x0.Ao.A7⟩:Al),x0.Aj,x0.events,x0.states⟩:Ay)
def Ac3 (x0:Ay) (x1:Ab):Option Ay:=
 (F66 x0.Ao.Power).bind λ y3=>(appI 97 x0.states [y3]).bind λ y5=>some (⟨x0.Ao,x0.Aj,x0.events,y5⟩:Ay)
def Aib (n0:Nat) (a0:A0) (z0:Sg9):Option (Ctl (Sg9) Unit):=
 (Ac2 (⟨(⟨z0.1,(⟨z0.2.2.2.2.2.2.2.1,z0.2.2.2.2.2.2.2.2.1,z0.2.2.2.2.2.2.2.2.2.1,z0.2.2.2.2.2.2.2.2.2.2.1⟩:Ab),z0.2.2.2.2.2.2.2.2.2.2.2.1,z0.2.2.2.2.2.2.2.2.2.2.2.2.1⟩:Al),(⟨z0.2.1,z0.2.2.1,z0.2.2.2.1,z0.2.2.2.2.1,z0.2.2.2.2.2.1,z0.2.2.2.2.2.2.1⟩:Aa),z0.2.2.2.2.2.2.2.2.2.2.2.2.2.1,z0.2.2.2.2.2.2.2.2.2.2.2.2.2.2⟩:Ay) a0).bind λ y10=>some (.next (y10.Ao.Time,y10.Aj.Ap,y10.Aj.Ag,y10.Aj.Ac,y10.Aj.Ah,y10.Aj.Phase,y10.Aj.An,y10.Ao.Power.Am,y10.Ao.Power.Ac,y10.Ao.Power.Aw,y10.Ao.Power.As,y10.Ao.Av,y10.Ao.A7,y10.events,y10.states))
def F53 (x0:Aa) (x1:Bd) (x2:Al) (x3:List A0):Option (Ay×Int):=
 (F29 x0 x1 x2).bind λ y1=>bif (y1 != 0) then none else bif decide ((x3.length:Int)>200) then none else bif (x2.Time==2147483648) then none else (F74 x0 x2).bind λ y6=>(Ac4 y6 x2.Power).bind λ y8=>andThen (foldI Aib x3 0 (y8.Ao.Time,y8.Aj.Ap,y8.Aj.Ag,y8.Aj.Ac,y8.Aj.Ah,y8.Aj.Phase,y8.Aj.An,y8.Ao.Power.Am,y8.Ao.Power.Ac,y8.Ao.Power.Aw,y8.Ao.Power.As,y8.Ao.Av,y8.Ao.A7,y8.events,y8.states)) (λ _=>none) λ z0=>(Ac1 (⟨(⟨z0.1,(⟨z0.2.2.2.2.2.2.2.1,z0.2.2.2.2.2.2.2.2.1,z0.2.2.2.2.2.2.2.2.2.1,z0.2.2.2.2.2.2.2.2.2.2.1⟩:Ab),z0.2.2.2.2.2.2.2.2.2.2.2.1,z0.2.2.2.2.2.2.2.2.2.2.2.2.1⟩:Al),(⟨z0.2.1,z0.2.2.1,z0.2.2.2.1,z0.2.2.2.2.1,z0.2.2.2.2.2.1,z0.2.2.2.2.2.2.1⟩:Aa),z0.2.2.2.2.2.2.2.2.2.2.2.2.2.1,z0.2.2.2.2.2.2.2.2.2.2.2.2.2.2⟩:Ay) x1).bind λ y12=>(F78 x0 y12.Ao.Power y12.Ao.Time (⟨7,0,0⟩:A0)).bind λ y14=>(Ac3 (⟨(⟨y12.Ao.Time,y14.1,y12.Ao.Av,y12.Ao.A7⟩:Al),y12.Aj,y12.events,y12.states⟩:Ay) y14.1).bind λ y16=>(appI 41 y16.Ao.A7 y16.events).bind λ y18=>(cutI y18 (max 0 (w64 ((y18.length:Int)-200))) (y18.length:Int)).bind λ y21=>(F79 y21).bind λ y22=>some ((⟨(⟨w64 (y16.Ao.Time+1),y16.Ao.Power,y16.Ao.Av,y22⟩:Al),y16.Aj,y16.events,y16.states⟩:Ay),0)
def F31 (x0:Aa) (x1:Bd) (x2:Al) (x3:List A0):Option (Al×(List A3)×Int):=
 (F53 x0 x1 x2 x3).bind λ y1=>bif (y1.2 != 0) then none else some (y1.1.Ao,y1.1.events,0)
def F42:Int:=
 14695981039346656037
def F22 (x0:Al):Option ByteArray:=
 Jc ([[x0.Time],x0.Power.Am.map Cm]++x0.Power.Ac.map (λ s=>[s.State,s.Since,s.An,s.Phase])++[x0.Power.Aw]++x0.Power.As.map (λ s=>[s.Kind,s.Number])++x0.Av.map (λ s=>[s.High,s.Low]))
def Aid (n0:Nat) (a0:Int) (z0:Int):Option (Ctl Int Unit):=
 some (.next (IntKind.wrap .u64 ((Ail .u64 z0 (IntKind.wrap .u64 a0))*1099511628211)))
def F41 (x0:Int) (x1:ByteArray):Option Int:=
 (Mf x1).bind λ y1=>andThen (foldI Aid y1 0 x0) (λ _=>none) λ z0=>some z0
def F23 (x0:Al):Option Int:=
 (F22 x0).bind λ y1=>(F41 F42 y1).bind λ y3=>some y3
def Aqc (x3:List (List A0)) (x4:Int):Bool:=((decide (x4<0)) || (decide (x4>(x3.length:Int))))
def Aqb (x3:List (List A0)) (x4:Int) (z0:Sg1):Bool:=decide (z0.1<(w64 ((x3.length:Int)-x4)))
def Aij (x0:Aa) (x1:Bd) (x3:List (List A0)) (x4:Int) (z0:Sg1):Option (Ctl (Sg1) Unit):=
 bif (Aqb x3 x4 z0) then (getI x3 (w64 (x4+z0.1))).bind λ y9=>(F31 x0 x1 (⟨z0.2.2.2.2.2.2.2.1,(⟨z0.2.1,z0.2.2.1,z0.2.2.2.1,z0.2.2.2.2.1⟩:Ab),z0.2.2.2.2.2.1,z0.2.2.2.2.2.2.1⟩:Al) y9).bind λ y11=>bif (y11.2.2 != 0) then none else (F23 y11.1).bind λ y14=>(appI 9 z0.2.2.2.2.2.2.2.2 [y14]).bind λ y16=>some (.next (w64 (z0.1+1),y11.1.Power.Am,y11.1.Power.Ac,y11.1.Power.Aw,y11.1.Power.As,y11.1.Av,y11.1.A7,y11.1.Time,y16)) else some (.brk (z0.1,z0.2.1,z0.2.2.1,z0.2.2.2.1,z0.2.2.2.2.1,z0.2.2.2.2.2.1,z0.2.2.2.2.2.2.1,z0.2.2.2.2.2.2.2.1,z0.2.2.2.2.2.2.2.2))
def F15 (x0:Aa) (x1:Bd) (x2:Al) (x3:List (List A0)) (x4:Int):Option ((List Int)×Al×Int):=
 bif (Aqc x3 x4) then none else bif decide ((x3.length:Int)>60) then none else (F29 x0 x1 x2).bind λ y3=>bif (y3 != 0) then none else (F30 x2).bind λ y6=>andThen (whileN (Aij x0 x1 x3 x4) 1152921504606846976 (0,y6.Power.Am,y6.Power.Ac,y6.Power.Aw,y6.Power.As,y6.Av,y6.A7,y6.Time,([]:List Int))) (λ _=>none) λ z0=>some (z0.2.2.2.2.2.2.2.2,(⟨z0.2.2.2.2.2.2.2.1,(⟨z0.2.1,z0.2.2.1,z0.2.2.2.1,z0.2.2.2.2.1⟩:Ab),z0.2.2.2.2.2.1,z0.2.2.2.2.2.2.1⟩:Al),0)
def F14 (x0:Aa) (x1:Bd) (x2:Al) (x3:List (List A0)):Option ((List Int)×Al×Int):=
 (F15 x0 x1 x2 x3 0).bind λ y1=>some (y1.1,y1.2.1,y1.2.2)
def Ap9 (x0:List Int) (x1:List Int) (z0:Int):Bool:=decide (z0<(max (x0.length:Int) (x1.length:Int)))
def Ap8 (x0:List Int) (x1:List Int) (z0:Int) (y2:Int) (y4:Int):Bool:=(((decide (z0>=(x0.length:Int))) || (decide (z0>=(x1.length:Int)))) || (y2 != y4))
def Aif (x0:List Int) (x1:List Int) (z0:Int):Option (Ctl Int Int):=
 bif (Ap9 x0 x1 z0) then (A5 [(((decide (z0>=(x0.length:Int))) || (decide (z0>=(x1.length:Int)))),false)] (getI x0 z0) default).bind λ y2=>(A5 [(((decide (z0>=(x0.length:Int))) || (decide (z0>=(x1.length:Int)))),false)] (getI x1 z0) default).bind λ y4=>bif (Ap8 x0 x1 z0 y2 y4) then some (.ret z0) else some (.next (w64 (z0+1))) else some (.brk z0)
def F25 (x0:List Int) (x1:List Int):Option Int:=
 andThen (whileN (Aif x0 x1) 1152921504606846976 0) some λ z0=>some (-1)
def F18 (x0:Aa) (x1:Bd) (x2:Al) (x3:List (List A0)) (x4:List (List A0)):Option (Int×Int):=
 (F14 x0 x1 x2 x3).bind λ y1=>bif (y1.2.2 != 0) then none else (F14 x0 x1 x2 x4).bind λ y4=>bif (y4.2.2 != 0) then none else (F25 y1.1 y4.1).bind λ y7=>some (y7,0)
def F8:Option Bool:=
 (F24 (⟨1,[(⟨2,0,0⟩:Af)],[(⟨10,0,0⟩:A8)],[],0,0⟩:Aa) (⟨80,10,1⟩:Bd)).bind λ y1=>(F18 (⟨1,[(⟨2,0,0⟩:Af)],[(⟨10,0,0⟩:A8)],[],0,0⟩:Aa) (⟨80,10,1⟩:Bd) y1.1 [([]:List A0),([]:List A0),([]:List A0),[(⟨3,0,0⟩:A0)],([]:List A0)] [([]:List A0),([]:List A0),([]:List A0),([]:List A0),([]:List A0)]).bind λ y3=>(A5 [((((y1.2==0)&&(y3.2==0))&&(y3.1==3)),true)] (F22 y1.1) default).bind λ y5=>(A5 [(((((y1.2==0)&&(y3.2==0))&&(y3.1==3))&&(y5.toList==(⟨#[48,10,48,10,48,32,48,32,53,48,48,48,32,48,10,10,45,49,32,45,49,10]⟩:ByteArray).toList)),true)] (F25 [1,2] [1,3]) default).bind λ y7=>(A5 [((((((y1.2==0)&&(y3.2==0))&&(y3.1==3))&&(y5.toList==(⟨#[48,10,48,10,48,32,48,32,53,48,48,48,32,48,10,10,45,49,32,45,49,10]⟩:ByteArray).toList))&&(y7==1)),true)] (F25 [1] [1]) default).bind λ y9=>some ((((((y1.2==0)&&(y3.2==0))&&(y3.1==3))&&(y5.toList==(⟨#[48,10,48,10,48,32,48,32,53,48,48,48,32,48,10,10,45,49,32,45,49,10]⟩:ByteArray).toList))&&(y7==1))&&(y9==(-1)))
def F9 (x0:List Int):Option Ad:=
 (cutI x0 0 (min (x0.length:Int) 600)).bind λ y2=>some (⟨y2,0⟩:Ad)
def F35 (x0:Int) (x1:Int):Option Int:=
 bif decide (x1<1) then some 0 else (nzI x1).bind λ u3=>(nzI x1).bind λ u5=>some (Int.tmod (w64 ((Int.tmod x0 x1)+x1)) x1)
def F19 (x0:Ad) (x1:Int):Option (Int×Ad):=
 bif decide (x0.At>=(x0.L.length:Int)) then some (0,x0) else (getI x0.L (w64 ((w64 (x0.At+1))-1))).bind λ y2=>(F35 y2 x1).bind λ y4=>some (y4,(⟨x0.L,w64 (x0.At+1)⟩:Ad))
def F26 (x0:Ad) (x1:Int) (x2:Int):Option (Int×Ad):=
 (F19 x0 (w64 ((w64 (x2-x1))+1))).bind λ y1=>some (w64 (x1+y1.1),y1.2)
def F27 (x0:Ad) (x1:List Int):Option (Int×Ad):=
 (F19 x0 (x1.length:Int)).bind λ y1=>(getI x1 y1.1).bind λ y3=>some (y3,y1.2)
def Ri (y1:Int×Ad) (z0:Sg2):Option (Ctl (Sg2) Unit):=
 bif decide (z0.1<y1.1) then (F19 (⟨z0.2.1,z0.2.2.1⟩:Ad) 6).bind λ y8=>bif decide (y8.1<5) then (F19 y8.2 z0.1).bind λ y11=>(appI 25 z0.2.2.2 [(⟨1,y11.1,z0.1⟩:Af)]).bind λ y13=>some (.next (w64 (z0.1+1),y11.2.L,y11.2.At,y13)) else some (.next (w64 (z0.1+1),y8.2.L,y8.2.At,z0.2.2.2)) else some (.brk (z0.1,z0.2.1,z0.2.2.1,z0.2.2.2))
def uK (y1:Int×Ad) (z0:Sg2) (y15:Int×Ad):Option (Ctl ((List Af)) Unit):=
 bif ((decide (y1.1>2))&&(y15.1==1)) then (appI 25 z0.2.2.2 [(⟨1,0,w64 (y1.1-1)⟩:Af)]).bind λ y18=>some (.next y18) else some (.next z0.2.2.2)
def Rh (y1:Int×Ad) (z2:Sg4):Option (Ctl (Sg4) Unit):=
 bif decide (z2.1>0) then (F19 (⟨z2.2.1,z2.2.2.1⟩:Ad) y1.1).bind λ y23=>(appI 25 z2.2.2.2.1 [(⟨2,y23.1,(z2.2.2.2.2.length:Int)⟩:Af)]).bind λ y25=>(F27 y23.2 [10,50,100]).bind λ y27=>(F27 y27.2 [0,5,y27.1]).bind λ y29=>(F27 y29.2 [0,1,3]).bind λ y31=>(appI 25 z2.2.2.2.2 [(⟨y27.1,y29.1,y31.1⟩:A8)]).bind λ y33=>some (.next (w64 (z2.1-1),y31.2.L,y31.2.At,y25,y33)) else some (.brk (z2.1,z2.2.1,z2.2.2.1,z2.2.2.2.1,z2.2.2.2.2))
def uJ (y1:Int×Ad) (z3:Sg3) (y38:Int×Ad) (y40:List Af) (y42:Int×Ad):Option (Ctl ((List Af)) Unit):=
 bif ((decide (y1.1>1))&&(y42.1==3)) then (nzI y1.1).bind λ u46=>(appI 25 y40 [(⟨3,Int.tmod (w64 (y38.1+1)) y1.1,(z3.2.2.2.2.length:Int)⟩:Af)]).bind λ y47=>some (.next y47) else some (.next y40)
def Alk (z3:Sg3) (y57:Int×Ad):Bool:=((decide ((z3.2.2.2.2.length:Int)>0))&&(y57.1==3))
def Rg (y1:Int×Ad) (z3:Sg3):Option (Ctl (Sg3) Unit):=
 bif decide (z3.1>0) then (F19 (⟨z3.2.1,z3.2.2.1⟩:Ad) y1.1).bind λ y38=>(appI 25 z3.2.2.2.1 [(⟨3,y38.1,(z3.2.2.2.2.length:Int)⟩:Af)]).bind λ y40=>(A5 [(decide (y1.1>1),true)] (F19 y38.2 4) (default,y38.2)).bind λ y42=>andThen (uJ y1 z3 y38 y40 y42) (λ _=>none) λ z4=>(F27 y42.2 [0,5,20,40]).bind λ y49=>(F27 y49.2 [0,w64 (Int.tdiv y49.1 2),y49.1]).bind λ y51=>(F19 y51.2 3).bind λ y53=>(F26 y53.2 (-1) 2).bind λ y55=>(A5 [(decide ((z3.2.2.2.2.length:Int)>0),true)] (F19 y55.2 4) (default,y55.2)).bind λ y57=>bif (Alk z3 y57) then (F19 y57.2 (z3.2.2.2.2.length:Int)).bind λ y60=>(appI 57 z3.2.2.2.2 [(⟨y49.1,y51.1,y53.1,y55.1,[y60.1]⟩:A1)]).bind λ y62=>some (.next (w64 (z3.1-1),y60.2.L,y60.2.At,z4,y62)) else (appI 57 z3.2.2.2.2 [(⟨y49.1,y51.1,y53.1,y55.1,([]:List Int)⟩:A1)]).bind λ y64=>some (.next (w64 (z3.1-1),y57.2.L,y57.2.At,z4,y64)) else some (.brk (z3.1,z3.2.1,z3.2.2.1,z3.2.2.2.1,z3.2.2.2.2))
def F10 (x0:Ad):Option (Aa×Ad):=
 (F26 x0 1 4).bind λ y1=>(F27 y1.2 [0,50,200,1800]).bind λ y3=>(F27 y3.2 [0,10,50]).bind λ y5=>andThen (whileN (Ri y1) 1152921504606846976 (1,y5.2.L,y5.2.At,([]:List Af))) (λ _=>none) λ z0=>(A5 [(decide (y1.1>2),true)] (F19 (⟨z0.2.1,z0.2.2.1⟩:Ad) 2) (default,(⟨z0.2.1,z0.2.2.1⟩:Ad))).bind λ y15=>andThen (uK y1 z0 y15) (λ _=>none) λ z1=>(F19 y15.2 5).bind λ y20=>andThen (whileN (Rh y1) 1152921504606846976 (y20.1,y20.2.L,y20.2.At,z1,([]:List A8))) (λ _=>none) λ z2=>(F19 (⟨z2.2.1,z2.2.2.1⟩:Ad) 6).bind λ y35=>andThen (whileN (Rg y1) 1152921504606846976 (y35.1,y35.2.L,y35.2.At,z2.2.2.2.1,([]:List A1))) (λ _=>none) λ z3=>some ((⟨y1.1,z3.2.2.2.1,z2.2.2.2.2,z3.2.2.2.2,y3.1,y5.1⟩:Aa),(⟨z3.2.1,z3.2.2.1⟩:Ad))
def F64 (x0:Aa) (x1:Aq):Bool:=
 bif (x1.Kind==1) then F82 x1.Number 0 (w64 ((x0.Ac.length:Int)-1)) else bif (x1.Kind==2) then F82 x1.Number 0 (w64 ((x0.Ag.length:Int)-1)) else bif (x1.Kind==3) then F82 x1.Number 0 (w64 (x0.Ap-1)) else bif (x1.Kind==4) then F82 x1.Number 0 (w64 ((x0.Ah.length:Int)-1)) else false
def yT (x1:Aa) (z0:Int×(List Int)×Int×(List Bool)):Bool:=decide (z0.1<(x1.Ag.length:Int))
def Kq (x1:Aa) (z0:Int×(List Int)×Int×(List Bool)):Option (Ctl (Int×(List Int)×Int×(List Bool)) Unit):=
 bif (yT x1 z0) then (F19 (⟨z0.2.1,z0.2.2.1⟩:Ad) 2).bind λ y2=>(appI 2 z0.2.2.2 [(y2.1==1)]).bind λ y4=>some (.next (w64 (z0.1+1),y2.2.L,y2.2.At,y4)) else some (.brk (z0.1,z0.2.1,z0.2.2.1,z0.2.2.2))
def yS (x1:Aa) (z1:Int×(List Bool)):Bool:=decide (z1.1<(x1.Ah.length:Int))
def Zk (z1:Int×(List Bool)) (a2:Af) (y7:Bool):Bool:=(((a2.Kind==3)&&(a2.B==z1.1))&&y7)
def Ko (z1:Int×(List Bool)) (n2:Nat) (a2:Af) (z2:Bool×(List Bool)):Option (Ctl (Bool×(List Bool)) Unit):=
 (A5 [(((a2.Kind==3)&&(a2.B==z1.1)),true)] (getI z2.2 (cnt 0 n2)) default).bind λ y7=>bif (Zk z1 a2 y7) then (getI z2.2 (cnt 0 n2)).bind λ y10=>(setI z2.2 (cnt 0 n2) z2.1).bind λ y12=>some (.next (false,y12)) else some (.next (z2.1,z2.2))
def Kp (x1:Aa) (z1:Int×(List Bool)):Option (Ctl (Int×(List Bool)) Unit):=
 bif (yS x1 z1) then andThen (foldI (Ko z1) x1.Ag 0 (true,z1.2)) (λ _=>none) λ z2=>some (.next (w64 (z1.1+1),z2.2)) else some (.brk (z1.1,z1.2))
def Zj (x1:Aa) (z3:Sg6):Bool:=decide (z3.1<(x1.Ac.length:Int))
def Kn (x1:Aa) (z3:Sg6):Option (Ctl (Sg6) Unit):=
 bif (Zj x1 z3) then (F27 (⟨z3.2.1,z3.2.2.1⟩:Ad) [0,1,2,2,2,3]).bind λ y15=>(F19 y15.2 5).bind λ y17=>(F27 y17.2 [5000,5000,5005,4950]).bind λ y19=>(F27 y19.2 [0,0,40,1800,3590]).bind λ y21=>(appI 33 z3.2.2.2 [(⟨y15.1,y17.1,y19.1,y21.1⟩:Ae)]).bind λ y23=>some (.next (w64 (z3.1+1),y21.2.L,y21.2.At,y23)) else some (.brk (z3.1,z3.2.1,z3.2.2.1,z3.2.2.2))
def Km (n4:Nat) (a4:A1) (z4:(List Int)×Int×(List Int)):Option (Ctl ((List Int)×Int×(List Int)) Unit):=
 (F27 (⟨z4.1,z4.2.1⟩:Ad) [a4.Load,a4.Load,a4.Least,w64 (Int.tdiv a4.Load 3)]).bind λ y25=>(appI 9 z4.2.2 [y25.1]).bind λ y27=>some (.next (y25.2.L,y25.2.At,y27))
def Kl (x1:Aa) (z5:Int×(List Int)×Int×(List Aq)):Option (Ctl (Int×(List Int)×Int×(List Aq)) Unit):=
 bif decide (z5.1<=4) then (F19 (⟨z5.2.1,z5.2.2.1⟩:Ad) 5).bind λ y30=>bif (y30.1==4) then (F19 y30.2 4).bind λ y33=>bif F64 x1 (⟨z5.1,y33.1⟩:Aq) then (appI 17 z5.2.2.2 [(⟨z5.1,y33.1⟩:Aq)]).bind λ y36=>some (.next (w64 (z5.1+1),y33.2.L,y33.2.At,y36)) else some (.next (w64 (z5.1+1),y33.2.L,y33.2.At,z5.2.2.2)) else some (.next (w64 (z5.1+1),y30.2.L,y30.2.At,z5.2.2.2)) else some (.brk (z5.1,z5.2.1,z5.2.2.1,z5.2.2.2))
def Nh (x0:Ad) (x1:Aa):Option (Ab×Ad):=
 andThen (whileN (Kq x1) 1152921504606846976 (0,x0.L,x0.At,([]:List Bool))) (λ _=>none) λ z0=>andThen (whileN (Kp x1) 1152921504606846976 (0,z0.2.2.2)) (λ _=>none) λ z1=>andThen (whileN (Kn x1) 1152921504606846976 (0,z0.2.1,z0.2.2.1,([]:List Ae))) (λ _=>none) λ z3=>andThen (foldI Km x1.Ah 0 (z3.2.1,z3.2.2.1,([]:List Int))) (λ _=>none) λ z4=>andThen (whileN (Kl x1) 7 (1,z4.1,z4.2.1,([]:List Aq))) (λ _=>none) λ z5=>some ((⟨z1.2,z3.2.2.2,z4.2.2,z5.2.2.2⟩:Ab),(⟨z5.2.1,z5.2.2.1⟩:Ad))
def F84 (x0:Aq) (x1:Aq):Bool:=
 ((decide (x0.Kind<x1.Kind)) || ((x0.Kind==x1.Kind)&&(decide (x0.Number<x1.Number))))
def Alc (x0:Aa) (x1:Ab):Bool:=((((x1.Am.length:Int) != (x0.Ag.length:Int)) || ((x1.Ac.length:Int) != (x0.Ac.length:Int))) || ((x1.Aw.length:Int) != (x0.Ah.length:Int)))
def Alb (a0:Ae):Bool:=((((!(F82 a0.State 0 3)) || (!(F82 a0.Since 0 2147483648))) || (!(F82 a0.An 0 6000))) || (!(F82 a0.Phase 0 3599)))
def jY (n0:Nat) (a0:Ae) (z0:Unit):Option (Ctl Unit Int):=
 bif (Alb a0) then some (.ret 11) else some (.next ())
def jX (x0:Aa) (n1:Nat) (a1:Int) (z1:Unit):Option (Ctl Unit Int):=
 (getI x0.Ah (cnt 0 n1)).bind λ y6=>bif !(F82 a1 0 y6.Load) then some (.ret 11) else some (.next ())
def Ala (x0:Aa) (n2:Nat) (a2:Aq) (y10:Aq):Bool:=((!(F64 x0 a2)) || ((decide ((cnt 0 n2)>0))&&(!(F84 y10 a2))))
def jW (x0:Aa) (x1:Ab) (n2:Nat) (a2:Aq) (z2:Unit):Option (Ctl Unit Int):=
 (A5 [(!(F64 x0 a2),false),(decide ((cnt 0 n2)>0),true)] (getI x1.As (w64 ((cnt 0 n2)-1))) default).bind λ y10=>bif (Ala x0 n2 a2 y10) then some (.ret 11) else some (.next ())
def Ak9 (x0:Aa) (z3:Int):Bool:=decide (z3<(x0.Ah.length:Int))
def jU (x1:Ab) (n4:Nat) (a4:Int) (z4:Int):Option (Ctl Int Unit):=
 (getI x1.Am a4).bind λ y16=>bif y16 then some (.next (w64 (z4+1))) else some (.next z4)
def jV (x0:Aa) (x1:Ab) (z3:Int):Option (Ctl Int Int):=
 bif (Ak9 x0 z3) then (F83 x0 3 z3).bind λ y14=>andThen (foldI (jU x1) y14 0 0) (λ _=>none) λ z4=>bif decide (z4>1) then some (.ret 11) else some (.next (w64 (z3+1))) else some (.brk z3)
def F62 (x0:Aa) (x1:Ab):Option Int:=
 (F43 x0).bind λ y1=>bif (y1 != 0) then some y1 else bif (Alc x0 x1) then some 8 else andThen (foldI jY x1.Ac 0 ()) some λ z0=>andThen (foldI (jX x0) x1.Aw 0 ()) some λ z1=>bif decide ((x1.As.length:Int)>32) then some 11 else andThen (foldI (jW x0 x1) x1.As 0 ()) some λ z2=>andThen (whileN (jV x0 x1) 1152921504606846976 0) some λ z3=>some 0
def F37 (x0:Ab):Option Ab:=
 (appI 2 ([]:List Bool) x0.Am).bind λ y1=>(appI 33 ([]:List Ae) x0.Ac).bind λ y3=>(appI 9 ([]:List Int) x0.Aw).bind λ y5=>(appI 17 ([]:List Aq) x0.As).bind λ y7=>some (⟨y1,y3,y5,y7⟩:Ab)
def Me (a1:Af) (y7:Bool) (y9:Bool) (y11:Bool):Bool:=(((a1.Kind==1)&&y7)&&(y9 || y11))
def Th (x1:Ab) (n1:Nat) (a1:Af) (z1:(List Bool)):Option (Ctl ((List Bool)) Unit):=
 (A5 [((a1.Kind==1),true)] (getI x1.Am (cnt 0 n1)) default).bind λ y7=>(A5 [(((a1.Kind==1)&&y7),true)] (getI z1 a1.A) default).bind λ y9=>(A5 [(((a1.Kind==1)&&y7),true),(y9,false)] (getI z1 a1.B) default).bind λ y11=>bif (Me a1 y7 y9 y11) then (getI z1 a1.A).bind λ y14=>(setI z1 a1.A true).bind λ y16=>(getI y16 a1.B).bind λ y18=>(setI y16 a1.B true).bind λ y20=>some (.next y20) else some (.next z1)
def Ti (x0:Aa) (x1:Ab) (n0:Nat) (a0:Bool) (z0:(List Bool)):Option (Ctl ((List Bool)) Unit):=
 andThen (foldI (Th x1) x0.Ag 0 z0) (λ _=>none) λ z1=>some (.next z1)
def Tg (n2:Nat) (a2:Bool) (z2:(List Int)):Option (Ctl ((List Int)) Unit):=
 bif a2 then (appI 9 z2 [cnt 0 n2]).bind λ y23=>some (.next y23) else some (.next z2)
def qZ (x0:Aa) (x1:Ab) (x2:Int):Option ((List Int)):=
 (mkI 2 x0.Ap false).bind λ y1=>(getI y1 x2).bind λ y3=>(setI y1 x2 true).bind λ y5=>andThen (foldI (Ti x0 x1) y5 0 y5) (λ _=>none) λ z0=>andThen (foldI Tg z0 0 ([]:List Int)) (λ _=>none) λ z2=>some z2
def Qw (x0:Aa) (x2:Int) (y1:Int) (y3:Ae):Bool:=((((y1 != 0) || (decide (x2<0))) || (decide (x2>=(x0.Ac.length:Int)))) || (y3.State != 2))
def qY (x0:Aa) (x1:Ab) (x2:Int):Option (Int×Bool):=
 (F62 x0 x1).bind λ y1=>(A5 [((((y1 != 0) || (decide (x2<0))) || (decide (x2>=(x0.Ac.length:Int)))),false)] (getI x1.Ac x2) default).bind λ y3=>bif (Qw x0 x2 y1 y3) then some (0,false) else (F83 x0 2 x2).bind λ y6=>(getI y6 0).bind λ y8=>(getI x1.Am y8).bind λ y10=>bif !y10 then some (0,false) else (getI x0.Ag y8).bind λ y13=>some (y13.A,true)
def Nj (x1:Int) (n0:Nat) (a0:Int) (z0:Unit):Option (Ctl Unit Bool):=
 bif (a0==x1) then some (.ret true) else some (.next ())
def Tf (x0:List Int) (x1:Int):Option Bool:=
 andThen (foldI (Nj x1) x0 0 ()) some λ z0=>some false
def Af7 (x0:Aa) (x2:Int) (y1:Int):Bool:=(((y1 != 0) || (decide (x2<0))) || (decide (x2>=(x0.Ah.length:Int))))
def Ni (x0:Aa) (x1:Ab) (n0:Nat) (a0:Int) (z0:Unit):Option (Ctl Unit (Int×Bool)):=
 (getI x1.Am a0).bind λ y6=>bif y6 then (getI x0.Ag a0).bind λ y9=>some (.ret (y9.A,true)) else some (.next ())
def qX (x0:Aa) (x1:Ab) (x2:Int):Option (Int×Bool):=
 (F62 x0 x1).bind λ y1=>bif (Af7 x0 x2 y1) then some (0,false) else (F83 x0 3 x2).bind λ y4=>andThen (foldI (Ni x0 x1) y4 0 ()) some λ z0=>some (0,false)
def Aga (x0:Aa) (x2:Int) (y1:Int):Bool:=(((y1 != 0) || (decide (x2<0))) || (decide (x2>=x0.Ap)))
def Af9 (x0:Aa) (z0:Int×(List Int)):Bool:=decide (z0.1<(x0.Ac.length:Int))
def Tk (x0:Aa) (x1:Ab) (y4:(List Int)) (z0:Int×(List Int)):Option (Ctl (Int×(List Int)) Unit):=
 bif (Af9 x0 z0) then (qY x0 x1 z0.1).bind λ y7=>(A5 [(y7.2,true)] (Tf y4 y7.1) default).bind λ y9=>bif (y7.2&&y9) then (appI 9 z0.2 [z0.1]).bind λ y12=>some (.next (w64 (z0.1+1),y12)) else some (.next (w64 (z0.1+1),z0.2)) else some (.brk (z0.1,z0.2))
def Af8 (x0:Aa) (z1:Int×(List Int)):Bool:=decide (z1.1<(x0.Ah.length:Int))
def Tj (x0:Aa) (x1:Ab) (y4:(List Int)) (z1:Int×(List Int)):Option (Ctl (Int×(List Int)) Unit):=
 bif (Af8 x0 z1) then (qX x0 x1 z1.1).bind λ y15=>(A5 [(y15.2,true)] (Tf y4 y15.1) default).bind λ y17=>bif (y15.2&&y17) then (appI 9 z1.2 [z1.1]).bind λ y20=>some (.next (w64 (z1.1+1),y20)) else some (.next (w64 (z1.1+1),z1.2)) else some (.brk (z1.1,z1.2))
def uI (x0:Aa) (x1:Ab) (x2:Int):Option (Ai×Bool):=
 (F62 x0 x1).bind λ y1=>bif (Aga x0 x2 y1) then some ((⟨([]:List Int),([]:List Int),([]:List Int)⟩:Ai),false) else (qZ x0 x1 x2).bind λ y4=>andThen (whileN (Tk x0 x1 y4) 1152921504606846976 (0,([]:List Int))) (λ _=>none) λ z0=>andThen (whileN (Tj x0 x1 y4) 1152921504606846976 (0,([]:List Int))) (λ _=>none) λ z1=>some ((⟨y4,z0.2,z1.2⟩:Ai),true)
def jJ (x0:Aa) (x1:Ab) (z0:Int×(List Ai)):Option (Ctl (Int×(List Ai)) Unit):=
 bif decide (z0.1<x0.Ap) then (uI x0 x1 z0.1).bind λ y5=>(getI y5.1.Ap 0).bind λ y7=>bif (y7==z0.1) then (appI 73 z0.2 [y5.1]).bind λ y10=>some (.next (w64 (z0.1+1),y10)) else some (.next (w64 (z0.1+1),z0.2)) else some (.brk (z0.1,z0.2))
def F85 (x0:Aa) (x1:Ab):Option ((List Ai)):=
 (F62 x0 x1).bind λ y1=>bif (y1 != 0) then some ([]:List Ai) else andThen (whileN (jJ x0 x1) 1152921504606846976 (0,([]:List Ai))) (λ _=>none) λ z0=>some z0.2
def jS (x1:Ab) (a0:Ai) (n1:Nat) (a1:Int) (z1:(List Ae)):Option (Ctl ((List Ae)) Unit):=
 (getI a0.Ac 0).bind λ y5=>(getI x1.Ac y5).bind λ y7=>(getI a0.Ac 0).bind λ y9=>(getI x1.Ac y9).bind λ y11=>(getI z1 a1).bind λ y13=>(setI z1 a1 (⟨y13.State,y13.Since,y7.An,y13.Phase⟩:Ae)).bind λ y15=>(getI y15 a1).bind λ y17=>(setI y15 a1 (⟨y17.State,y17.Since,y17.An,y11.Phase⟩:Ae)).bind λ y19=>some (.next y19)
def jT (x1:Ab) (n0:Nat) (a0:Ai) (z0:(List Ae)):Option (Ctl ((List Ae)) Unit):=
 andThen (foldI (jS x1 a0) a0.Ac 0 z0) (λ _=>none) λ z1=>some (.next z1)
def F63 (x0:Aa) (x1:Ab):Option Ab:=
 (F37 x1).bind λ y1=>(F85 x0 x1).bind λ y3=>andThen (foldI (jT x1) y3 0 y1.Ac) (λ _=>none) λ z0=>some (⟨y1.Am,z0,y1.Aw,y1.As⟩:Ab)
def F45 (x0:Aa) (x1:Ab):Option (Ab×Int):=
 (F62 x0 x1).bind λ y1=>bif (y1 != 0) then some ((⟨([]:List Bool),([]:List Ae),([]:List Int),([]:List Aq)⟩:Ab),y1) else (F63 x0 x1).bind λ y4=>some (y4,0)
def Q_ (x0:Ad) (x1:Aa):Option (Ab×Ad):=
 (Nh x0 x1).bind λ y1=>(F45 x1 y1.1).bind λ y3=>some (y3.1,y1.2)
def O_ (x1:Aa) (z0:Sg5):Option (Ctl (Sg5) Unit):=
 bif decide (z0.1<x1.Ap) then (F26 (⟨z0.2.1,z0.2.2.1⟩:Ad) (-1) 4).bind λ y6=>(F26 y6.2 (-1) 4).bind λ y8=>(appI 17 z0.2.2.2 [(⟨y6.1,y8.1⟩:Ar)]).bind λ y10=>some (.next (w64 (z0.1+1),y8.2.L,y8.2.At,y10)) else some (.brk (z0.1,z0.2.1,z0.2.2.1,z0.2.2.2))
def Rf (x0:Ad) (x1:Aa):Option (Al×Ad):=
 (F26 x0 5 20).bind λ y1=>(Q_ y1.2 x1).bind λ y3=>andThen (whileN (O_ x1) 1152921504606846976 (0,y3.2.L,y3.2.At,([]:List Ar))) (λ _=>none) λ z0=>some ((⟨y1.1,y3.1,z0.2.2.2,([]:List A3)⟩:Al),(⟨z0.2.1,z0.2.2.1⟩:Ad))
def F38 (x0:Ad):Option (Int×Ad):=
 (F27 x0 [(-1),0,1,4611686018427387904,(-4611686018427387904),9223372036854775807,(-9223372036854775808),1000000000,1000000001,(-1000000001),3600,1800,100000000,100000001,5001]).bind λ y1=>some (y1.1,y1.2)
def yU (y1:Ab) (z0:Int×(List Bool)):Bool:=decide (z0.1<(y1.Am.length:Int))
def O9 (y1:Ab) (z0:Int×(List Bool)):Option (Ctl (Int×(List Bool)) Unit):=
 bif (yU y1 z0) then (getI z0.2 z0.1).bind λ y46=>(setI z0.2 z0.1 true).bind λ y48=>some (.next (w64 (z0.1+1),y48)) else some (.brk (z0.1,z0.2))
def Ra (x0:Ad) (x1:Ab):Option (Ab×Ad):=
 (F37 x1).bind λ y1=>(F19 x0 6).bind λ y3=>bif (y3.1==0) then (appI 2 y1.Am [true]).bind λ y6=>some ((⟨y6,y1.Ac,y1.Aw,y1.As⟩:Ab),y3.2) else bif (y3.1==1) then bif decide ((y1.Ac.length:Int)>0) then (F19 y3.2 (y1.Ac.length:Int)).bind λ y10=>(F26 y10.2 (-1) 5).bind λ y12=>(getI y1.Ac y10.1).bind λ y14=>(setI y1.Ac y10.1 (⟨y12.1,y14.Since,y14.An,y14.Phase⟩:Ae)).bind λ y16=>some ((⟨y1.Am,y16,y1.Aw,y1.As⟩:Ab),y12.2) else some (y1,y3.2) else bif (y3.1==2) then bif decide ((y1.Ac.length:Int)>0) then (F19 y3.2 (y1.Ac.length:Int)).bind λ y20=>(F38 y20.2).bind λ y22=>(getI y1.Ac y20.1).bind λ y24=>(setI y1.Ac y20.1 (⟨y24.State,y24.Since,y24.An,y22.1⟩:Ae)).bind λ y26=>some ((⟨y1.Am,y26,y1.Aw,y1.As⟩:Ab),y22.2) else some (y1,y3.2) else bif (y3.1==3) then bif decide ((y1.Aw.length:Int)>0) then (F19 y3.2 (y1.Aw.length:Int)).bind λ y30=>(F38 y30.2).bind λ y32=>(getI y1.Aw y30.1).bind λ y34=>(setI y1.Aw y30.1 y32.1).bind λ y36=>some ((⟨y1.Am,y1.Ac,y36,y1.As⟩:Ab),y32.2) else some (y1,y3.2) else bif (y3.1==4) then (F26 y3.2 0 5).bind λ y39=>(F26 y39.2 (-1) 5).bind λ y41=>(appI 17 y1.As [(⟨y39.1,y41.1⟩:Aq)]).bind λ y43=>some ((⟨y1.Am,y1.Ac,y1.Aw,y43⟩:Ab),y41.2) else andThen (whileN (O9 y1) 1152921504606846976 (0,y1.Am)) (λ _=>none) λ z0=>some ((⟨z0.2,y1.Ac,y1.Aw,y1.As⟩:Ab),y3.2)
def qG (x1:List Bool) (n0:Nat) (a0:Bool) (z0:Unit):Option (Ctl Unit Bool):=
 (getI x1 (cnt 0 n0)).bind λ y2=>bif !(a0==y2) then some (.ret false) else some (.next ())
def F54 (x0:List Bool) (x1:List Bool):Option Bool:=
 bif ((x0.length:Int) != (x1.length:Int)) then some false else andThen (foldI (qG x1) x0 0 ()) some λ z0=>some true
def qF (x1:List Int) (n0:Nat) (a0:Int) (z0:Unit):Option (Ctl Unit Bool):=
 (getI x1 (cnt 0 n0)).bind λ y2=>bif (a0 != y2) then some (.ret false) else some (.next ())
def F55 (x0:List Int) (x1:List Int):Option Bool:=
 bif ((x0.length:Int) != (x1.length:Int)) then some false else andThen (foldI (qF x1) x0 0 ()) some λ z0=>some true
def Abl (x0:Ab) (x1:Ab) (y1:Bool) (y3:Bool):Bool:=((((!y1) || (!y3)) || ((x0.Ac.length:Int) != (x1.Ac.length:Int))) || ((x0.As.length:Int) != (x1.As.length:Int)))
def Qt (x0:Ab) (z0:Int):Bool:=decide (z0<(x0.Ac.length:Int))
def Vw (y7:Ae) (y9:Ae):Bool:=!((y7.State==y9.State)&&((y7.Since==y9.Since)&&((y7.An==y9.An)&&((y7.Phase==y9.Phase)&&true))))
def Q9 (x0:Ab) (x1:Ab) (z0:Int):Option (Ctl Int Bool):=
 bif (Qt x0 z0) then (getI x0.Ac z0).bind λ y7=>(getI x1.Ac z0).bind λ y9=>bif (Vw y7 y9) then some (.ret false) else some (.next (w64 (z0+1))) else some (.brk z0)
def Qr (x0:Ab) (z1:Int):Bool:=decide (z1<(x0.As.length:Int))
def Qu (y13:Aq) (y15:Aq):Bool:=!((y13.Kind==y15.Kind)&&((y13.Number==y15.Number)&&true))
def Q8 (x0:Ab) (x1:Ab) (z1:Int):Option (Ctl Int Bool):=
 bif (Qr x0 z1) then (getI x0.As z1).bind λ y13=>(getI x1.As z1).bind λ y15=>bif (Qu y13 y15) then some (.ret false) else some (.next (w64 (z1+1))) else some (.brk z1)
def F33 (x0:Ab) (x1:Ab):Option Bool:=
 (F54 x0.Am x1.Am).bind λ y1=>(A5 [(!y1,false)] (F55 x0.Aw x1.Aw) default).bind λ y3=>bif (Abl x0 x1 y1 y3) then some false else andThen (whileN (Q9 x0 x1) 1152921504606846976 0) some λ z0=>andThen (whileN (Q8 x0 x1) 1152921504606846976 0) some λ z1=>some true
def Ap6 (a0:A3) (y2:A3):Bool:=!((a0.Time==y2.Time)&&(((a0.Act.Kind==y2.Act.Kind)&&((a0.Act.Unit==y2.Act.Unit)&&((a0.Act.Value==y2.Act.Value)&&true)))&&((a0.Err==y2.Err)&&true)))
def Aie (x1:List A3) (n0:Nat) (a0:A3) (z0:Unit):Option (Ctl Unit Bool):=
 (getI x1 (cnt 0 n0)).bind λ y2=>bif (Ap6 a0 y2) then some (.ret false) else some (.next ())
def F34 (x0:List A3) (x1:List A3):Option Bool:=
 bif ((x0.length:Int) != (x1.length:Int)) then some false else andThen (foldI (Aie x1) x0 0 ()) some λ z0=>some true
def Abm (x0:Al) (x1:Al) (y1:Bool) (y3:Bool):Bool:=((((x0.Time != x1.Time) || (!y1)) || ((x0.Av.length:Int) != (x1.Av.length:Int))) || (!y3))
def Qv (x0:Al) (z0:Int):Bool:=decide (z0<(x0.Av.length:Int))
def Alj (y7:Ar) (y9:Ar):Bool:=!((y7.High==y9.High)&&((y7.Low==y9.Low)&&true))
def Rc (x0:Al) (x1:Al) (z0:Int):Option (Ctl Int Bool):=
 bif (Qv x0 z0) then (getI x0.Av z0).bind λ y7=>(getI x1.Av z0).bind λ y9=>bif (Alj y7 y9) then some (.ret false) else some (.next (w64 (z0+1))) else some (.brk z0)
def F17 (x0:Al) (x1:Al):Option Bool:=
 (A5 [((x0.Time != x1.Time),false)] (F33 x0.Power x1.Power) default).bind λ y1=>(A5 [((((x0.Time != x1.Time) || (!y1)) || ((x0.Av.length:Int) != (x1.Av.length:Int))),false)] (F34 x0.A7 x1.A7) default).bind λ y3=>bif (Abm x0 x1 y1 y3) then some false else andThen (whileN (Rc x0 x1) 1152921504606846976 0) some λ z0=>some true
def F6 (x0:List Int):Option Bool:=
 bif decide ((x0.length:Int)>600) then (F8).bind λ y2=>some y2 else (F9 x0).bind λ y4=>(F10 y4).bind λ y6=>(Rf y6.2 y6.1).bind λ y8=>(Ra y8.2 y8.1.Power).bind λ y10=>(F17 (⟨y8.1.Time,y8.1.Power,y8.1.Av,[]⟩:Al) (⟨y8.1.Time,y10.1,y8.1.Av,[]⟩:Al)).bind λ y12=>(F22 y8.1).bind λ y14=>(F22 (⟨y8.1.Time,y10.1,y8.1.Av,y8.1.A7⟩:Al)).bind λ y16=>(A5 [(((y14.toList==y16.toList)==y12),true)] (F22 y8.1) default).bind λ y18=>(A5 [(((y14.toList==y16.toList)==y12),true)] (F22 (⟨y8.1.Time,y8.1.Power,y8.1.Av,[(⟨1,(⟨0,0,0⟩:A0),0⟩:A3)]⟩:Al)) default).bind λ y20=>(A5 [((((y14.toList==y16.toList)==y12)&&(y18.toList==y20.toList)),true)] (F23 y8.1) default).bind λ y22=>(A5 [((((y14.toList==y16.toList)==y12)&&(y18.toList==y20.toList)),true)] (F23 (⟨y8.1.Time,y8.1.Power,y8.1.Av,[(⟨1,(⟨0,0,0⟩:A0),0⟩:A3)]⟩:Al)) default).bind λ y24=>(A5 [(((((y14.toList==y16.toList)==y12)&&(y18.toList==y20.toList))&&(y22==y24)),true)] (F22 y8.1) default).bind λ y26=>(A5 [(((((y14.toList==y16.toList)==y12)&&(y18.toList==y20.toList))&&(y22==y24)),true)] (F22 (⟨w64 (y8.1.Time+1),y8.1.Power,y8.1.Av,y8.1.A7⟩:Al)) default).bind λ y28=>(A5 [((((((y14.toList==y16.toList)==y12)&&(y18.toList==y20.toList))&&(y22==y24))&&(!(y26.toList==y28.toList))),true)] (F8) default).bind λ y30=>some ((((((y14.toList==y16.toList)==y12)&&(y18.toList==y20.toList))&&(y22==y24))&&(!(y26.toList==y28.toList)))&&y30)
end Go.Proofs.YtpdbkiafikdgpaaGreatDoor
