import Derived.Test.YtiaaaghdkhnonaaGreatTy
import Derived.Test.YtiaaaghdkhnonaaGreatFo
set_option linter.unusedVariables false
namespace Go.Proofs.YtiaaaghdkhnonaaGreat
open Go.SL
abbrev Sg0:=eQ×Int×eT×(List Ak)×eQ×(List a_)×(List Bb)×(List Bi)
abbrev Sg1:=Int×eT×(List Ak)×eQ×(List a_)×(List Bb)×(List Bi)
abbrev Sg2:=Int×eT×(List Ak)×eQ×(List a_)×(List Bb)×(List Bi)×(List Ab)×eT×(List Ak)×eQ×(List a_)
abbrev Sg3:=Int×eT×(List Ak)×eQ×(List a_)×(List Bb)×(List Ab)×(List Bi)
abbrev Sg4:=Int×eQ×Int×(List Al)
abbrev Sg5:=Int×eQ×Int×(List Al)×(List A8)
abbrev Sg6:=Int×eQ×Int×(List A8)
abbrev Sg7:=Int×eQ×Int×(List Bu)
abbrev Sg8:=Int×eQ×Int×(List Ak)
abbrev Sg9:=Int×eQ×Int×(List Jo)
abbrev Qr:=Int×(List Al)×(List B6)×(List A8)×Int×Int×eT×(List Ak)×eQ×(List a_)×(List As)
abbrev An4:=Int×(List Al)×(List B6)×(List A8)×Int×Int×eQ×eT×(List Ak)×eQ×(List a_)×(List As)
def Cj(x0:Int)(x1:Int)(x2:Int):Bool:=
 ((decide (x0>=x1))&&(decide (x0<=x2)))
def Kc(x1:Int)(x2:Int)(a0:Al):Bool:=((a0.Kind==x1)&&((a0.B==x2) || ((x1==1)&&(a0.A==x2))))
def Aln(x1:Int)(x2:Int)(n0:Nat)(a0:Al)(z0:eQ):b_ (eQ) Unit:=
 bif (Kc x1 x2 a0)then (appI 9 z0 [cnt 0 n0]).bind λy2=>c_ y2 else c_ z0
def T9(x0:Aa)(x1:Int)(x2:Int):Option (eQ):=
 andThen (foldI (Aln x1 x2) x0.Ah 0 []) (λ_=>none) λz0=>some z0
def Aso(x0:Aa)(a0:Al):Bool:=!(Cj a0.B (w64 (a0.A+1)) (w64 (x0.Ao-1)))
def Asn(x0:Aa)(a0:Al):Bool:=!(Cj a0.B 0 (w64 ((x0.Ad.length:Int)-1)))
def Asm(x0:Aa)(a0:Al):Bool:=!(Cj a0.B 0 (w64 ((x0.Ae.length:Int)-1)))
def Afv(a0:Al)(a1:Al):Bool:=((a1.Kind==a0.Kind)&&((a1.A==a0.A)&&((a1.B==a0.B)&&true)))
def zY(a0:Al)(n1:Nat)(a1:Al)(z1:Unit):b_ Unit Bool:=
 bif (Afv a0 a1)then dY false else c_ ()
def Ak5(x0:Aa)(n0:Nat)(a0:Al)(z0:Unit):b_ Unit Bool:=
 bif !(Cj a0.A 0 (w64 (x0.Ao-1)))then dY false else bif (a0.Kind==1)then bif (Aso x0 a0)then dY false else c_ () else bif (a0.Kind==2)then bif (Asn x0 a0)then dY false else c_ () else bif (a0.Kind==3)then bif (Asm x0 a0)then dY false else (cutI x0.Ah 0 (cnt 0 n0)).bind λy9=>andThen (foldI (zY a0) y9 0 ()) (λv=>dY v) λz1=>c_ () else dY false
def Akf(x0:Aa)(z2:Int):Bool:=decide (z2<(x0.Ad.length:Int))
def Ak4(x0:Aa)(z2:Int):b_ Int Bool:=
 bif (Akf x0 z2)then (T9 x0 2 z2).bind λy12=>bif ((y12.length:Int) != 1)then dY false else c_ (w64 (z2+1)) else dZ z2
def Ake(x0:Aa)(z3:Int):Bool:=decide (z3<(x0.Ae.length:Int))
def Ak3(x0:Aa)(z3:Int):b_ Int Bool:=
 bif (Ake x0 z3)then (T9 x0 3 z3).bind λy16=>bif decide ((y16.length:Int)<1)then dY false else c_ (w64 (z3+1)) else dZ z3
def Aox(x0:Aa):Option Bool:=
 andThen (foldI (Ak5 x0) x0.Ah 0 ()) some λz0=>andThen (whileN (Ak4 x0) 1152921504606846976 0) some λz2=>andThen (whileN (Ak3 x0) 1152921504606846976 0) some λz3=>some true
def Asl(a0:B6):Bool:=(((!(Cj a0.Rating 1 50000)) || (!(Cj a0.Least 0 a0.Rating))) || (!(Cj a0.Start 0 600)))
def Ak2(n0:Nat)(a0:B6)(z0:Unit):b_ Unit Bool:=
 bif (Asl a0)then dY false else c_ ()
def Aow(x0:Aa):Option Bool:=
 andThen (foldI Ak2 x0.Ad 0 ()) some λz0=>some true
def Asj(a0:A8):Bool:=(((((!(Cj a0.Load 0 50000)) || (!(Cj a0.Least 0 a0.Load))) || (!(Cj a0.B1 0 15))) || (!(Cj a0.Thruster (-1) 7))) || (decide ((a0.Needs.length:Int)>4)))
def Asi(n0:Nat)(n1:Nat)(a1:Int)(y2:Int):Bool:=((!(Cj a1 0 (w64 ((cnt 0 n0)-1)))) || ((decide ((cnt 0 n1)>0))&&(decide (y2>=a1))))
def Ak0(n0:Nat)(a0:A8)(n1:Nat)(a1:Int)(z1:Unit):b_ Unit Bool:=
 (Au [(!(Cj a1 0 (w64 ((cnt 0 n0)-1))),false),(decide ((cnt 0 n1)>0),true)] (getI a0.Needs (w64 ((cnt 0 n1)-1))) default).bind λy2=>bif (Asi n0 n1 a1 y2)then dY false else c_ ()
def Ak1(n0:Nat)(a0:A8)(z0:Unit):b_ Unit Bool:=
 bif (Asj a0)then dY false else andThen (foldI (Ak0 n0 a0) a0.Needs 0 ()) (λv=>dY v) λz1=>c_ ()
def Aov(x0:Aa):Option Bool:=
 andThen (foldI Ak1 x0.Ae 0 ()) some λz0=>some true
def Af1(x0:Aa):Bool:=(((((decide (x0.Ao<1)) || (decide (x0.Ao>6))) || (decide ((x0.Ah.length:Int)>24))) || (decide ((x0.Ad.length:Int)>8))) || (decide ((x0.Ae.length:Int)>16)))
def Af0(x0:Aa)(y2:Bool)(y4:Bool)(y6:Bool):Bool:=(((((((!y2) || (!y4)) || (!y6)) || (decide (x0.Phase<0))) || (decide (x0.Phase>1800))) || (decide (x0.Ar<0))) || (decide (x0.Ar>6000)))
def Zy(x0:Aa):Option Int:=
 bif (Af1 x0)then some 2 else (Aox x0).bind λy2=>(Au [(!y2,false)] (Aow x0) default).bind λy4=>(Au [(((!y2) || (!y4)),false)] (Aov x0) default).bind λy6=>bif (Af0 x0 y2 y4 y6)then some 14 else some 0
def Jq(x0:B0):Bool:=
 ((((((decide (x0.Stop>=1))&&(decide (x0.Stop<=99)))&&(decide (x0.Start>x0.Stop)))&&(decide (x0.Start<=100)))&&(decide (x0.Delay>=0)))&&(decide (x0.Delay<=600)))
def A8h(x0:Aa)(z0:Int×(List Ak)):Bool:=decide (z0.1<(x0.Ad.length:Int))
def A62(x0:Aa)(z0:Int×(List Ak)):b_ (Int×(List Ak)) Unit:=
 bif (A8h x0 z0)then (appI 33 z0.2 [⟨0,0,5000,0⟩]).bind λy8=>c_ (w64 (z0.1+1),y8) else dZ (z0.1,z0.2)
def A61(n1:Nat)(a1:A8)(z1:eQ):b_ (eQ) Unit:=
 (appI 9 z1 [a1.Load]).bind λy10=>c_ y10
def A60(x0:Aa)(z2:Int×(List Bb)):b_ (Int×(List Bb)) Unit:=
 bif decide (z2.1<x0.Ao)then (appI 17 z2.2 [⟨(-1),(-1)⟩]).bind λy13=>c_ (w64 (z2.1+1),y13) else dZ (z2.1,z2.2)
def F80(x0:Aa)(x1:B0):Option (Am×Int):=
 (Zy x0).bind λy1=>bif (y1 != 0)then none else bif !(Jq x1)then none else (mkI 2 (x0.Ah.length:Int) false).bind λy5=>andThen (whileN (A62 x0) 1152921504606846976 (0,[])) (λ_=>none) λz0=>andThen (foldI A61 x0.Ae 0 []) (λ_=>none) λz1=>andThen (whileN (A60 x0) 1152921504606846976 (0,[])) (λ_=>none) λz2=>some (⟨0,⟨y5,z0.2,z1,[]⟩,z2.2,[]⟩,0)
def Qx(x0:Aa)(x1:a_):Bool:=
 bif (x1.Kind==1)then Cj x1.Number 0 (w64 ((x0.Ad.length:Int)-1)) else bif (x1.Kind==2)then Cj x1.Number 0 (w64 ((x0.Ah.length:Int)-1)) else bif (x1.Kind==3)then Cj x1.Number 0 (w64 (x0.Ao-1)) else bif (x1.Kind==4)then Cj x1.Number 0 (w64 ((x0.Ae.length:Int)-1)) else false
def T_(x0:a_)(x1:a_):Bool:=
 ((decide (x0.Kind<x1.Kind)) || ((x0.Kind==x1.Kind)&&(decide (x0.Number<x1.Number))))
def Azy(x0:Aa)(x1:Ab):Bool:=((((x1.Ag.length:Int) != (x0.Ah.length:Int)) || ((x1.Ad.length:Int) != (x0.Ad.length:Int))) || ((x1.Aj.length:Int) != (x0.Ae.length:Int)))
def Azx(a0:Ak):Bool:=((((!(Cj a0.State 0 3)) || (!(Cj a0.Since 0 2147483648))) || (!(Cj a0.Ar 0 6000))) || (!(Cj a0.Phase 0 3599)))
def Atv(n0:Nat)(a0:Ak)(z0:Unit):b_ Unit Int:=
 bif (Azx a0)then dY 11 else c_ ()
def Atu(x0:Aa)(n1:Nat)(a1:Int)(z1:Unit):b_ Unit Int:=
 (getI x0.Ae (cnt 0 n1)).bind λy6=>bif !(Cj a1 0 y6.Load)then dY 11 else c_ ()
def Azw(x0:Aa)(n2:Nat)(a2:a_)(y10:a_):Bool:=((!(Qx x0 a2)) || ((decide ((cnt 0 n2)>0))&&(!(T_ y10 a2))))
def Att(x0:Aa)(x1:Ab)(n2:Nat)(a2:a_)(z2:Unit):b_ Unit Int:=
 (Au [(!(Qx x0 a2),false),(decide ((cnt 0 n2)>0),true)] (getI x1.Ai (w64 ((cnt 0 n2)-1))) default).bind λy10=>bif (Azw x0 n2 a2 y10)then dY 11 else c_ ()
def Azv(x0:Aa)(z3:Int):Bool:=decide (z3<(x0.Ae.length:Int))
def Atr(x1:Ab)(n4:Nat)(a4:Int)(z4:Int):b_ Int Unit:=
 (getI x1.Ag a4).bind λy16=>bif y16 then c_ (w64 (z4+1)) else c_ z4
def Ats(x0:Aa)(x1:Ab)(z3:Int):b_ Int Int:=
 bif (Azv x0 z3)then (T9 x0 3 z3).bind λy14=>andThen (foldI (Atr x1) y14 0 0) (λ_=>none) λz4=>bif decide (z4>1)then dY 11 else c_ (w64 (z3+1)) else dZ z3
def F75(x0:Aa)(x1:Ab):Option Int:=
 (Zy x0).bind λy1=>bif (y1 != 0)then some y1 else bif (Azy x0 x1)then some 8 else andThen (foldI Atv x1.Ad 0 ()) some λz0=>andThen (foldI (Atu x0) x1.Aj 0 ()) some λz1=>bif decide ((x1.Ai.length:Int)>32)then some 11 else andThen (foldI (Att x0 x1) x1.Ai 0 ()) some λz2=>andThen (whileN (Ats x0 x1) 1152921504606846976 0) some λz3=>some 0
def F76(x0:Ab):Option Ab:=
 (appI 2 [] x0.Ag).bind λy1=>(appI 33 [] x0.Ad).bind λy3=>(appI 9 [] x0.Aj).bind λy5=>(appI 17 [] x0.Ai).bind λy7=>some ⟨y1,y3,y5,y7⟩
def V8(a1:Al)(y7:Bool)(y9:Bool)(y11:Bool):Bool:=(((a1.Kind==1)&&y7)&&(y9 || y11))
def Ak7(x1:Ab)(n1:Nat)(a1:Al)(z1:eT):b_ (eT) Unit:=
 (Au [((a1.Kind==1),true)] (getI x1.Ag (cnt 0 n1)) default).bind λy7=>(Au [(((a1.Kind==1)&&y7),true)] (getI z1 a1.A) default).bind λy9=>(Au [(((a1.Kind==1)&&y7),true),(y9,false)] (getI z1 a1.B) default).bind λy11=>bif (V8 a1 y7 y9 y11)then (getI z1 a1.A).bind λy14=>(setI z1 a1.A true).bind λy16=>(getI y16 a1.B).bind λy18=>(setI y16 a1.B true).bind λy20=>c_ y20 else c_ z1
def Ak8(x0:Aa)(x1:Ab)(n0:Nat)(a0:Bool)(z0:eT):b_ (eT) Unit:=
 andThen (foldI (Ak7 x1) x0.Ah 0 z0) (λ_=>none) λz1=>c_ z1
def Ak6(n2:Nat)(a2:Bool)(z2:eQ):b_ (eQ) Unit:=
 bif a2 then (appI 9 z2 [cnt 0 n2]).bind λy23=>c_ y23 else c_ z2
def Aoy(x0:Aa)(x1:Ab)(x2:Int):Option (eQ):=
 (mkI 2 x0.Ao false).bind λy1=>(getI y1 x2).bind λy3=>(setI y1 x2 true).bind λy5=>andThen (foldI (Ak8 x0 x1) y5 0 y5) (λ_=>none) λz0=>andThen (foldI Ak6 z0 0 []) (λ_=>none) λz2=>some z2
def qY(x0:Aa)(x2:Int)(y1:Int)(y3:Ak):Bool:=((((y1 != 0) || (decide (x2<0))) || (decide (x2>=(x0.Ad.length:Int)))) || (y3.State != 2))
def W6(x0:Aa)(x1:Ab)(x2:Int):Option (Int×Bool):=
 (F75 x0 x1).bind λy1=>(Au [((((y1 != 0) || (decide (x2<0))) || (decide (x2>=(x0.Ad.length:Int)))),false)] (getI x1.Ad x2) default).bind λy3=>bif (qY x0 x2 y1 y3)then some (0,false) else (T9 x0 2 x2).bind λy6=>(getI y6 0).bind λy8=>(getI x1.Ag y8).bind λy10=>bif !y10 then some (0,false) else (getI x0.Ah y8).bind λy13=>some (y13.A,true)
def zZ(x1:Int)(n0:Nat)(a0:Int)(z0:Unit):b_ Unit Bool:=
 bif (a0==x1)then dY true else c_ ()
def Ps(x0:eQ)(x1:Int):Option Bool:=
 andThen (foldI (zZ x1) x0 0 ()) some λz0=>some false
def Asp(x0:Aa)(x2:Int)(y1:Int):Bool:=(((y1 != 0) || (decide (x2<0))) || (decide (x2>=(x0.Ae.length:Int))))
def Aaa(x0:Aa)(x1:Ab)(n0:Nat)(a0:Int)(z0:Unit):b_ Unit (Int×Bool):=
 (getI x1.Ag a0).bind λy6=>bif y6 then (getI x0.Ah a0).bind λy9=>dY (y9.A,true) else c_ ()
def Aab(x0:Aa)(x1:Ab)(x2:Int):Option (Int×Bool):=
 (F75 x0 x1).bind λy1=>bif (Asp x0 x2 y1)then some (0,false) else (T9 x0 3 x2).bind λy4=>andThen (foldI (Aaa x0 x1) y4 0 ()) some λz0=>some (0,false)
def As3(x0:Aa)(x2:Int)(y1:Int):Bool:=(((y1 != 0) || (decide (x2<0))) || (decide (x2>=x0.Ao)))
def As2(x0:Aa)(z0:Int×eQ):Bool:=decide (z0.1<(x0.Ad.length:Int))
def Alp(x0:Aa)(x1:Ab)(y4:eQ)(z0:Int×eQ):b_ (Int×eQ) Unit:=
 bif (As2 x0 z0)then (W6 x0 x1 z0.1).bind λy7=>(Au [(y7.2,true)] (Ps y4 y7.1) default).bind λy9=>bif (y7.2&&y9)then (appI 9 z0.2 [z0.1]).bind λy12=>c_ (w64 (z0.1+1),y12) else c_ (w64 (z0.1+1),z0.2) else dZ (z0.1,z0.2)
def As1(x0:Aa)(z1:Int×eQ):Bool:=decide (z1.1<(x0.Ae.length:Int))
def Alo(x0:Aa)(x1:Ab)(y4:eQ)(z1:Int×eQ):b_ (Int×eQ) Unit:=
 bif (As1 x0 z1)then (Aab x0 x1 z1.1).bind λy15=>(Au [(y15.2,true)] (Ps y4 y15.1) default).bind λy17=>bif (y15.2&&y17)then (appI 9 z1.2 [z1.1]).bind λy20=>c_ (w64 (z1.1+1),y20) else c_ (w64 (z1.1+1),z1.2) else dZ (z1.1,z1.2)
def Ls(x0:Aa)(x1:Ab)(x2:Int):Option (An×Bool):=
 (F75 x0 x1).bind λy1=>bif (As3 x0 x2 y1)then some (⟨[],[],[]⟩,false) else (Aoy x0 x1 x2).bind λy4=>andThen (whileN (Alp x0 x1 y4) 1152921504606846976 (0,[])) (λ_=>none) λz0=>andThen (whileN (Alo x0 x1 y4) 1152921504606846976 (0,[])) (λ_=>none) λz1=>some (⟨y4,z0.2,z1.2⟩,true)
def Akz(x0:Aa)(x1:Ab)(z0:Int×(List An)):b_ (Int×(List An)) Unit:=
 bif decide (z0.1<x0.Ao)then (Ls x0 x1 z0.1).bind λy5=>(getI y5.1.Ao 0).bind λy7=>bif (y7==z0.1)then (appI 73 z0.2 [y5.1]).bind λy10=>c_ (w64 (z0.1+1),y10) else c_ (w64 (z0.1+1),z0.2) else dZ (z0.1,z0.2)
def Zv(x0:Aa)(x1:Ab):Option ((List An)):=
 (F75 x0 x1).bind λy1=>bif (y1 != 0)then some [] else andThen (whileN (Akz x0 x1) 1152921504606846976 (0,[])) (λ_=>none) λz0=>some z0.2
def Ale(x1:Ab)(a0:An)(n1:Nat)(a1:Int)(z1:(List Ak)):b_ ((List Ak)) Unit:=
 (getI a0.Ad 0).bind λy5=>(getI x1.Ad y5).bind λy7=>(getI a0.Ad 0).bind λy9=>(getI x1.Ad y9).bind λy11=>(getI z1 a1).bind λy13=>(setI z1 a1 ⟨y13.State,y13.Since,y7.Ar,y13.Phase⟩).bind λy15=>(getI y15 a1).bind λy17=>(setI y15 a1 ⟨y17.State,y17.Since,y17.Ar,y11.Phase⟩).bind λy19=>c_ y19
def Alf(x1:Ab)(n0:Nat)(a0:An)(z0:(List Ak)):b_ ((List Ak)) Unit:=
 andThen (foldI (Ale x1 a0) a0.Ad 0 z0) (λ_=>none) λz1=>c_ z1
def Ao2(x0:Aa)(x1:Ab):Option Ab:=
 (F76 x1).bind λy1=>(Zv x0 x1).bind λy3=>andThen (foldI (Alf x1) y3 0 y1.Ad) (λ_=>none) λz0=>some ⟨y1.Ag,z0,y1.Aj,y1.Ai⟩
def Zz(x0:Aa)(x1:Ab):Option (Ab×Int):=
 (F75 x0 x1).bind λy1=>bif (y1 != 0)then some (⟨[],[],[],[]⟩,y1) else (Ao2 x0 x1).bind λy4=>some (y4,0)
def Aaq(x1:eT)(n0:Nat)(a0:Bool)(z0:Unit):b_ Unit Bool:=
 (getI x1 (cnt 0 n0)).bind λy2=>bif !(a0==y2)then dY false else c_ ()
def Aar(x0:eT)(x1:eT):Option Bool:=
 bif ((x0.length:Int) != (x1.length:Int))then some false else andThen (foldI (Aaq x1) x0 0 ()) some λz0=>some true
def Ahz(x1:eQ)(n0:Nat)(a0:Int)(z0:Unit):b_ Unit Bool:=
 (getI x1 (cnt 0 n0)).bind λy2=>bif (a0 != y2)then dY false else c_ ()
def F16(x0:eQ)(x1:eQ):Option Bool:=
 bif ((x0.length:Int) != (x1.length:Int))then some false else andThen (foldI (Ahz x1) x0 0 ()) some λz0=>some true
def Anq(x0:Ab)(x1:Ab)(y1:Bool)(y3:Bool):Bool:=((((!y1) || (!y3)) || ((x0.Ad.length:Int) != (x1.Ad.length:Int))) || ((x0.Ai.length:Int) != (x1.Ai.length:Int)))
def Anp(x0:Ab)(z0:Int):Bool:=decide (z0<(x0.Ad.length:Int))
def Az0(y7:Ak)(y9:Ak):Bool:=!((y7.State==y9.State)&&((y7.Since==y9.Since)&&((y7.Ar==y9.Ar)&&((y7.Phase==y9.Phase)&&true))))
def Ags(x0:Ab)(x1:Ab)(z0:Int):b_ Int Bool:=
 bif (Anp x0 z0)then (getI x0.Ad z0).bind λy7=>(getI x1.Ad z0).bind λy9=>bif (Az0 y7 y9)then dY false else c_ (w64 (z0+1)) else dZ z0
def Ano(x0:Ab)(z1:Int):Bool:=decide (z1<(x0.Ai.length:Int))
def Ar9(y13:a_)(y15:a_):Bool:=!((y13.Kind==y15.Kind)&&((y13.Number==y15.Number)&&true))
def Agr(x0:Ab)(x1:Ab)(z1:Int):b_ Int Bool:=
 bif (Ano x0 z1)then (getI x0.Ai z1).bind λy13=>(getI x1.Ai z1).bind λy15=>bif (Ar9 y13 y15)then dY false else c_ (w64 (z1+1)) else dZ z1
def F63(x0:Ab)(x1:Ab):Option Bool:=
 (Aar x0.Ag x1.Ag).bind λy1=>(Au [(!y1,false)] (F16 x0.Aj x1.Aj) default).bind λy3=>bif (Anq x0 x1 y1 y3)then some false else andThen (whileN (Ags x0 x1) 1152921504606846976 0) some λz0=>andThen (whileN (Agr x0 x1) 1152921504606846976 0) some λz1=>some true
def Az5(x1:B0)(x2:Am):Bool:=(((!(Jq x1)) || (decide (x2.Time<0))) || (decide (x2.Time>2147483648)))
def Az4(x2:Am)(a0:Bb):Bool:=((((decide (a0.High<(-1))) || (decide (a0.High>x2.Time))) || (decide (a0.Low<(-1)))) || (decide (a0.Low>x2.Time)))
def At6(x2:Am)(n0:Nat)(a0:Bb)(z0:Unit):b_ Unit Int:=
 bif (Az4 x2 a0)then dY 11 else c_ ()
def F58(x0:Aa)(x1:B0)(x2:Am):Option Int:=
 (F75 x0 x2.Power).bind λy1=>bif (y1 != 0)then some y1 else bif (Az5 x1 x2)then some 1 else bif ((x2.A0.length:Int) != x0.Ao)then some 8 else andThen (foldI (At6 x2) x2.A0 0 ()) some λz0=>(Zz x0 x2.Power).bind λy7=>(F63 y7.1 x2.Power).bind λy9=>bif !y9 then some 11 else some 0
def Asr(x1:Int)(x2:Int)(a0:a_):Bool:=((a0.Kind==x1)&&(a0.Number==x2))
def Aae(x1:Int)(x2:Int)(n0:Nat)(a0:a_)(z0:Unit):b_ Unit Bool:=
 bif (Asr x1 x2 a0)then dY true else c_ ()
def Gp(x0:Ab)(x1:Int)(x2:Int):Option Bool:=
 andThen (foldI (Aae x1 x2) x0.Ai 0 ()) some λz0=>some false
def A50(y1:An×Bool):Bool:=((!y1.2) || ((y1.1.Ad.length:Int)==0))
def Aop(x0:Aa)(x1:Ab)(x2:Int):Option (Int×Bool):=
 (Ls x0 x1 x2).bind λy1=>bif (A50 y1)then some (0,false) else (getI y1.1.Ad 0).bind λy4=>some (y4,true)
def Is(x0:Int):Int:=
 Int.tmod (w64 ((Int.tmod x0 3600)+3600)) 3600
def A5o(x0:Int)(x1:Int):Bool:=decide ((Is (w64 ((Is x1)-(Is x0))))>1800)
def Aof(x0:Int)(x1:Int):Int:=
 bif (A5o x0 x1)then w64 ((Is (w64 ((Is x1)-(Is x0))))-3600) else Is (w64 ((Is x1)-(Is x0)))
def A5t(x1:Ak):Bool:=((decide (x1.Ar<0)) || (decide (x1.Ar>6000)))
def A5s(x2:Ak):Bool:=((decide (x2.Ar<0)) || (decide (x2.Ar>6000)))
def Ag9(x0:Aa)(x1:Ak)(x2:Ak):Bool:=
 bif (A5t x1)then false else bif (A5s x2)then false else ((((decide ((w64 (x1.Ar-x2.Ar))>=(w64 (0-x0.Ar))))&&(decide ((w64 (x1.Ar-x2.Ar))<=x0.Ar)))&&(decide ((Aof x1.Phase x2.Phase)>=(w64 (0-x0.Phase)))))&&(decide ((Aof x1.Phase x2.Phase)<=x0.Phase)))
def A52(x0:Aa)(x2:Int):Bool:=((decide (x2<0)) || (decide (x2>=(x0.Ah.length:Int))))
def A51(x0:Aa)(y14:Int×Bool)(y22:Int×Bool)(y24:Bool)(y26:Ak)(y28:Ak):Bool:=(((y14.2&&y22.2)&&(!y24))&&(!(Ag9 x0 y26 y28)))
def A7m(x0:Aa)(x1:Ab)(x2:Int):Option Int:=
 (F75 x0 x1).bind λy1=>bif (y1 != 0)then some y1 else bif (A52 x0 x2)then some 10 else (getI x0.Ah x2).bind λy5=>(getI x1.Ag x2).bind λy7=>(Au [(y7,false)] (Gp x1 2 x2) default).bind λy9=>(Au [((y7 || y9),false)] (Gp x1 3 y5.A) default).bind λy11=>bif ((y7 || y9) || y11)then some 11 else (Aop x0 x1 y5.A).bind λy14=>bif (y5.Kind==1)then (Gp x1 3 y5.B).bind λy17=>bif y17 then some 11 else (Ls x0 x1 y5.A).bind λy20=>(Aop x0 x1 y5.B).bind λy22=>(Au [((y14.2&&y22.2),true)] (Ps y20.1.Ao y5.B) default).bind λy24=>(Au [(((y14.2&&y22.2)&&(!y24)),true)] (getI x1.Ad y14.1) default).bind λy26=>(Au [(((y14.2&&y22.2)&&(!y24)),true)] (getI x1.Ad y22.1) default).bind λy28=>bif (A51 x0 y14 y22 y24 y26 y28)then some 12 else some 0 else bif (y5.Kind==2)then (Gp x1 1 y5.B).bind λy32=>(Au [(y32,false)] (getI x1.Ad y5.B) default).bind λy34=>bif (y32 || (y34.State != 2))then some 11 else (Au [(y14.2,true)] (getI x1.Ad y14.1) default).bind λy37=>(Au [(y14.2,true)] (getI x1.Ad y5.B) default).bind λy39=>bif (y14.2&&(!(Ag9 x0 y37 y39)))then some 12 else some 0 else (Aab x0 x1 y5.B).bind λy42=>(Au [(y42.2,false)] (Gp x1 4 y5.B) default).bind λy44=>bif (y42.2 || y44)then some 11 else some 0
def A7s(x0:Aa)(x1:Ab)(x2:Int):Option (Ab×Int):=
 (A7m x0 x1 x2).bind λy1=>bif (y1 != 0)then some (⟨[],[],[],[]⟩,y1) else (F76 x1).bind λy4=>(getI y4.Ag x2).bind λy6=>(setI y4.Ag x2 true).bind λy8=>(Ao2 x0 ⟨y8,y4.Ad,y4.Aj,y4.Ai⟩).bind λy10=>some (y10,0)
def A58(x0:Aa)(x2:Int):Bool:=((decide (x2<0)) || (decide (x2>=(x0.Ah.length:Int))))
def A7r(x0:Aa)(x1:Ab)(x2:Int):Option (Ab×Int):=
 (F75 x0 x1).bind λy1=>bif (y1 != 0)then some (⟨[],[],[],[]⟩,y1) else bif (A58 x0 x2)then some (⟨[],[],[],[]⟩,10) else (getI x1.Ag x2).bind λy5=>(Au [(!y5,false)] (Gp x1 2 x2) default).bind λy7=>bif ((!y5) || y7)then some (⟨[],[],[],[]⟩,11) else (F76 x1).bind λy10=>(getI y10.Ag x2).bind λy12=>(setI y10.Ag x2 false).bind λy14=>some (⟨y14,y10.Ad,y10.Aj,y10.Ai⟩,0)
def A57(x0:Aa)(x2:Int)(x3:Int):Bool:=((((decide (x2<0)) || (decide (x2>=(x0.Ad.length:Int)))) || (decide (x3<0))) || (decide (x3>=x0.Ao)))
def A2y(x0:Aa)(x1:Ab)(x2:Int)(y10:Int×Bool):b_ (eQ) Unit:=
 bif y10.2 then (Ls x0 x1 y10.1).bind λy13=>c_ y13.1.Ad else c_ [x2]
def A2z(x1:Ab)(y5:Int×Bool)(n1:Nat)(a1:Int)(z1:(List Ak)):b_ ((List Ak)) Unit:=
 (getI x1.Ad y5.1).bind λy17=>(getI x1.Ad y5.1).bind λy19=>(getI z1 a1).bind λy21=>(setI z1 a1 ⟨y21.State,y21.Since,y17.Ar,y21.Phase⟩).bind λy23=>(getI y23 a1).bind λy25=>(setI y23 a1 ⟨y25.State,y25.Since,y25.Ar,y19.Phase⟩).bind λy27=>c_ y27
def A7q(x0:Aa)(x1:Ab)(x2:Int)(x3:Int):Option (Ab×Int):=
 (F75 x0 x1).bind λy1=>bif (y1 != 0)then some (⟨[],[],[],[]⟩,y1) else bif (A57 x0 x2 x3)then some (⟨[],[],[],[]⟩,10) else (Aop x0 x1 x3).bind λy5=>(getI x1.Ad x2).bind λy7=>bif ((y7.State != 2) || (!y5.2))then some (⟨[],[],[],[]⟩,11) else (W6 x0 x1 x2).bind λy10=>andThen (A2y x0 x1 x2 y10) (λ_=>none) λz0=>(F76 x1).bind λy15=>andThen (foldI (A2z x1 y5) z0 0 y15.Ad) (λ_=>none) λz1=>some (⟨y15.Ag,z1,y15.Aj,y15.Ai⟩,0)
def Qw(x0:Aa)(x1:Int)(x2:Int):Option (eQ):=
 (Zy x0).bind λy1=>bif (y1 != 0)then some [] else (T9 x0 x1 x2).bind λy4=>some y4
def A2x(n0:Nat)(a0:Ak)(z0:(List Ak)):b_ ((List Ak)) Unit:=
 (getI z0 (cnt 0 n0)).bind λy6=>bif (y6.State==2)then (setI z0 (cnt 0 n0) ⟨y6.State,y6.Since,y6.Ar,Is (w64 (y6.Phase+(w64 (36*(w64 (y6.Ar-5000))))))⟩).bind λy9=>c_ y9 else c_ z0
def A7p(x0:Aa)(x1:Ab):Option (Ab×Int):=
 (F75 x0 x1).bind λy1=>bif (y1 != 0)then some (⟨[],[],[],[]⟩,y1) else (F76 x1).bind λy4=>andThen (foldI A2x y4.Ad 0 y4.Ad) (λ_=>none) λz0=>some (⟨y4.Ag,z0,y4.Aj,y4.Ai⟩,0)
def V9(x0:List a_)(x1:a_)(z0:Int)(y3:a_):Bool:=((decide (z0<(x0.length:Int)))&&(T_ y3 x1))
def Ald(x0:List a_)(x1:a_)(z0:Int):b_ Int Unit:=
 (Au [(decide (z0<(x0.length:Int)),true)] (getI x0 z0) default).bind λy3=>bif (V9 x0 x1 z0 y3)then c_ (w64 (z0+1)) else dZ z0
def Ao1(x0:List a_)(x1:a_):Option ((List a_)):=
 andThen (whileN (Ald x0 x1) 1152921504606846976 0) (λ_=>none) λz0=>(cutI x0 0 z0).bind λy7=>(appI 17 [] y7).bind λy8=>(appI 17 y8 [x1]).bind λy10=>(cutI x0 z0 (x0.length:Int)).bind λy13=>(appI 17 y10 y13).bind λy14=>some y14
def As5(x2:Int)(x3:As):Bool:=((((decide (x2<0)) || (decide (x2>2147483648))) || (decide (x3.Kind<1))) || (decide (x3.Kind>9)))
def A24(x3:As):b_ Bool Unit:=
 bif (x3.Kind==3)then c_ (x3.Kind==3) else c_ (x3.Kind==4)
def A6g(x0:Aa)(x3:As):Bool:=((decide (x3.Unit<0)) || (decide (x3.Unit>=(x0.Ad.length:Int))))
def A23(x3:As)(y31:List Ak)(y33:B6)(y35:Bool):b_ ((List Ak)) Unit:=
 bif ((y33.Start==0)&&(!y35))then (getI y31 x3.Unit).bind λy38=>(setI y31 x3.Unit ⟨2,y38.Since,y38.Ar,y38.Phase⟩).bind λy40=>c_ y40 else c_ y31
def A6f(y19:Ak)(y42:Bool):Bool:=(((y19.State != 1)&&(y19.State != 2)) || y42)
def A6e(x0:Aa)(x3:As):Bool:=((decide (x3.Unit<0)) || (decide (x3.Unit>=(x0.Ae.length:Int))))
def A6d(x3:As)(y51:A8):Bool:=((decide (x3.Value<0)) || (decide (x3.Value>y51.Load)))
def A6c(x2:Int)(y61:Ak)(y67:Bool)(y69:B6):Bool:=(((y61.State==1)&&(!y67))&&(decide ((w64 (y61.Since+y69.Start))<=(w64 (x2+1)))))
def A26(x0:Aa)(x2:Int)(y59:Ab×Int)(n2:Nat)(a2:Ak)(z2:(List Ak)):b_ ((List Ak)) Unit:=
 (getI z2 (cnt 0 n2)).bind λy61=>(Au [((y61.State==1),true)] (Qw x0 2 (cnt 0 n2)) default).bind λy63=>(Au [((y61.State==1),true)] (getI y63 0) default).bind λy65=>(Au [((y61.State==1),true)] (getI y59.1.Ag y65) default).bind λy67=>(Au [(((y61.State==1)&&(!y67)),true)] (getI x0.Ad (cnt 0 n2)) default).bind λy69=>bif (A6c x2 y61 y67 y69)then (setI z2 (cnt 0 n2) ⟨2,y61.Since,y61.Ar,y61.Phase⟩).bind λy72=>c_ y72 else c_ z2
def V_(x0:Aa)(x3:As):Bool:=!(Qx x0 (⟨x3.Value,x3.Unit⟩:a_))
def A11(x3:As)(a4:a_):Bool:=!((a4.Kind==x3.Value)&&((a4.Number==x3.Unit)&&true))
def A25(x3:As)(n4:Nat)(a4:a_)(z4:(List a_)):b_ ((List a_)) Unit:=
 bif (A11 x3 a4)then (appI 17 z4 [a4]).bind λy83=>c_ y83 else c_ z4
def Si(x1:Ab)(x3:As)(y5:Ab):b_ ((List a_)×Int) (Ab×Int):=
 bif (x3.Kind==8)then bif decide ((x1.Ai.length:Int)>=32)then dY (⟨[],[],[],[]⟩,2) else (Ao1 y5.Ai ⟨x3.Value,x3.Unit⟩).bind λy80=>c_ (y80,3) else andThen (foldI (A25 x3) x1.Ai 0 []) (λ_=>none) λz4=>c_ (z4,0)
def Aat(x0:Aa)(x1:Ab)(x2:Int)(x3:As):Option (Ab×Int):=
 (F75 x0 x1).bind λy1=>bif (y1 != 0)then some (⟨[],[],[],[]⟩,y1) else bif (As5 x2 x3)then some (⟨[],[],[],[]⟩,1) else (F76 x1).bind λy5=>bif (x3.Kind==1)then (A7s x0 x1 x3.Unit).bind λy8=>some (y8.1,y8.2) else bif (x3.Kind==2)then (A7r x0 x1 x3.Unit).bind λy11=>some (y11.1,y11.2) else bif (x3.Kind==6)then (A7q x0 x1 x3.Unit x3.Value).bind λy14=>some (y14.1,y14.2) else andThen (A24 x3) (λ_=>none) λz0=>bif z0 then bif (A6g x0 x3)then some (⟨[],[],[],[]⟩,10) else (getI x1.Ad x3.Unit).bind λy19=>(Qw x0 2 x3.Unit).bind λy21=>(getI y21 0).bind λy23=>bif (x3.Kind==3)then (Au [((y19.State != 0),false)] (Gp x1 1 x3.Unit) default).bind λy26=>bif ((y19.State != 0) || y26)then some (⟨[],[],[],[]⟩,11) else (getI y5.Ad x3.Unit).bind λy29=>(setI y5.Ad x3.Unit ⟨1,x2,5000,0⟩).bind λy31=>(getI x0.Ad x3.Unit).bind λy33=>(Au [((y33.Start==0),true)] (getI x1.Ag y23) default).bind λy35=>andThen (A23 x3 y31 y33 y35) (λ_=>none) λz1=>some (⟨y5.Ag,z1,y5.Aj,y5.Ai⟩,0) else (Au [(((y19.State != 1)&&(y19.State != 2)),false)] (getI x1.Ag y23) default).bind λy42=>bif (A6f y19 y42)then some (⟨[],[],[],[]⟩,11) else (getI y5.Ad x3.Unit).bind λy45=>(setI y5.Ad x3.Unit ⟨0,y45.Since,y45.Ar,y45.Phase⟩).bind λy47=>some (⟨y5.Ag,y47,y5.Aj,y5.Ai⟩,0) else bif (x3.Kind==5)then bif (A6e x0 x3)then some (⟨[],[],[],[]⟩,10) else (Au [(decide (x3.Value<0),false)] (getI x0.Ae x3.Unit) default).bind λy51=>bif (A6d x3 y51)then some (⟨[],[],[],[]⟩,1) else (getI y5.Aj x3.Unit).bind λy54=>(setI y5.Aj x3.Unit x3.Value).bind λy56=>some (⟨y5.Ag,y5.Ad,y56,y5.Ai⟩,0) else bif (x3.Kind==7)then (A7p x0 x1).bind λy59=>andThen (foldI (A26 x0 x2 y59) y59.1.Ad 0 y59.1.Ad) (λ_=>none) λz2=>some (⟨y59.1.Ag,z2,y59.1.Aj,y59.1.Ai⟩,0) else bif (V_ x0 x3)then some (⟨[],[],[],[]⟩,10) else (Gp x1 x3.Value x3.Unit).bind λy75=>bif (y75==(x3.Kind==8))then some (⟨[],[],[],[]⟩,11) else andThen (Si x1 x3 y5) some λz3=>bif (x3.Value==1)then (getI y5.Ad x3.Unit).bind λy86=>(setI y5.Ad x3.Unit ⟨z3.2,y86.Since,y86.Ar,y86.Phase⟩).bind λy88=>some (⟨y5.Ag,y88,y5.Aj,z3.1⟩,0) else some (⟨y5.Ag,y5.Ad,y5.Aj,z3.1⟩,0)
def Apc(x0:Am)(x1:As)(x2:Int):Option Am:=
 (appI 41 [] x0.A6).bind λy1=>(appI 41 y1 [⟨x0.Time,x1,x2⟩]).bind λy3=>some ⟨x0.Time,x0.Power,x0.A0,y3⟩
def Aoo(x0:Aa)(x1:Ab)(x2:Int):Option Bool:=
 (getI x0.Ah x2).bind λy1=>(Gp x1 3 y1.A).bind λy3=>bif y3 then some true else bif (y1.Kind==1)then (Gp x1 3 y1.B).bind λy7=>some y7 else bif (y1.Kind==2)then (Gp x1 1 y1.B).bind λy10=>(Au [(y10,false)] (getI x1.Ad y1.B) default).bind λy12=>some (y10 || (y12.State != 2)) else (Gp x1 4 y1.B).bind λy14=>some y14
def F74(x0:Aa)(x1:Ab)(x2:Int):Option Bool:=
 (Ls x0 x1 x2).bind λy1=>some (y1.2&&(decide ((y1.1.Ad.length:Int)>0)))
def Asq(x0:Aa)(z0:Int×eT×(List As)):Bool:=decide (z0.1<(x0.Ah.length:Int))
def Alc(x0:Aa)(x1:Ab)(z0:Int×eT×(List As)):b_ (Int×eT×(List As)) Unit:=
 bif (Asq x0 z0)then (getI z0.2.1 z0.1).bind λy7=>(Au [(y7,true)] (Aoo x0 x1 z0.1) default).bind λy9=>bif (y7&&y9)then (setI z0.2.1 z0.1 false).bind λy12=>(appI 25 z0.2.2 [⟨2,z0.1,0⟩]).bind λy14=>c_ (w64 (z0.1+1),y12,y14) else c_ (w64 (z0.1+1),z0.2.1,z0.2.2) else dZ (z0.1,z0.2.1,z0.2.2)
def Alb(x0:Aa)(y4:Ab)(n1:Nat)(a1:Al)(z1:eT×(List As)):b_ (eT×(List As)) Unit:=
 (Au [((a1.Kind==3),true)] (getI z1.1 (cnt 0 n1)) default).bind λy16=>(Au [(((a1.Kind==3)&&y16),true)] (F74 x0 ⟨z1.1,y4.Ad,y4.Aj,y4.Ai⟩ a1.A) default).bind λy18=>bif (((a1.Kind==3)&&y16)&&(!y18))then (getI z1.1 (cnt 0 n1)).bind λy21=>(setI z1.1 (cnt 0 n1) false).bind λy23=>(appI 25 z1.2 [⟨2,cnt 0 n1,0⟩]).bind λy25=>c_ (y23,y25) else c_ (z1.1,z1.2)
def Ao0(x0:Aa)(x1:Ab):Option (Ab×(List As)×Int):=
 (F75 x0 x1).bind λy1=>bif (y1 != 0)then some (⟨[],[],[],[]⟩,[],y1) else (F76 x1).bind λy4=>andThen (whileN (Alc x0 x1) 1152921504606846976 (0,y4.Ag,[])) (λ_=>none) λz0=>andThen (foldI (Alb x0 y4) x0.Ah 0 (z0.2.1,z0.2.2)) (λ_=>none) λz1=>(Zz x0 ⟨z1.1,y4.Ad,y4.Aj,y4.Ai⟩).bind λy27=>some (y27.1,z1.2,0)
def Akr(z0:Int×eQ)(n1:Nat)(a1:A8)(z1:eQ):b_ (eQ) Unit:=
 bif (a1.B1==z0.1)then (appI 9 z1 [cnt 0 n1]).bind λy6=>c_ y6 else c_ z1
def Aks(x0:Aa)(z0:Int×eQ):b_ (Int×eQ) Unit:=
 bif decide (z0.1<=15)then andThen (foldI (Akr z0) x0.Ae 0 z0.2) (λ_=>none) λz1=>c_ (w64 (z0.1+1),z1) else dZ (z0.1,z0.2)
def Ahf(x0:Aa):Option (eQ):=
 (Zy x0).bind λy1=>bif (y1 != 0)then some [] else andThen (whileN (Aks x0) 18 (0,[])) (λ_=>none) λz0=>some z0.2
def V7(y1:An×Bool):Bool:=((!y1.2) || ((y1.1.Ad.length:Int)==0))
def zR(x1:Ab)(n0:Nat)(a0:Int)(z0:Int):b_ Int Unit:=
 (getI x1.Aj a0).bind λy4=>c_ (w64 (z0+y4))
def zS(x0:Aa)(x1:Ab)(x2:Int):Option Int:=
 (Ls x0 x1 x2).bind λy1=>bif (V7 y1)then some 0 else andThen (foldI (zR x1) y1.1.Ae 0 0) (λ_=>none) λz0=>some z0
def Akq(x0:Aa)(n0:Nat)(a0:Int)(z0:Int):b_ Int Unit:=
 (getI x0.Ad a0).bind λy3=>c_ (w64 (z0+y3.Rating))
def Zs(x0:Aa)(x1:Ab)(x2:Int):Option Int:=
 (Ls x0 x1 x2).bind λy1=>andThen (foldI (Akq x0) y1.1.Ad 0 0) (λ_=>none) λz0=>some z0
def X5(z1:Int×eQ×(List As))(y18:A8)(y20:Bool)(y22:Int):Bool:=(((decide (z1.1<=0)) || (!y20)) || (decide (y22<=y18.Least)))
def Sf(x0:Aa)(a0:An)(n1:Nat)(a1:Int)(z1:Int×eQ×(List As)):b_ (Int×eQ×(List As)) Unit:=
 (getI x0.Ae a1).bind λy18=>(Au [(decide (z1.1<=0),false)] (Ps a0.Ae a1) default).bind λy20=>(Au [(((decide (z1.1<=0)) || (!y20)),false)] (getI z1.2.1 a1) default).bind λy22=>bif (X5 z1 y18 y20 y22)then c_ (z1.1,z1.2.1,z1.2.2) else (getI z1.2.1 a1).bind λy25=>(setI z1.2.1 a1 (w64 (y25-(min z1.1 (w64 (y25-y18.Least)))))).bind λy27=>(getI y27 a1).bind λy29=>(appI 25 z1.2.2 [⟨5,a1,y29⟩]).bind λy31=>c_ (w64 (z1.1-(min z1.1 (w64 (y25-y18.Least)))),y27,y31)
def X4(z2:Int×eT×(List As))(y33:Bool)(y35:Int):Bool:=(((decide (z2.1<=0)) || (!y33)) || (y35==0))
def Aad(n3:Nat)(a3:Int)(z3:eT×(List As)):b_ (eT×(List As)) Unit:=
 (getI z3.1 a3).bind λy40=>bif y40 then (setI z3.1 a3 false).bind λy43=>(appI 25 z3.2 [⟨2,a3,0⟩]).bind λy45=>c_ (y43,y45) else c_ (z3.1,z3.2)
def Se(x0:Aa)(a0:An)(z1:Int×eQ×(List As))(n2:Nat)(a2:Int)(z2:Int×eT×(List As)):b_ (Int×eT×(List As)) Unit:=
 (Au [(decide (z2.1<=0),false)] (Ps a0.Ae a2) default).bind λy33=>(Au [(((decide (z2.1<=0)) || (!y33)),false)] (getI z1.2.1 a2) default).bind λy35=>bif (X4 z2 y33 y35)then c_ (z2.1,z2.2.1,z2.2.2) else (Qw x0 3 a2).bind λy38=>andThen (foldI Aad y38 0 (z2.2.1,z2.2.2)) (λ_=>none) λz3=>(getI z1.2.1 a2).bind λy47=>c_ (w64 (z2.1-y47),z3.1,z3.2)
def Ala(x0:Aa)(x1:Ab)(y6:eQ)(n0:Nat)(a0:An)(z0:eT×eQ×(List As)):b_ (eT×eQ×(List As)) Unit:=
 (getI a0.Ao 0).bind λy10=>(zS x0 x1 y10).bind λy12=>(getI a0.Ao 0).bind λy14=>(Zs x0 x1 y14).bind λy16=>andThen (foldI (Sf x0 a0) y6 0 (w64 (y12-y16),z0.2.1,z0.2.2)) (λ_=>none) λz1=>andThen (foldI (Se x0 a0 z1) y6 0 (z1.1,z0.1,z1.2.2)) (λ_=>none) λz2=>c_ (z2.2.1,z1.2.1,z2.2.2)
def Aoz(x0:Aa)(x1:Ab):Option (Ab×(List As)×Int):=
 (F75 x0 x1).bind λy1=>bif (y1 != 0)then some (⟨[],[],[],[]⟩,[],y1) else (F76 x1).bind λy4=>(Ahf x0).bind λy6=>(Zv x0 x1).bind λy8=>andThen (foldI (Ala x0 x1 y6) y8 0 (y4.Ag,y4.Aj,[])) (λ_=>none) λz0=>some (⟨z0.1,y4.Ad,z0.2.1,y4.Ai⟩,z0.2.2,0)
def Ah8(x0:Aa)(x1:Ab):Option (Ab×(List As)×Int):=
 (Ao0 x0 x1).bind λy1=>bif (y1.2.2 != 0)then some (⟨[],[],[],[]⟩,[],y1.2.2) else (Aoz x0 y1.1).bind λy4=>(appI 25 y1.2.1 y4.2.1).bind λy6=>some (y4.1,y6,0)
def Xk(x0:Am)(x1:As)(x2:Int):Option Am:=
 (appI 41 [] x0.A6).bind λy1=>(appI 41 y1 [⟨x0.Time,x1,x2⟩]).bind λy3=>some ⟨x0.Time,x0.Power,x0.A0,y3⟩
def Agt(x0:Aa)(x1:Am)(x2:As):b_ (Int×eT×(List Ak)×eQ×(List a_)) Unit:=
 bif (x2.Kind != 7)then (Aat x0 x1.Power x1.Time x2).bind λy5=>c_ (y5.2,y5.1.Ag,y5.1.Ad,y5.1.Aj,y5.1.Ai) else c_ (1,[],[],[],[])
def At0(a1:As)(y12:Ab):b_ (eT×eQ) Unit:=
 bif (a1.Kind==2)then (getI y12.Ag a1.Unit).bind λy15=>(setI y12.Ag a1.Unit false).bind λy17=>c_ (y17,y12.Aj) else (getI y12.Aj a1.Unit).bind λy19=>(setI y12.Aj a1.Unit a1.Value).bind λy21=>c_ (y12.Ag,y21)
def At1(n1:Nat)(a1:As)(z1:Sg2):b_ (Sg2) Unit:=
 (F76 ⟨z1.2.2.2.2.2.2.2.2.1,z1.2.2.2.2.2.2.2.2.2.1,z1.2.2.2.2.2.2.2.2.2.2.1,z1.2.2.2.2.2.2.2.2.2.2.2⟩).bind λy12=>andThen (At0 a1 y12) (λ_=>none) λz2=>(appI 97 z1.2.2.2.2.2.2.2.1 [⟨z2.1,y12.Ad,z2.2,y12.Ai⟩]).bind λy23=>(Xk ⟨z1.1,⟨z1.2.1,z1.2.2.1,z1.2.2.2.1,z1.2.2.2.2.1⟩,z1.2.2.2.2.2.1,z1.2.2.2.2.2.2.1⟩ a1 0).bind λy25=>c_ (y25.Time,y25.Power.Ag,y25.Power.Ad,y25.Power.Aj,y25.Power.Ai,y25.A0,y25.A6,y23,z2.1,y12.Ad,z2.2,y12.Ai)
def F60(x0:Aa)(x1:Am)(x2:As):Option (Am×(List Ab)×Int):=
 (F75 x0 x1.Power).bind λy1=>bif (y1 != 0)then some (⟨0,⟨[],[],[],[]⟩,[],[]⟩,[],y1) else andThen (Agt x0 x1 x2) (λ_=>none) λz0=>(Apc x1 x2 z0.1).bind λy7=>bif (z0.1 != 0)then some (y7,[],0) else (Ah8 x0 ⟨z0.2.1,z0.2.2.1,z0.2.2.2.1,z0.2.2.2.2⟩).bind λy10=>andThen (foldI At1 y10.2.1 0 (y7.Time,y7.Power.Ag,y7.Power.Ad,y7.Power.Aj,y7.Power.Ai,y7.A0,y7.A6,[⟨z0.2.1,z0.2.2.1,z0.2.2.2.1,z0.2.2.2.2⟩],z0.2.1,z0.2.2.1,z0.2.2.2.1,z0.2.2.2.2)) (λ_=>none) λz1=>(F63 y10.1 ⟨z1.2.2.2.2.2.2.2.2.1,z1.2.2.2.2.2.2.2.2.2.1,z1.2.2.2.2.2.2.2.2.2.2.1,z1.2.2.2.2.2.2.2.2.2.2.2⟩).bind λy27=>bif !y27 then (appI 97 z1.2.2.2.2.2.2.2.1 [y10.1]).bind λy30=>some (⟨z1.1,y10.1,z1.2.2.2.2.2.1,z1.2.2.2.2.2.2.1⟩,y30,0) else some (⟨z1.1,y10.1,z1.2.2.2.2.2.1,z1.2.2.2.2.2.2.1⟩,z1.2.2.2.2.2.2.2.1,0)
def Ayl(x0:Aa)(x1:Am)(x2:As):b_ (Int×eT×(List Ak)×eQ×(List a_)) Unit:=
 bif (x2.Kind != 7)then (Aat x0 x1.Power x1.Time x2).bind λy5=>c_ (y5.2,y5.1.Ag,y5.1.Ad,y5.1.Aj,y5.1.Ai) else c_ (1,[],[],[],[])
def Ayk(a1:As)(y12:Ab):b_ (eT×eQ) Unit:=
 bif (a1.Kind==2)then (getI y12.Ag a1.Unit).bind λy15=>(setI y12.Ag a1.Unit false).bind λy17=>c_ (y17,y12.Aj) else (getI y12.Aj a1.Unit).bind λy19=>(setI y12.Aj a1.Unit a1.Value).bind λy21=>c_ (y12.Ag,y21)
def Aym(n1:Nat)(a1:As)(z1:Sg2):b_ (Sg2) Unit:=
 (F76 ⟨z1.2.2.2.2.2.2.2.2.1,z1.2.2.2.2.2.2.2.2.2.1,z1.2.2.2.2.2.2.2.2.2.2.1,z1.2.2.2.2.2.2.2.2.2.2.2⟩).bind λy12=>andThen (Ayk a1 y12) (λ_=>none) λz2=>(appI 97 z1.2.2.2.2.2.2.2.1 [⟨z2.1,y12.Ad,z2.2,y12.Ai⟩]).bind λy23=>(Xk ⟨z1.1,⟨z1.2.1,z1.2.2.1,z1.2.2.2.1,z1.2.2.2.2.1⟩,z1.2.2.2.2.2.1,z1.2.2.2.2.2.2.1⟩ a1 0).bind λy25=>c_ (y25.Time,y25.Power.Ag,y25.Power.Ad,y25.Power.Aj,y25.Power.Ai,y25.A0,y25.A6,y23,z2.1,y12.Ad,z2.2,y12.Ai)
def An8(x0:Aa)(x1:Am)(x2:As):Option (Am×(List Ab)×Int):=
 (F75 x0 x1.Power).bind λy1=>bif (y1 != 0)then some (⟨0,⟨[],[],[],[]⟩,[],[]⟩,[],y1) else andThen (Ayl x0 x1 x2) (λ_=>none) λz0=>(Xk x1 x2 z0.1).bind λy7=>bif (z0.1 != 0)then some (y7,[],0) else (Ah8 x0 ⟨z0.2.1,z0.2.2.1,z0.2.2.2.1,z0.2.2.2.2⟩).bind λy10=>andThen (foldI Aym y10.2.1 0 (y7.Time,y7.Power.Ag,y7.Power.Ad,y7.Power.Aj,y7.Power.Ai,y7.A0,y7.A6,[⟨z0.2.1,z0.2.2.1,z0.2.2.2.1,z0.2.2.2.2⟩],z0.2.1,z0.2.2.1,z0.2.2.2.1,z0.2.2.2.2)) (λ_=>none) λz1=>(F63 y10.1 ⟨z1.2.2.2.2.2.2.2.2.1,z1.2.2.2.2.2.2.2.2.2.1,z1.2.2.2.2.2.2.2.2.2.2.1,z1.2.2.2.2.2.2.2.2.2.2.2⟩).bind λy27=>bif !y27 then (appI 97 z1.2.2.2.2.2.2.2.1 [y10.1]).bind λy30=>some (⟨z1.1,y10.1,z1.2.2.2.2.2.1,z1.2.2.2.2.2.2.1⟩,y30,0) else some (⟨z1.1,y10.1,z1.2.2.2.2.2.1,z1.2.2.2.2.2.2.1⟩,z1.2.2.2.2.2.2.2.1,0)
def A5z(x1:B0)(y1:An×Bool):Bool:=(((!y1.2) || (!(Jq x1))) || (decide ((y1.1.Ad.length:Int)<2)))
def A5y(x1:B0)(y14:Int)(y16:Int)(y18:B6):Bool:=decide ((w64 (100*y14))<=(w64 (x1.Stop*(w64 (y16-y18.Rating)))))
def A2u(x0:Aa)(x1:B0)(x2:Ab)(x3:Int)(y1:An×Bool)(z0:Int):b_ Int Unit:=
 bif decide (z0>=0)then (getI y1.1.Ad z0).bind λy5=>(Qw x0 2 y5).bind λy7=>(getI y7 0).bind λy9=>(Gp x2 2 y9).bind λy11=>bif y11 then none else (zS x0 x2 x3).bind λy14=>(Zs x0 x2 x3).bind λy16=>(getI x0.Ad y5).bind λy18=>bif (A5y x1 y14 y16 y18)then none else c_ (w64 (z0-1)) else dZ z0
def A7j(x0:Aa)(x1:B0)(x2:Ab)(x3:Int):Option (Int×Bool):=
 (Ls x0 x2 x3).bind λy1=>bif (A5z x1 y1)then none else andThen (whileN (A2u x0 x1 x2 x3 y1) 1152921504606846976 (w64 ((y1.1.Ad.length:Int)-1))) (λ_=>none) λz0=>some (0,false)
def A7i(x0:Aa)(x1:B0)(x2:Ab)(x3:Int):Option Bool:=
 (Au [(Jq x1,true)] (F74 x0 x2 x3) default).bind λy1=>(Au [(((Jq x1)&&y1),true)] (zS x0 x2 x3) default).bind λy3=>(Au [(((Jq x1)&&y1),true)] (Zs x0 x2 x3) default).bind λy5=>some (((Jq x1)&&y1)&&(decide ((w64 (100*y3))>(w64 (x1.Start*y5)))))
def Ay4(x0:Bool)(x1:Int)(x2:Int):Option Int:=
 bif !x0 then some (-1) else none
def A5x(x1:Ab)(z0:Int):Bool:=decide (z0<(x1.Ad.length:Int))
def A5w(y5:Ak)(y13:Int×Bool)(y15:Bool)(y17:Bool)(y19:Bool)(y21:Bool):Bool:=((((((y5.State==2)&&(!y13.2))&&(!y15))&&(!y17))&&(!y19))&&y21)
def A2t(x0:Aa)(x1:Ab)(y1:An×Bool)(z0:Int):b_ Int Unit:=
 bif (A5x x1 z0)then (getI x1.Ad z0).bind λy5=>(Qw x0 2 z0).bind λy7=>(getI y7 0).bind λy9=>(getI x0.Ah y9).bind λy11=>(W6 x0 x1 z0).bind λy13=>(Au [(((y5.State==2)&&(!y13.2)),true)] (Gp x1 1 z0) default).bind λy15=>(Au [((((y5.State==2)&&(!y13.2))&&(!y15)),true)] (Gp x1 2 y9) default).bind λy17=>(Au [(((((y5.State==2)&&(!y13.2))&&(!y15))&&(!y17)),true)] (Gp x1 3 y11.A) default).bind λy19=>(Au [((((((y5.State==2)&&(!y13.2))&&(!y15))&&(!y17))&&(!y19)),true)] (Ps y1.1.Ao y11.A) default).bind λy21=>bif (A5w y5 y13 y15 y17 y19 y21)then none else c_ (w64 (z0+1)) else dZ z0
def A5v(x1:Ab)(z1:Int):Bool:=decide (z1<(x1.Ad.length:Int))
def A5u(y25:Ak)(y33:Int×Bool)(y35:Bool)(y37:Bool)(y39:Bool)(y41:Bool):Bool:=((((((y25.State==1)&&(!y33.2))&&(!y35))&&(!y37))&&(!y39))&&y41)
def A2s(x0:Aa)(x1:Ab)(y1:An×Bool)(z1:Int):b_ Int Unit:=
 bif (A5v x1 z1)then (getI x1.Ad z1).bind λy25=>(Qw x0 2 z1).bind λy27=>(getI y27 0).bind λy29=>(getI x0.Ah y29).bind λy31=>(W6 x0 x1 z1).bind λy33=>(Au [(((y25.State==1)&&(!y33.2)),true)] (Gp x1 1 z1) default).bind λy35=>(Au [((((y25.State==1)&&(!y33.2))&&(!y35)),true)] (Gp x1 2 y29) default).bind λy37=>(Au [(((((y25.State==1)&&(!y33.2))&&(!y35))&&(!y37)),true)] (Gp x1 3 y31.A) default).bind λy39=>(Au [((((((y25.State==1)&&(!y33.2))&&(!y35))&&(!y37))&&(!y39)),true)] (Ps y1.1.Ao y31.A) default).bind λy41=>bif (A5u y25 y33 y35 y37 y39 y41)then none else c_ (w64 (z1+1)) else dZ z1
def A10(x1:Ab)(z2:Int):Bool:=decide (z2<(x1.Ad.length:Int))
def A1z(y45:Ak)(y53:Int×Bool)(y55:Bool)(y57:Bool)(y59:Bool)(y61:Bool):Bool:=((((((y45.State==0)&&(!y53.2))&&(!y55))&&(!y57))&&(!y59))&&y61)
def A2r(x0:Aa)(x1:Ab)(y1:An×Bool)(z2:Int):b_ Int Unit:=
 bif (A10 x1 z2)then (getI x1.Ad z2).bind λy45=>(Qw x0 2 z2).bind λy47=>(getI y47 0).bind λy49=>(getI x0.Ah y49).bind λy51=>(W6 x0 x1 z2).bind λy53=>(Au [(((y45.State==0)&&(!y53.2)),true)] (Gp x1 1 z2) default).bind λy55=>(Au [((((y45.State==0)&&(!y53.2))&&(!y55)),true)] (Gp x1 2 y49) default).bind λy57=>(Au [(((((y45.State==0)&&(!y53.2))&&(!y55))&&(!y57)),true)] (Gp x1 3 y51.A) default).bind λy59=>(Au [((((((y45.State==0)&&(!y53.2))&&(!y55))&&(!y57))&&(!y59)),true)] (Ps y1.1.Ao y51.A) default).bind λy61=>bif (A1z y45 y53 y55 y57 y59 y61)then none else c_ (w64 (z2+1)) else dZ z2
def A7h(x0:Aa)(x1:Ab)(x2:Int):Option (Int×Bool):=
 (Ls x0 x1 x2).bind λy1=>bif !y1.2 then none else andThen (whileN (A2t x0 x1 y1) 1152921504606846976 0) (λ_=>none) λz0=>andThen (whileN (A2s x0 x1 y1) 1152921504606846976 0) (λ_=>none) λz1=>andThen (whileN (A2r x0 x1 y1) 1152921504606846976 0) (λ_=>none) λz2=>some (0,false)
def A56(x1:B0)(x4:Int)(x5:Bb):Bool:=(((((((!(Jq x1)) || (decide (x4<0))) || (decide (x4>2147483648))) || (decide (x5.High<(-1)))) || (decide (x5.High>x4))) || (decide (x5.Low<(-1)))) || (decide (x5.Low>x4)))
def A55(x0:Aa)(x3:Int):Bool:=((decide (x3<0)) || (decide (x3>=x0.Ao)))
def A54(x1:B0)(x4:Int)(y10:Int)(y14:Int×Bool):Bool:=(((decide (y10>=0))&&(decide ((w64 (x4-y10))>=x1.Delay)))&&y14.2)
def A53(x1:B0)(x4:Int)(y12:Int):Bool:=((decide (y12>=0))&&(decide ((w64 (x4-y12))>=x1.Delay)))
def A7n(x0:Aa)(x1:B0)(x2:Ab)(x3:Int)(x4:Int)(x5:Bb):Option (Bb×(List As)×Int):=
 (F75 x0 x2).bind λy1=>bif (y1 != 0)then none else bif (A56 x1 x4 x5)then none else bif (A55 x0 x3)then none else (A7j x0 x1 x2 x3).bind λy6=>(A7i x0 x1 x2 x3).bind λy8=>(Ay4 y8 x5.High x4).bind λy10=>(Ay4 y6.2 x5.Low x4).bind λy12=>(A7h x0 x2 x3).bind λy14=>bif (A54 x1 x4 y10 y14)then none else bif (A53 x1 x4 y12)then none else some (⟨y10,y12⟩,[],0)
def Avi(x0:Aa)(n0:Nat)(a0:As)(z0:Sg3):b_ (Sg3) Unit:=
 (An8 x0 ⟨z0.1,⟨z0.2.1,z0.2.2.1,z0.2.2.2.1,z0.2.2.2.2.1⟩,z0.2.2.2.2.2.1,z0.2.2.2.2.2.2.2⟩ a0).bind λy6=>(appI 97 z0.2.2.2.2.2.2.1 y6.2.1).bind λy8=>c_ (y6.1.Time,y6.1.Power.Ag,y6.1.Power.Ad,y6.1.Power.Aj,y6.1.Power.Ai,y6.1.A0,y8,y6.1.A6)
def Avh(n1:Nat)(a1:Bb)(z1:(List Bb)):b_ ((List Bb)) Unit:=
 (getI z1 (cnt 0 n1)).bind λy12=>(setI z1 (cnt 0 n1) ⟨(-1),(-1)⟩).bind λy14=>c_ y14
def Axv(a2:An)(y20:Bool):Bool:=(((a2.Ad.length:Int)==0) || (!y20))
def Avf(x0:Aa)(n3:Nat)(a3:As)(z3:Sg3):b_ (Sg3) Unit:=
 (An8 x0 ⟨z3.1,⟨z3.2.1,z3.2.2.1,z3.2.2.2.1,z3.2.2.2.2.1⟩,z3.2.2.2.2.2.1,z3.2.2.2.2.2.2.2⟩ a3).bind λy31=>(appI 97 z3.2.2.2.2.2.2.1 y31.2.1).bind λy33=>c_ (y31.1.Time,y31.1.Power.Ag,y31.1.Power.Ad,y31.1.Power.Aj,y31.1.Power.Ai,y31.1.A0,y33,y31.1.A6)
def Avg(x0:Aa)(x1:B0)(n2:Nat)(a2:An)(z2:Int×eT×(List Ak)×eQ×(List a_)×(List Bb)×(List Ab)×(List Bi)×(List Bb)):b_ (Int×eT×(List Ak)×eQ×(List a_)×(List Bb)×(List Ab)×(List Bi)×(List Bb)) Unit:=
 (getI a2.Ao 0).bind λy18=>(Au [(((a2.Ad.length:Int)==0),false)] (F74 x0 ⟨z2.2.1,z2.2.2.1,z2.2.2.2.1,z2.2.2.2.2.1⟩ y18) default).bind λy20=>bif (Axv a2 y20)then none else (getI z2.2.2.2.2.2.1 y18).bind λy23=>(A7n x0 x1 ⟨z2.2.1,z2.2.2.1,z2.2.2.2.1,z2.2.2.2.2.1⟩ y18 z2.1 y23).bind λy25=>(getI z2.2.2.2.2.2.2.2.2 y18).bind λy27=>(setI z2.2.2.2.2.2.2.2.2 y18 y25.1).bind λy29=>andThen (foldI (Avf x0) y25.2.1 0 (z2.1,z2.2.1,z2.2.2.1,z2.2.2.2.1,z2.2.2.2.2.1,z2.2.2.2.2.2.1,z2.2.2.2.2.2.2.1,z2.2.2.2.2.2.2.2.1)) (λ_=>none) λz3=>c_ (z3.1,z3.2.1,z3.2.2.1,z3.2.2.2.1,z3.2.2.2.2.1,z3.2.2.2.2.2.1,z3.2.2.2.2.2.2.1,z3.2.2.2.2.2.2.2,y29)
def Avj(x0:Aa)(x1:B0)(x2:Am)(x3:List As):Option (Am×(List Bi)×(List Ab)×Int):=
 (F58 x0 x1 x2).bind λy1=>bif (y1 != 0)then none else bif decide ((x3.length:Int)>200)then none else bif decide (x2.Time>=2147483648)then none else andThen (foldI (Avi x0) x3 0 (x2.Time,x2.Power.Ag,x2.Power.Ad,x2.Power.Aj,x2.Power.Ai,x2.A0,[x2.Power],[])) (λ_=>none) λz0=>(mkI 17 x0.Ao ⟨0,0⟩).bind λy10=>andThen (foldI Avh y10 0 y10) (λ_=>none) λz1=>(Zv x0 ⟨z0.2.1,z0.2.2.1,z0.2.2.2.1,z0.2.2.2.2.1⟩).bind λy16=>andThen (foldI (Avg x0 x1) y16 0 (z0.1,z0.2.1,z0.2.2.1,z0.2.2.2.1,z0.2.2.2.2.1,z0.2.2.2.2.2.1,z0.2.2.2.2.2.2.1,z0.2.2.2.2.2.2.2,z1)) (λ_=>none) λz2=>(Aat x0 ⟨z2.2.1,z2.2.2.1,z2.2.2.2.1,z2.2.2.2.2.1⟩ z2.1 ⟨7,0,0⟩).bind λy35=>(appI 97 z2.2.2.2.2.2.2.1 [y35.1]).bind λy37=>(appI 41 [] x2.A6).bind λy39=>(appI 41 y39 z2.2.2.2.2.2.2.2.1).bind λy41=>bif decide ((y41.length:Int)>200)then none else some (⟨w64 (z2.1+1),y35.1,z2.2.2.2.2.2.2.2.2,y41⟩,z2.2.2.2.2.2.2.2.1,y37,0)
def A0h(x0:Aa)(x1:B0)(x2:Am)(x3:List As):Option (Am×(List Bi)×Int):=
 (Avj x0 x1 x2 x3).bind λy1=>some (y1.1,y1.2.1,y1.2.2.2)
def F42:Option (Ba×Am):=
 (F80 ⟨1,[⟨2,0,0⟩,⟨2,0,1⟩,⟨3,0,0⟩,⟨3,0,1⟩],[⟨100,0,0⟩,⟨100,0,0⟩],[⟨40,0,0,0,[]⟩,⟨40,0,0,1,[]⟩],1800,0⟩ ⟨100,1,9⟩).bind λy1=>(A0h ⟨1,[⟨2,0,0⟩,⟨2,0,1⟩,⟨3,0,0⟩,⟨3,0,1⟩],[⟨100,0,0⟩,⟨100,0,0⟩],[⟨40,0,0,0,[]⟩,⟨40,0,0,1,[]⟩],1800,0⟩ ⟨100,1,9⟩ y1.1 [⟨3,0,0⟩,⟨3,1,0⟩,⟨1,0,0⟩,⟨1,1,0⟩,⟨1,2,0⟩,⟨1,3,0⟩]).bind λy3=>some (⟨⟨⟨[],[],[]⟩,⟨[],[],[]⟩,⟨[],[],[]⟩,0,0,0,0⟩,⟨0,1,[⟨2,0,100,0,1,[]⟩,⟨2,0,100,0,1,[]⟩]⟩,⟨1,[⟨2,0,0⟩,⟨2,0,1⟩,⟨3,0,0⟩,⟨3,0,1⟩],[⟨100,0,0⟩,⟨100,0,0⟩],[⟨40,0,0,0,[]⟩,⟨40,0,0,1,[]⟩],1800,0⟩,⟨100,1,9⟩,⟨[⟨1,0⟩,⟨1,1⟩,⟨3,0⟩],[],[]⟩,[],⟨0,0,0,0,0,0,0,0,0⟩,⟨⟨0,0⟩,0⟩,0,⟨ByteArray.empty,0,⟨⟨0,0⟩,0,0⟩,0⟩,⟨[]⟩⟩,y3.1)
def Bt(x0:Int)(x1:Int)(x2:Int):Bool:=
 ((decide (x0>=x1))&&(decide (x0<=x2)))
def A2l(x1:Int)(n0:Nat)(a0:Int)(z0:Unit):b_ Unit Int:=
 bif (x1==a0)then dY (cnt 0 n0) else c_ ()
def Ayw(x0:eQ)(x1:Int):Option Int:=
 andThen (foldI (A2l x1) x0 0 ()) some λz0=>some (-1)
def Ww(x0:eQ)(x1:Int):Option Bool:=
 (Ayw x0 x1).bind λy1=>some (decide (y1>=0))
def Ay3(x0:eQ):Bool:=
 ((x0.length:Int)==0)
def Auo(n0:Nat)(a0:eQ)(z0:Unit):b_ Unit Int:=
 bif Ay3 a0 then dY (cnt 0 n0) else c_ ()
def Ag6(x0:List eQ):Option Int:=
 andThen (foldI Auo x0 0 ()) some λz0=>some (-1)
def uY(x0:List eQ):Option Bool:=
 (Ag6 x0).bind λy1=>some (decide (y1>=0))
def Afs(x0:Aa)(a0:Al):Bool:=((a0.Kind==1)&&(Bt a0.B (w64 (a0.A+1)) (w64 (x0.Ao-1))))
def Afr(z0:eQ×(List eQ))(a0:Al)(y7:Int):Bool:=(((a0.Kind==2)&&(Bt a0.B 0 (w64 ((z0.1.length:Int)-1))))&&(y7==0))
def Ash(z0:eQ×(List eQ))(a0:Al)(y16:Bool):Bool:=(((a0.Kind==3)&&(Bt a0.B 0 (w64 ((z0.2.length:Int)-1))))&&(!y16))
def Akv(x0:Aa)(n0:Nat)(a0:Al)(z0:eQ×(List eQ)):b_ (eQ×(List eQ)) Bool:=
 bif !(Bt a0.A 0 (w64 (x0.Ao-1)))then dY false else bif (Afs x0 a0)then c_ (z0.1,z0.2) else (Au [(((a0.Kind==2)&&(Bt a0.B 0 (w64 ((z0.1.length:Int)-1)))),true)] (getI z0.1 a0.B) default).bind λy7=>bif (Afr z0 a0 y7)then (getI z0.1 a0.B).bind λy10=>(setI z0.1 a0.B (w64 (y10+1))).bind λy12=>c_ (y12,z0.2) else (Au [(((a0.Kind==3)&&(Bt a0.B 0 (w64 ((z0.2.length:Int)-1)))),true)] (getI z0.2 a0.B) default).bind λy14=>(Au [(((a0.Kind==3)&&(Bt a0.B 0 (w64 ((z0.2.length:Int)-1)))),true)] (Ww y14 a0.A) default).bind λy16=>bif (Ash z0 a0 y16)then (getI z0.2 a0.B).bind λy19=>(appI 9 y19 [a0.A]).bind λy21=>(setI z0.2 a0.B y21).bind λy23=>c_ (z0.1,y23) else dY false
def Aos(x0:Aa):Option Bool:=
 (mkI 9 (x0.Ad.length:Int) 0).bind λy1=>(mkI 25 (x0.Ae.length:Int) ([]:eQ)).bind λy3=>andThen (foldI (Akv x0) x0.Ah 0 (y1,y3)) some λz0=>(Ww z0.1 0).bind λy27=>(Au [(!y27,true)] (uY z0.2) default).bind λy29=>some ((!y27)&&(!y29))
def Aho(x0:B6):Bool:=
 (((Bt x0.Rating 1 50000)&&(Bt x0.Least 0 x0.Rating))&&(Bt x0.Start 0 600))
def Asg(x1:Int)(n0:Nat)(a0:Int)(y1:Int):Bool:=((!(Bt a0 0 (w64 (x1-1)))) || ((decide ((cnt 0 n0)>0))&&(decide (y1>=a0))))
def zT(x0:A8)(x1:Int)(n0:Nat)(a0:Int)(z0:Unit):b_ Unit Bool:=
 (Au [(!(Bt a0 0 (w64 (x1-1))),false),(decide ((cnt 0 n0)>0),true)] (getI x0.Needs (w64 ((cnt 0 n0)-1))) default).bind λy1=>bif (Asg x1 n0 a0 y1)then dY false else c_ ()
def Ahn(x0:A8)(x1:Int):Option Bool:=
 andThen (foldI (zT x0 x1) x0.Needs 0 ()) some λz0=>some (((((Bt x0.Load 0 50000)&&(Bt x0.Least 0 x0.Load))&&(Bt x0.B1 0 15))&&(Bt x0.Thruster (-1) 7))&&(decide ((x0.Needs.length:Int)<=4)))
def Asw(x0:Aa):Bool:=((((!(Bt x0.Ao 1 6)) || (decide ((x0.Ah.length:Int)>24))) || (decide ((x0.Ad.length:Int)>8))) || (decide ((x0.Ae.length:Int)>16)))
def A20(n0:Nat)(a0:B6)(z0:Bool):b_ Bool Unit:=
 c_ (z0&&(Aho a0))
def Ali(n1:Nat)(a1:A8)(z1:Bool):b_ Bool Unit:=
 (Au [(z1,true)] (Ahn a1 (cnt 0 n1)) default).bind λy4=>c_ (z1&&y4)
def Ahy(x0:Aa):Option Int:=
 bif (Asw x0)then some 2 else (Aos x0).bind λy2=>andThen (foldI A20 x0.Ad 0 ((y2&&(Bt x0.Phase 0 1800))&&(Bt x0.Ar 0 6000))) (λ_=>none) λz0=>andThen (foldI Ali x0.Ae 0 z0) (λ_=>none) λz1=>bif !z1 then some 14 else some 0
def Nw(x0:Aa)(x1:Int):Int:=
 bif (x1==1)then (x0.Ad.length:Int) else bif (x1==2)then (x0.Ah.length:Int) else bif (x1==3)then x0.Ao else bif (x1==4)then (x0.Ae.length:Int) else 0
def T8(x0:Int):Bool:=
 (x0 != x0)
def Jp(x0:Int)(x1:Int):Int:=
 bif T8 x0 then bif T8 x1 then 0 else (-1) else bif T8 x1 then 1 else bif decide (x0<x1)then (-1) else bif decide (x0>x1)then 1 else 0
def X_(n0:Nat)(a0:Int)(z0:Unit):b_ Unit Int:=
 bif (a0 != 0)then dY a0 else c_ ()
def Xa(x0:eQ):Option Int:=
 andThen (foldI X_ x0 0 ()) some λz0=>some 0
def Asv(x0:Aa)(n0:Nat)(a0:a_)(y5:Int):Bool:=((!(Bt a0.Number 0 (w64 ((Nw x0 a0.Kind)-1)))) || ((decide ((cnt 0 n0)>0))&&(decide (y5>=0))))
def Aaf(x0:Aa)(x1:List a_)(n0:Nat)(a0:a_)(z0:Unit):b_ Unit Bool:=
 (Au [(!(Bt a0.Number 0 (w64 ((Nw x0 a0.Kind)-1))),false),(decide ((cnt 0 n0)>0),true)] (getI x1 (w64 ((cnt 0 n0)-1))) default).bind λy1=>(Au [(!(Bt a0.Number 0 (w64 ((Nw x0 a0.Kind)-1))),false),(decide ((cnt 0 n0)>0),true)] (getI x1 (w64 ((cnt 0 n0)-1))) default).bind λy3=>(Au [(!(Bt a0.Number 0 (w64 ((Nw x0 a0.Kind)-1))),false),(decide ((cnt 0 n0)>0),true)] (Xa [Jp y1.Kind a0.Kind,Jp y3.Number a0.Number]) default).bind λy5=>bif (Asv x0 n0 a0 y5)then dY false else c_ ()
def Ao7(x0:Aa)(x1:List a_):Option Bool:=
 andThen (foldI (Aaf x0 x1) x1 0 ()) some λz0=>some (decide ((x1.length:Int)<=32))
def W9(x0:Ak):Bool:=
 ((((Bt x0.State 0 3)&&(Bt x0.Since 0 2147483648))&&(Bt x0.Ar 0 6000))&&(Bt x0.Phase 0 3599))
def Ay6(x0:Ak):Bool:=
 !(W9 x0)
def Au3(n0:Nat)(a0:Ak)(z0:Unit):b_ Unit Int:=
 bif Ay6 a0 then dY (cnt 0 n0) else c_ ()
def Ahm(x0:List Ak):Option Int:=
 andThen (foldI Au3 x0 0 ()) some λz0=>some (-1)
def W_(x0:List Ak):Option Bool:=
 (Ahm x0).bind λy1=>some (decide (y1>=0))
def Asu(x2:Int)(a0:Al)(y1:Bool):Bool:=(((a0.Kind==3)&&(a0.B==x2))&&y1)
def Alh(x1:Ab)(x2:Int)(n0:Nat)(a0:Al)(z0:Int):b_ Int Unit:=
 (Au [(((a0.Kind==3)&&(a0.B==x2)),true)] (getI x1.Ag (cnt 0 n0)) default).bind λy1=>bif (Asu x2 a0 y1)then c_ (w64 (z0+1)) else c_ z0
def Ao6(x0:Aa)(x1:Ab)(x2:Int):Option Int:=
 andThen (foldI (Alh x1 x2) x0.Ah 0 0) (λ_=>none) λz0=>some z0
def Af3(x0:Aa)(x1:Ab):Bool:=((((x1.Ag.length:Int) != (x0.Ah.length:Int)) || ((x1.Ad.length:Int) != (x0.Ad.length:Int))) || ((x1.Aj.length:Int) != (x0.Ae.length:Int)))
def Alt(x0:Aa)(x1:Ab)(n0:Nat)(a0:Int)(z0:Bool):b_ Bool Unit:=
 (Au [(z0,true)] (getI x0.Ae (cnt 0 n0)) default).bind λy9=>(Au [((z0&&(Bt a0 0 y9.Load)),true)] (Ao6 x0 x1 (cnt 0 n0)) default).bind λy11=>c_ ((z0&&(Bt a0 0 y9.Load))&&(decide (y11<=1)))
def J_(x0:Aa)(x1:Ab):Option Int:=
 (Ahy x0).bind λy1=>bif (y1 != 0)then some y1 else bif (Af3 x0 x1)then some 8 else (Ao7 x0 x1.Ai).bind λy5=>(Au [(y5,true)] (W_ x1.Ad) default).bind λy7=>andThen (foldI (Alt x0 x1) x1.Aj 0 (y5&&(!y7))) (λ_=>none) λz0=>bif !z0 then some 11 else some 0
def Aav(x0:eT):Option eT:=appI 2 [] x0
def Aau(x0:List Ak):Option (List Ak):=appI 33 [] x0
def Qy(x0:eQ):Option eQ:=appI 9 [] x0
def Ua(x0:List a_):Option (List a_):=appI 17 [] x0
def Ny(x0:Ab):Option Ab:=
 (Aav x0.Ag).bind λy1=>(Aau x0.Ad).bind λy3=>(Qy x0.Aj).bind λy5=>(Ua x0.Ai).bind λy7=>some ⟨y1,y3,y5,y7⟩
def Akx(n0:Nat)(a0:Int)(z0:eQ):b_ (eQ) Unit:=
 (getI z0 (cnt 0 n0)).bind λy3=>(setI z0 (cnt 0 n0) (cnt 0 n0)).bind λy5=>c_ y5
def zW(x1:Ab)(n2:Nat)(a2:Al)(z2:eQ):b_ (eQ) Unit:=
 (Au [((a2.Kind==1),true)] (getI x1.Ag (cnt 0 n2)) default).bind λy7=>bif ((a2.Kind==1)&&y7)then (getI z2 a2.A).bind λy10=>(getI z2 a2.B).bind λy12=>(setI z2 a2.A (min y10 y12)).bind λy14=>(getI y14 a2.B).bind λy16=>(setI y14 a2.B (min y10 y12)).bind λy18=>c_ y18 else c_ z2
def Akw(x0:Aa)(x1:Ab)(n1:Nat)(a1:Int)(z1:eQ):b_ (eQ) Unit:=
 andThen (foldI (zW x1) x0.Ah 0 z1) (λ_=>none) λz2=>c_ z2
def Aht(x0:Aa)(x1:Ab):Option (eQ):=
 (mkI 9 x0.Ao 0).bind λy1=>andThen (foldI Akx y1 0 y1) (λ_=>none) λz0=>andThen (foldI (Akw x0 x1) z0 0 z0) (λ_=>none) λz1=>some z1
def Asf(x2:Int)(x3:Int)(a0:Al)(y1:Bool):Bool:=(((a0.Kind==x2)&&(a0.B==x3))&&y1)
def zQ(x1:Ab)(x2:Int)(x3:Int)(n0:Nat)(a0:Al)(z0:Unit):b_ Unit (Int×Bool):=
 (Au [(((a0.Kind==x2)&&(a0.B==x3)),true)] (getI x1.Ag (cnt 0 n0)) default).bind λy1=>bif (Asf x2 x3 a0 y1)then dY (a0.A,true) else c_ ()
def Ahd(x0:Aa)(x1:Ab)(x2:Int)(x3:Int):Option (Int×Bool):=
 andThen (foldI (zQ x1 x2 x3) x0.Ah 0 ()) some λz0=>some (0,false)
def qX(x1:Ab)(x2:Int)(y1:Ak):Bool:=((!(Bt x2 0 (w64 ((x1.Ad.length:Int)-1)))) || (y1.State != 2))
def zV(x0:Aa)(x1:Ab)(x2:Int):Option (Int×Bool):=
 (Au [(!(Bt x2 0 (w64 ((x1.Ad.length:Int)-1))),false)] (getI x1.Ad x2) default).bind λy1=>bif (qX x1 x2 y1)then some (0,false) else (Ahd x0 x1 2 x2).bind λy4=>some (y4.1,y4.2)
def zU(x0:Aa)(x1:Ab)(x2:Int):Option (Int×Bool):=
 (Ahd x0 x1 3 x2).bind λy1=>some (y1.1,y1.2)
def Aot(x0:An):Bool:=
 ((x0.Ao.length:Int)==0)
def Aux(n0:Nat)(a0:An)(z0:Unit):b_ Unit Int:=
 bif Aot a0 then dY (cnt 0 n0) else c_ ()
def uZ(x0:List An):Option Int:=
 andThen (foldI Aux x0 0 ()) some λz0=>some (-1)
def Afu(z0:Int×Int×(List An)):Bool:=decide (z0.2.1<(z0.2.2.length:Int))
def W5(z0:Int×Int×(List An)):b_ (Int×Int×(List An)) Unit:=
 bif (Afu z0)then (getI z0.2.2 z0.2.1).bind λy5=>bif !(Aot y5)then (getI z0.2.2 z0.1).bind λy8=>(setI z0.2.2 z0.1 y5).bind λy10=>c_ (w64 (z0.1+1),w64 (z0.2.1+1),y10) else c_ (z0.1,w64 (z0.2.1+1),z0.2.2) else dZ (z0.1,z0.2.1,z0.2.2)
def Sd(x0:List An):Option ((List An)):=
 (uZ x0).bind λy1=>bif (y1==(-1))then some x0 else andThen (whileN W5 1152921504606846976 (y1,w64 (y1+1),x0)) (λ_=>none) λz0=>(bndI z0.2.2.length z0.1 (z0.2.2.length:Int)).bind λu13=>(bndI (Io z0.2.2 (Int.toNat z0.1) ((Int.toNat (z0.2.2.length:Int))-(Int.toNat z0.1)) ⟨[],[],[]⟩).length 0 z0.1).bind λu15=>some ((Io z0.2.2 (Int.toNat z0.1) ((Int.toNat (z0.2.2.length:Int))-(Int.toNat z0.1)) ⟨[],[],[]⟩).take ((Int.toNat z0.1)-0))
def All(n0:Nat)(a0:Int)(z0:(List An)):b_ ((List An)) Unit:=
 (getI z0 a0).bind λy8=>(appI 9 y8.Ao [cnt 0 n0]).bind λy10=>(setI z0 a0 ⟨y10,y8.Ad,y8.Ae⟩).bind λy12=>c_ y12
def As0(x0:Aa)(z1:Int×(List An)):Bool:=decide (z1.1<(x0.Ad.length:Int))
def Alk(x0:Aa)(x1:Ab)(y4:eQ)(z1:Int×(List An)):b_ (Int×(List An)) Unit:=
 bif (As0 x0 z1)then (zV x0 x1 z1.1).bind λy15=>bif y15.2 then (getI y4 y15.1).bind λy18=>(getI z1.2 y18).bind λy20=>(appI 9 y20.Ad [z1.1]).bind λy22=>(setI z1.2 y18 ⟨y20.Ao,y22,y20.Ae⟩).bind λy24=>c_ (w64 (z1.1+1),y24) else c_ (w64 (z1.1+1),z1.2) else dZ (z1.1,z1.2)
def Asz(x0:Aa)(z2:Int×(List An)):Bool:=decide (z2.1<(x0.Ae.length:Int))
def Alj(x0:Aa)(x1:Ab)(y4:eQ)(z2:Int×(List An)):b_ (Int×(List An)) Unit:=
 bif (Asz x0 z2)then (zU x0 x1 z2.1).bind λy27=>bif y27.2 then (getI y4 y27.1).bind λy30=>(getI z2.2 y30).bind λy32=>(appI 9 y32.Ae [z2.1]).bind λy34=>(setI z2.2 y30 ⟨y32.Ao,y32.Ad,y34⟩).bind λy36=>c_ (w64 (z2.1+1),y36) else c_ (w64 (z2.1+1),z2.2) else dZ (z2.1,z2.2)
def Aao(x0:Aa)(x1:Ab):Option ((List An)):=
 (J_ x0 x1).bind λy1=>bif (y1 != 0)then some [] else (Aht x0 x1).bind λy4=>(mkI 73 x0.Ao ⟨[],[],[]⟩).bind λy6=>andThen (foldI All y4 0 y6) (λ_=>none) λz0=>andThen (whileN (Alk x0 x1 y4) 1152921504606846976 (0,z0)) (λ_=>none) λz1=>andThen (whileN (Alj x0 x1 y4) 1152921504606846976 (0,z1.2)) (λ_=>none) λz2=>(Sd z2.2).bind λy38=>some y38
def Acu(x2:Ak)(n0:Nat)(a0:Int)(z0:(List Ak)):b_ ((List Ak)) Unit:=
 (getI z0 a0).bind λy1=>(setI z0 a0 ⟨y1.State,y1.Since,x2.Ar,y1.Phase⟩).bind λy3=>(getI y3 a0).bind λy5=>(setI y3 a0 ⟨y5.State,y5.Since,y5.Ar,x2.Phase⟩).bind λy7=>c_ y7
def Sg(x0:Ab)(x1:eQ)(x2:Ak):Option ((List Ak)):=
 andThen (foldI (Acu x2) x1 0 x0.Ad) (λ_=>none) λz0=>some z0
def Azs(a0:An):Bool:=decide ((a0.Ad.length:Int)>0)
def Atk(x1:Ab)(y4:Ab)(n0:Nat)(a0:An)(z0:(List Ak)):b_ ((List Ak)) Unit:=
 bif (Azs a0)then (getI a0.Ad 0).bind λy9=>(getI x1.Ad y9).bind λy11=>(Sg ⟨y4.Ag,z0,y4.Aj,y4.Ai⟩ a0.Ad y11).bind λy13=>c_ y13 else c_ z0
def F96(x0:Aa)(x1:Ab):Option (Ab×Int):=
 (J_ x0 x1).bind λy1=>bif (y1 != 0)then some (⟨[],[],[],[]⟩,y1) else (Ny x1).bind λy4=>(Aao x0 x1).bind λy6=>andThen (foldI (Atk x1 y4) y6 0 y4.Ad) (λ_=>none) λz0=>some (⟨y4.Ag,z0,y4.Aj,y4.Ai⟩,0)
def F98(x0:B0):Bool:=
 ((((((decide (x0.Stop>=1))&&(decide (x0.Stop<=99)))&&(decide (x0.Start>x0.Stop)))&&(decide (x0.Start<=100)))&&(decide (x0.Delay>=0)))&&(decide (x0.Delay<=600)))
def Aam(x1:eT)(n0:Nat)(a0:Bool)(z0:Unit):b_ Unit Bool:=
 (getI x1 (cnt 0 n0)).bind λy2=>bif !(a0==y2)then dY false else c_ ()
def Aan(x0:eT)(x1:eT):Option Bool:=
 bif ((x0.length:Int) != (x1.length:Int))then some false else andThen (foldI (Aam x1) x0 0 ()) some λz0=>some true
def Asy(a0:Ak)(y2:Ak):Bool:=!((a0.State==y2.State)&&((a0.Since==y2.Since)&&((a0.Ar==y2.Ar)&&((a0.Phase==y2.Phase)&&true))))
def Aak(x1:List Ak)(n0:Nat)(a0:Ak)(z0:Unit):b_ Unit Bool:=
 (getI x1 (cnt 0 n0)).bind λy2=>bif (Asy a0 y2)then dY false else c_ ()
def Aal(x0:List Ak)(x1:List Ak):Option Bool:=
 bif ((x0.length:Int) != (x1.length:Int))then some false else andThen (foldI (Aak x1) x0 0 ()) some λz0=>some true
def Aai(x1:eQ)(n0:Nat)(a0:Int)(z0:Unit):b_ Unit Bool:=
 (getI x1 (cnt 0 n0)).bind λy2=>bif (a0 != y2)then dY false else c_ ()
def Aaj(x0:eQ)(x1:eQ):Option Bool:=
 bif ((x0.length:Int) != (x1.length:Int))then some false else andThen (foldI (Aai x1) x0 0 ()) some λz0=>some true
def Asx(a0:a_)(y2:a_):Bool:=!((a0.Kind==y2.Kind)&&((a0.Number==y2.Number)&&true))
def Aag(x1:List a_)(n0:Nat)(a0:a_)(z0:Unit):b_ Unit Bool:=
 (getI x1 (cnt 0 n0)).bind λy2=>bif (Asx a0 y2)then dY false else c_ ()
def Aah(x0:List a_)(x1:List a_):Option Bool:=
 bif ((x0.length:Int) != (x1.length:Int))then some false else andThen (foldI (Aag x1) x0 0 ()) some λz0=>some true
def F99(x0:Ab)(x1:Ab):Option Bool:=
 (Aan x0.Ag x1.Ag).bind λy1=>(Au [(y1,true)] (Aal x0.Ad x1.Ad) default).bind λy3=>(Au [((y1&&y3),true)] (Aaj x0.Aj x1.Aj) default).bind λy5=>(Au [(((y1&&y3)&&y5),true)] (Aah x0.Ai x1.Ai) default).bind λy7=>some (((y1&&y3)&&y5)&&y7)
def uI(x0:Int)(x1:Am):Bool:=
 ((decide (x0>=(-1)))&&(decide (x0<=x1.Time)))
def Hh(x0:Bb)(x1c0:Am):Bool×Am:=
 (((!(uI x0.High x1c0)) || (!(uI x0.Low x1c0))),x1c0)
def Afx(z0:Sg1)(a0:Bb):Bool:=(Hh a0 (⟨z0.1,(⟨z0.2.1,z0.2.2.1,z0.2.2.2.1,z0.2.2.2.2.1⟩:Ab),z0.2.2.2.2.2.1,z0.2.2.2.2.2.2⟩:Am)).1
def Acs(n0:Nat)(a0:Bb)(z0:Sg1):b_ (Sg1) (Int×Am):=
 bif (Afx z0 a0)then dY (cnt 0 n0,⟨((Hh a0 ⟨z0.1,⟨z0.2.1,z0.2.2.1,z0.2.2.2.1,z0.2.2.2.2.1⟩,z0.2.2.2.2.2.1,z0.2.2.2.2.2.2⟩).2).Time,(((Hh a0 ⟨z0.1,⟨z0.2.1,z0.2.2.1,z0.2.2.2.1,z0.2.2.2.2.1⟩,z0.2.2.2.2.2.1,z0.2.2.2.2.2.2⟩).2).Power),((Hh a0 ⟨z0.1,⟨z0.2.1,z0.2.2.1,z0.2.2.2.1,z0.2.2.2.2.1⟩,z0.2.2.2.2.2.1,z0.2.2.2.2.2.2⟩).2).A0,((Hh a0 ⟨z0.1,⟨z0.2.1,z0.2.2.1,z0.2.2.2.1,z0.2.2.2.2.1⟩,z0.2.2.2.2.2.1,z0.2.2.2.2.2.2⟩).2).A6⟩) else c_ (((Hh a0 ⟨z0.1,⟨z0.2.1,z0.2.2.1,z0.2.2.2.1,z0.2.2.2.2.1⟩,z0.2.2.2.2.2.1,z0.2.2.2.2.2.2⟩).2).Time,(((Hh a0 ⟨z0.1,⟨z0.2.1,z0.2.2.1,z0.2.2.2.1,z0.2.2.2.2.1⟩,z0.2.2.2.2.2.1,z0.2.2.2.2.2.2⟩).2).Power).Ag,(((Hh a0 ⟨z0.1,⟨z0.2.1,z0.2.2.1,z0.2.2.2.1,z0.2.2.2.2.1⟩,z0.2.2.2.2.2.1,z0.2.2.2.2.2.2⟩).2).Power).Ad,(((Hh a0 ⟨z0.1,⟨z0.2.1,z0.2.2.1,z0.2.2.2.1,z0.2.2.2.2.1⟩,z0.2.2.2.2.2.1,z0.2.2.2.2.2.2⟩).2).Power).Aj,(((Hh a0 ⟨z0.1,⟨z0.2.1,z0.2.2.1,z0.2.2.2.1,z0.2.2.2.2.1⟩,z0.2.2.2.2.2.1,z0.2.2.2.2.2.2⟩).2).Power).Ai,((Hh a0 ⟨z0.1,⟨z0.2.1,z0.2.2.1,z0.2.2.2.1,z0.2.2.2.2.1⟩,z0.2.2.2.2.2.1,z0.2.2.2.2.2.2⟩).2).A0,((Hh a0 ⟨z0.1,⟨z0.2.1,z0.2.2.1,z0.2.2.2.1,z0.2.2.2.2.1⟩,z0.2.2.2.2.2.1,z0.2.2.2.2.2.2⟩).2).A6)
def Ah4(x0:List Bb)(x1c0c0:Am):Option (Int×Am):=
 andThen (foldI Acs x0 0 (x1c0c0.Time,x1c0c0.Power.Ag,x1c0c0.Power.Ad,x1c0c0.Power.Aj,x1c0c0.Power.Ai,x1c0c0.A0,x1c0c0.A6)) some λz0=>some ((-1),⟨z0.1,⟨z0.2.1,z0.2.2.1,z0.2.2.2.1,z0.2.2.2.2.1⟩,z0.2.2.2.2.2.1,z0.2.2.2.2.2.2⟩)
def vP(x0:List Bb)(x1c0c0:Am):Option (Bool×Am):=
 (Ah4 x0 x1c0c0).bind λy1=>some (decide (y1.1>=0),y1.2)
def Az6(x1:B0)(x2:Am):Bool:=(((!(F98 x1)) || (decide (x2.Time<0))) || (decide (x2.Time>2147483648)))
def F49(x0:Aa)(x1:B0)(x2:Am):Option Int:=
 (F96 x0 x2.Power).bind λy1=>bif (y1.2 != 0)then some y1.2 else bif (Az6 x1 x2)then some 1 else bif ((x2.A0.length:Int) != x0.Ao)then some 8 else (F99 x2.Power y1.1).bind λy6=>(Au [(!y6,false)] (vP x2.A0 x2) (default,x2)).bind λy8=>bif ((!y6) || y8.1)then some 11 else some 0
def Ah2(x0:a_):Bool:=
 ((((decide (x0.Kind>=1))&&(decide (x0.Kind<=9)))&&(decide (x0.Number>=0)))&&(decide (x0.Number<=63)))
def Ah3(x0:a_):Bool:=
 !(Ah2 x0)
def Au4(n0:Nat)(a0:a_)(z0:Unit):b_ Unit Int:=
 bif Ah3 a0 then dY (cnt 0 n0) else c_ ()
def Ahs(x0:List a_):Option Int:=
 andThen (foldI Au4 x0 0 ()) some λz0=>some (-1)
def vH(x0:List a_):Option Bool:=
 (Ahs x0).bind λy1=>some (decide (y1>=0))
def Nz(x0:a_)(x1:a_):Option Int:=
 (Xa [Jp x0.Kind x1.Kind,Jp x0.Number x1.Number]).bind λy1=>some y1
def Aco(x0:List a_)(z0:Int):b_ Int Bool:=
 bif decide (z0<(x0.length:Int))then (getI x0 (w64 (z0-1))).bind λy2=>(getI x0 z0).bind λy4=>(Nz y2 y4).bind λy6=>bif decide (y6>=0)then dY false else c_ (w64 (z0+1)) else dZ z0
def Xb(x0:List a_):Option Bool:=
 andThen (whileN (Aco x0) 1152921504606846976 1) some λz0=>some true
def Aph(x0:List a_):Option Bool:=
 (vH x0).bind λy1=>(Au [(!y1,true)] (Xb x0) default).bind λy3=>some ((!y1)&&y3)
def A59(x1:a_)(a0:a_):Bool:=((x1.Kind==a0.Kind)&&((x1.Number==a0.Number)&&true))
def A21(x1:a_)(n0:Nat)(a0:a_)(z0:Unit):b_ Unit Int:=
 bif (A59 x1 a0)then dY (cnt 0 n0) else c_ ()
def Ao8(x0:List a_)(x1:a_):Option Int:=
 andThen (foldI (A21 x1) x0 0 ()) some λz0=>some (-1)
def Aib(x0:List a_)(x1:a_):Option Bool:=
 (Ao8 x0 x1).bind λy1=>some (decide (y1>=0))
def F53(x0:List a_)(x1:a_):Option Bool:=
 (Aib x0 x1).bind λy1=>some y1
def Ao9(x0:A_)(x1:A_):Option Int:=
 (Nz x0.From x1.From).bind λy1=>(Nz x0.To x1.To).bind λy3=>(Xa [y1,y3]).bind λy5=>some y5
def Acn(x0:List A_)(z0:Int):b_ Int Bool:=
 bif decide (z0<(x0.length:Int))then (getI x0 (w64 (z0-1))).bind λy2=>(getI x0 z0).bind λy4=>(Ao9 y2 y4).bind λy6=>bif decide (y6>=0)then dY false else c_ (w64 (z0+1)) else dZ z0
def vF(x0:List A_):Option Bool:=
 andThen (whileN (Acn x0) 1152921504606846976 1) some λz0=>some true
def As8(a0:A_)(y1:Bool)(y3:Bool):Bool:=(((!y1) || (!y3)) || ((a0.From.Kind==a0.To.Kind)&&((a0.From.Number==a0.To.Number)&&true)))
def Alv(x0:A5)(n0:Nat)(a0:A_)(z0:Unit):b_ Unit Bool:=
 (F53 x0.Parts a0.From).bind λy1=>(Au [(!y1,false)] (F53 x0.Parts a0.To) default).bind λy3=>bif (As8 a0 y1 y3)then dY false else c_ ()
def Apg(x0:A5):Option Bool:=
 andThen (foldI (Alv x0) x0.Links 0 ()) some λz0=>(vF x0.Links).bind λy6=>some y6
def A6b(x0:ByteArray):Bool:=((decide ((x0.size:Int)<1)) || (decide ((x0.size:Int)>12)))
def A6a(n0:Nat)(a0:Int):Bool:=((!((decide (a0>=97))&&(decide (a0<=122))))&&(((cnt 0 n0)==0) || ((a0 != 45)&&((decide (a0<48)) || (decide (a0>57))))))
def A22(n0:Nat)(a0:Int)(z0:Unit):b_ Unit Bool:=
 bif (A6a n0 a0)then dY false else c_ ()
def Ay7(x0:ByteArray):Option Bool:=
 bif (A6b x0)then some false else (Af4 x0).bind λy2=>andThen (foldI A22 y2 0 ()) some λz0=>some true
def Ah1(x0:Bu)(x1:Bu):Bool:=
 (x0.Name.toList==x1.Name.toList)
def Acl(x1c0:Bu)(n0:Nat)(a0:Bu)(z0:Unit):b_ Unit (Int×Bu):=
 bif Ah1 a0 x1c0 then dY (cnt 0 n0,x1c0) else c_ ()
def Ahq(x0:List Bu)(x1c0:Bu):Option (Int×Bu):=
 andThen (foldI (Acl x1c0) x0 0 ()) some λz0=>some ((-1),x1c0)
def vE(x0:List Bu)(x1c0:Bu):Option (Bool×Bu):=
 (Ahq x0 x1c0).bind λy1=>some (decide (y1.1>=0),y1.2)
def Ah0(x0:a_)(x1:A5):Option Bool:=
 (F53 x1.Parts x0).bind λy1=>some (!y1)
def Acm(x1c0:A5)(n0:Nat)(a0:a_)(z0:Unit):b_ Unit (Int×A5):=
 (Ah0 a0 x1c0).bind λy1=>bif y1 then dY (cnt 0 n0,x1c0) else c_ ()
def Ahr(x0:List a_)(x1c0:A5):Option (Int×A5):=
 andThen (foldI (Acm x1c0) x0 0 ()) some λz0=>some ((-1),x1c0)
def vG(x0:List a_)(x1c0:A5):Option (Bool×A5):=
 (Ahr x0 x1c0).bind λy1=>some (decide (y1.1>=0),y1.2)
def As7(y1:Bool)(y5:Bool×Bu)(y7:Bool×A5)(y9:Bool):Bool:=(((((!y1) || y5.1) || ((y5.2.Parts.length:Int)==0)) || y7.1) || (!y9))
def Alu(n0:Nat)(a0:Bu)(z0:(List a_)×(List A_)×(List Bu)):b_ ((List a_)×(List A_)×(List Bu)) Bool:=
 (Ay7 a0.Name).bind λy1=>(Au [(!y1,false)] (cutI z0.2.2 0 (cnt 0 n0)) default).bind λy4=>(Au [(!y1,false)] (vE y4 a0) (default,a0)).bind λy5=>(Au [((((!y1) || y5.1) || ((y5.2.Parts.length:Int)==0)),false)] (vG y5.2.Parts ⟨z0.1,z0.2.1,z0.2.2⟩) (default,⟨z0.1,z0.2.1,z0.2.2⟩)).bind λy7=>(Au [(((((!y1) || y5.1) || ((y5.2.Parts.length:Int)==0)) || y7.1),false)] (Xb y5.2.Parts) default).bind λy9=>bif (As7 y1 y5 y7 y9)then dY false else c_ (y7.2.Parts,y7.2.Links,y7.2.Groups)
def Apf(x0:A5):Option Bool:=
 andThen (foldI Alu x0.Groups 0 (x0.Parts,x0.Links,x0.Groups)) some λz0=>some true
def Anu(x0:A5):Bool:=(((decide ((x0.Parts.length:Int)>40)) || (decide ((x0.Links.length:Int)>60))) || (decide ((x0.Groups.length:Int)>6)))
def F50(x0:A5):Option Int:=
 bif (Anu x0)then some 2 else (Aph x0.Parts).bind λy2=>(Au [(!y2,false)] (Apg x0) default).bind λy4=>(Au [(((!y2) || (!y4)),false)] (Apf x0) default).bind λy6=>bif (((!y2) || (!y4)) || (!y6))then some 63 else some 0
def F52(x0:List (List a_)):Option (List a_):=K0 16 x0
def F51(x0:A5)(x1:List a_):Option (List a_):=qF F50 Ua x0 x1
def Aax(x0:List Bb):Option (List Bb):=appI 17 [] x0
def Aaw(x0:List Bi):Option (List Bi):=appI 41 [] x0
def Ape(x0:Aa)(x1:Am):Option Cq:=
 (Ny x1.Power).bind λy1=>(Aax x1.A0).bind λy3=>(Aaw x1.A6).bind λy5=>some ⟨⟨x1.Time,y1,y3,y5⟩,x0,[],[]⟩
def H4(x0:Aa)(x1:Int)(x2:Int):Bool:=
 bif (x1==1)then ((decide (x2>=0))&&(decide (x2<(x0.Ad.length:Int)))) else bif (x1==2)then ((decide (x2>=0))&&(decide (x2<(x0.Ah.length:Int)))) else bif (x1==3)then ((decide (x2>=0))&&(decide (x2<x0.Ao))) else bif (x1==4)then ((decide (x2>=0))&&(decide (x2<(x0.Ae.length:Int)))) else ((decide (x2>=0))&&(decide (x2<0)))
def Aku(x1:As):b_ Bool Unit:=
 bif (x1.Kind==1)then c_ (x1.Kind==1) else c_ (x1.Kind==2)
def Akt(x1:As):b_ Bool Unit:=
 bif (x1.Kind==3)then c_ (x1.Kind==3) else c_ (x1.Kind==4)
def Ahl(x0:Aa)(x1:As):Option Bool:=
 andThen (Aku x1) (λ_=>none) λz0=>bif z0 then some (H4 x0 2 x1.Unit) else andThen (Akt x1) (λ_=>none) λz1=>bif z1 then some (H4 x0 1 x1.Unit) else bif (x1.Kind==5)then some (H4 x0 4 x1.Unit) else bif (x1.Kind==6)then some ((H4 x0 1 x1.Unit)&&(H4 x0 3 x1.Value)) else bif (x1.Kind==8)then some (H4 x0 x1.Value x1.Unit) else bif (x1.Kind==9)then some (H4 x0 x1.Value x1.Unit) else some true
def Nx(x0:Ab)(x1:Int)(x2:Int):Option Bool:=
 (Aib x0.Ai ⟨x1,x2⟩).bind λy1=>some y1
def Ahx(x0:Aa)(x1:Ab)(x2:Int):Option (Int×Bool):=
 (J_ x0 x1).bind λy1=>bif (y1 != 0)then some (0,false) else (zU x0 x1 x2).bind λy4=>some (y4.1,y4.2)
def Aod(x0:Aa)(x1:Ab)(x2:Int):Option Bool:=
 (getI x0.Ah x2).bind λy1=>(getI x1.Ag x2).bind λy3=>(Au [(y3,false)] (Nx x1 2 x2) default).bind λy5=>(Au [((y3 || y5),false)] (Nx x1 3 y1.A) default).bind λy7=>bif ((y3 || y5) || y7)then some false else bif (y1.Kind==1)then (Nx x1 3 y1.B).bind λy11=>some (!y11) else bif (y1.Kind==2)then (Nx x1 1 y1.B).bind λy14=>(Au [(!y14,true)] (getI x1.Ad y1.B) default).bind λy16=>some ((!y14)&&(y16.State==2)) else (Ahx x0 x1 y1.B).bind λy18=>(Nx x1 4 y1.B).bind λy20=>some ((!y20)&&(!y18.2))
def Sc(x2:Int)(n0:Nat)(a0:An)(z0:Unit):b_ Unit (An×Bool):=
 (Ww a0.Ao x2).bind λy3=>bif y3 then dY (a0,true) else c_ ()
def Kr(x0:Aa)(x1:Ab)(x2:Int):Option (An×Bool):=
 (Aao x0 x1).bind λy1=>andThen (foldI (Sc x2) y1 0 ()) some λz0=>some (⟨[],[],[]⟩,false)
def zO(x0:Aa)(x1:Ab)(x2:Int):Option (Int×Bool):=
 (Kr x0 x1 x2).bind λy1=>bif ((y1.1.Ad.length:Int)==0)then some (0,false) else (getI y1.1.Ad 0).bind λy4=>some (y4,true)
def F8(x0:Int):Int:=
 bif decide ((Int.tmod x0 3600)<0)then w64 ((Int.tmod x0 3600)+3600) else Int.tmod x0 3600
def A5e(x0:Int)(x1:Int):Bool:=decide ((F8 (w64 ((F8 x1)-(F8 x0))))>1800)
def Aoa(x0:Int)(x1:Int):Int:=
 bif (A5e x0 x1)then w64 ((F8 (w64 ((F8 x1)-(F8 x0))))-3600) else F8 (w64 ((F8 x1)-(F8 x0)))
def A5k(x1:Ak)(x2:Ak):Bool:=((decide ((min x1.Ar x2.Ar)<0)) || (decide ((max x1.Ar x2.Ar)>6000)))
def Ag1(x0:Aa)(x1:Ak)(x2:Ak):Bool:=
 bif (A5k x1 x2)then false else ((decide ((max (w64 (x1.Ar-x2.Ar)) (w64 (x2.Ar-x1.Ar)))<=x0.Ar))&&(decide ((max (Aoa x1.Phase x2.Phase) (w64 (0-Aoa x1.Phase x2.Phase)))<=x0.Phase)))
def Aoc(x0:Aa)(x1:Ab)(x2:Al):Option Bool:=
 (zO x0 x1 x2.A).bind λy1=>bif !y1.2 then some true else bif (x2.Kind==1)then (zO x0 x1 x2.B).bind λy5=>(Au [(!y5.2,false)] (getI x1.Ad y1.1) default).bind λy7=>(Au [(!y5.2,false)] (getI x1.Ad y5.1) default).bind λy9=>some ((!y5.2) || (Ag1 x0 y7 y9)) else bif (x2.Kind==2)then (getI x1.Ad y1.1).bind λy12=>(getI x1.Ad x2.B).bind λy14=>some (Ag1 x0 y12 y14) else some true
def Asa(x0:Aa)(x2:Int):Bool:=((decide (x2<0)) || (decide (x2>=(x0.Ah.length:Int))))
def Aoh(x0:Aa)(x1:Ab)(x2:Int):Option Int:=
 (J_ x0 x1).bind λy1=>bif (y1 != 0)then some y1 else bif (Asa x0 x2)then some 10 else (Aod x0 x1 x2).bind λy5=>bif !y5 then some 11 else (getI x0.Ah x2).bind λy8=>(Kr x0 x1 y8.A).bind λy10=>(Au [((y8.Kind==1),true)] (Ww y10.1.Ao y8.B) default).bind λy12=>(Au [(!((y8.Kind==1)&&y12),true)] (Aoc x0 x1 y8) default).bind λy14=>bif ((!((y8.Kind==1)&&y12))&&(!y14))then some 12 else some 0
def Aol(x0:Aa)(x1:Ab)(x2:Int):Option (Ab×Int):=
 (Aoh x0 x1 x2).bind λy1=>bif (y1 != 0)then some (⟨[],[],[],[]⟩,y1) else (Ny x1).bind λy4=>(getI y4.Ag x2).bind λy6=>(setI y4.Ag x2 true).bind λy8=>(F96 x0 ⟨y8,y4.Ad,y4.Aj,y4.Ai⟩).bind λy10=>some (y10.1,y10.2)
def Ase(x0:Aa)(x2:Int):Bool:=((decide (x2<0)) || (decide (x2>=(x0.Ah.length:Int))))
def Aok(x0:Aa)(x1:Ab)(x2:Int):Option (Ab×Int):=
 (J_ x0 x1).bind λy1=>bif (y1 != 0)then some (⟨[],[],[],[]⟩,y1) else bif (Ase x0 x2)then some (⟨[],[],[],[]⟩,10) else (getI x1.Ag x2).bind λy5=>(Au [(!y5,false)] (Nx x1 2 x2) default).bind λy7=>bif ((!y5) || y7)then some (⟨[],[],[],[]⟩,11) else (Ny x1).bind λy10=>(getI y10.Ag x2).bind λy12=>(setI y10.Ag x2 false).bind λy14=>some (⟨y14,y10.Ad,y10.Aj,y10.Ai⟩,0)
def Ayv(x0:Aa)(x1:Ab)(x2:Int):Option (Int×Bool):=
 (J_ x0 x1).bind λy1=>bif (y1 != 0)then some (0,false) else (zV x0 x1 x2).bind λy4=>some (y4.1,y4.2)
def Asd(x0:Aa)(x2:Int)(x3:Int):Bool:=((((decide (x2<0)) || (decide (x2>=(x0.Ad.length:Int)))) || (decide (x3<0))) || (decide (x3>=x0.Ao)))
def Aoj(x0:Aa)(x1:Ab)(x2:Int)(x3:Int):Option (Ab×Int):=
 (J_ x0 x1).bind λy1=>bif (y1 != 0)then some (⟨[],[],[],[]⟩,y1) else bif (Asd x0 x2 x3)then some (⟨[],[],[],[]⟩,10) else (zO x0 x1 x3).bind λy5=>(Au [(!y5.2,false)] (getI x1.Ad x2) default).bind λy7=>bif ((!y5.2) || (y7.State != 2))then some (⟨[],[],[],[]⟩,11) else (Ny x1).bind λy10=>(Ayv x0 x1 x2).bind λy12=>bif y12.2 then (Kr x0 x1 y12.1).bind λy15=>(getI x1.Ad y5.1).bind λy17=>(Sg y10 y15.1.Ad y17).bind λy19=>some (⟨y10.Ag,y19,y10.Aj,y10.Ai⟩,0) else (getI x1.Ad y5.1).bind λy21=>(Sg y10 [x2] y21).bind λy23=>some (⟨y10.Ag,y23,y10.Aj,y10.Ai⟩,0)
def Agz(x0:Al)(x1:Int):Bool:=
 ((x0.Kind==2)&&(x0.B==x1))
def Wk(x1c0:Int)(n0:Nat)(a0:Al)(z0:Unit):b_ Unit (Int×Int):=
 bif Agz a0 x1c0 then dY (cnt 0 n0,x1c0) else c_ ()
def Ag0(x0:List Al)(x1c0:Int):Option (Int×Int):=
 andThen (foldI (Wk x1c0) x0 0 ()) some λz0=>some ((-1),x1c0)
def Aob(x0:Aa)(x1:Int):Option Int:=
 (Ag0 x0.Ah x1).bind λy1=>some y1.1
def Sb(x0:Bg)(x1:Int):Option Bool:=
 (Aob x0.Aq x1).bind λy1=>(getI x0.Ax.Ag y1).bind λy3=>some (!y3)
def uX(x0:Bg)(x1:Int):Option (Int×Bg):=
 (getI x0.Ax.Ad x1).bind λy1=>(Au [((y1.State != 0),false)] (Nx x0.Ax 1 x1) default).bind λy3=>bif ((y1.State != 0) || y3)then some (11,x0) else (getI x0.Aq.Ad x1).bind λy6=>(Au [((y6.Start==0),true)] (Sb x0 x1) default).bind λy8=>bif ((y6.Start==0)&&y8)then (setI x0.Ax.Ad x1 ⟨2,x0.time,5000,0⟩).bind λy11=>some (0,⟨x0.Aq,⟨x0.Ax.Ag,y11,x0.Ax.Aj,x0.Ax.Ai⟩,x0.time⟩) else (setI x0.Ax.Ad x1 ⟨1,x0.time,5000,0⟩).bind λy13=>some (0,⟨x0.Aq,⟨x0.Ax.Ag,y13,x0.Ax.Aj,x0.Ax.Ai⟩,x0.time⟩)
def Axs(y1:Ak)(y3:Bool):Bool:=(((y1.State != 1)&&(y1.State != 2)) || (!y3))
def uW(x0:Bg)(x1:Int):Option (Int×Bg):=
 (getI x0.Ax.Ad x1).bind λy1=>(Au [(((y1.State != 1)&&(y1.State != 2)),false)] (Sb x0 x1) default).bind λy3=>bif (Axs y1 y3)then some (11,x0) else (setI x0.Ax.Ad x1 ⟨0,y1.Since,y1.Ar,y1.Phase⟩).bind λy6=>some (0,⟨x0.Aq,⟨x0.Ax.Ag,y6,x0.Ax.Aj,x0.Ax.Ai⟩,x0.time⟩)
def Afq(x2:Int)(y1:A8):Bool:=((decide (x2<0)) || (decide (x2>y1.Load)))
def uV(x0:Bg)(x1:Int)(x2:Int):Option (Int×Bg):=
 (Au [(decide (x2<0),false)] (getI x0.Aq.Ae x1) default).bind λy1=>bif (Afq x2 y1)then some (1,x0) else (getI x0.Ax.Aj x1).bind λy4=>(setI x0.Ax.Aj x1 x2).bind λy6=>some (0,⟨x0.Aq,⟨x0.Ax.Ag,x0.Ax.Ad,y6,x0.Ax.Ai⟩,x0.time⟩)
def Ako(n0:Nat)(a0:Ak)(z0:(List Ak)):b_ ((List Ak)) Unit:=
 bif (a0.State==2)then (getI z0 (cnt 0 n0)).bind λy7=>(setI z0 (cnt 0 n0) ⟨y7.State,y7.Since,y7.Ar,F8 (w64 (a0.Phase+(w64 (36*(w64 (a0.Ar-5000))))))⟩).bind λy9=>c_ y9 else c_ z0
def Aog(x0:Aa)(x1:Ab):Option (Ab×Int):=
 (J_ x0 x1).bind λy1=>bif (y1 != 0)then some (⟨[],[],[],[]⟩,y1) else (Ny x1).bind λy4=>andThen (foldI Ako x1.Ad 0 y4.Ad) (λ_=>none) λz0=>some (⟨y4.Ag,z0,y4.Aj,y4.Ai⟩,0)
def Afp(y1:Ab×Int)(z0:Int×(List Ak)):Bool:=decide (z0.1<(y1.1.Ad.length:Int))
def Axr(x0:Bg)(y4:Ak)(y6:Bool)(y8:B6):Bool:=(((y4.State==1)&&y6)&&(decide ((w64 (y4.Since+y8.Start))<=(w64 (x0.time+1)))))
def Aci(x0:Bg)(y1:Ab×Int)(z0:Int×(List Ak)):b_ (Int×(List Ak)) Unit:=
 bif (Afp y1 z0)then (getI z0.2 z0.1).bind λy4=>(Au [((y4.State==1),true)] (Sb ⟨x0.Aq,⟨y1.1.Ag,z0.2,y1.1.Aj,y1.1.Ai⟩,x0.time⟩ z0.1) default).bind λy6=>(Au [(((y4.State==1)&&y6),true)] (getI x0.Aq.Ad z0.1) default).bind λy8=>bif (Axr x0 y4 y6 y8)then (setI z0.2 z0.1 ⟨2,y4.Since,y4.Ar,y4.Phase⟩).bind λy11=>c_ (w64 (z0.1+1),y11) else c_ (w64 (z0.1+1),z0.2) else dZ (z0.1,z0.2)
def uU(x0:Bg):Option Bg:=
 (Aog x0.Aq x0.Ax).bind λy1=>andThen (whileN (Aci x0 y1) 1152921504606846976 (0,y1.1.Ad)) (λ_=>none) λz0=>some ⟨x0.Aq,⟨y1.1.Ag,z0.2,y1.1.Aj,y1.1.Ai⟩,x0.time⟩
def T7(x0:a_)(x1:a_):Int:=
 bif (x0.Kind != x1.Kind)then w64 (x0.Kind-x1.Kind) else w64 (x0.Number-x1.Number)
def Acb(x0:List a_)(x1:a_)(z0:Int×Int):b_ (Int×Int) Unit:=
 bif decide (z0.1<z0.2)then (getI x0 (w64 (Uu .u64 (IntKind.wrap .u64 (w64 (z0.1+z0.2))) 1))).bind λy2=>bif decide ((T7 y2 x1)<0)then c_ (w64 ((w64 (Uu .u64 (IntKind.wrap .u64 (w64 (z0.1+z0.2))) 1))+1),z0.2) else c_ (z0.1,w64 (Uu .u64 (IntKind.wrap .u64 (w64 (z0.1+z0.2))) 1)) else dZ (z0.1,z0.2)
def uO(x0:List a_)(x1:a_):Option (Int×Bool):=
 andThen (whileN (Acb x0 x1) 1152921504606846976 (0,(x0.length:Int))) (λ_=>none) λz0=>(Au [(decide (z0.1<(x0.length:Int)),true)] (getI x0 z0.1) default).bind λy5=>some (z0.1,((decide (z0.1<(x0.length:Int)))&&((T7 y5 x1)==0)))
def Sa(x0:List a_)(x1:Int)(x2:List a_):Option ((List a_)):=
 (bndI x0.length x1 (x0.length:Int)).bind λu2=>bif ((x2.length:Int)==0)then some x0 else bif (x1==(x0.length:Int))then (appI 17 x0 x2).bind λy5=>some y5 else insI 17 x0 x1 x2
def Wn(x0:List a_)(x1:Int)(x2:Int):Option ((List a_)):=
 (bnd3I x0.length x1 x2 (x0.length:Int)).bind λu2=>bif (x1==x2)then some x0 else (bndI x0.length 0 x1).bind λu5=>(bndI x0.length x2 (x0.length:Int)).bind λu7=>(appPI x0 ((Int.toNat x1)-0) ((x0.drop (Int.toNat x2)).take ((Int.toNat (x0.length:Int))-(Int.toNat x2)))).bind λy8=>(bndI (y8.length-0) (((((Int.toNat x1)-0)+((x0.drop (Int.toNat x2)).take ((Int.toNat (x0.length:Int))-(Int.toNat x2))).length):Nat):Int) (x0.length:Int)).bind λu11=>some ((Io y8 (0+(Int.toNat (((((Int.toNat x1)-0)+((x0.drop (Int.toNat x2)).take ((Int.toNat (x0.length:Int))-(Int.toNat x2))).length):Nat):Int))) ((Int.toNat (x0.length:Int))-(Int.toNat (((((Int.toNat x1)-0)+((x0.drop (Int.toNat x2)).take ((Int.toNat (x0.length:Int))-(Int.toNat x2))).length):Nat):Int))) ⟨0,0⟩).take (((Int.toNat x1)-0)+((x0.drop (Int.toNat x2)).take ((Int.toNat (x0.length:Int))-(Int.toNat x2))).length))
def Pk(x0:Bg)(x2:Bool):Bool:=(x2&&(decide ((x0.Ax.Ai.length:Int)>=32)))
def Wv(x0:Bg)(x1:a_)(x2:Bool)(y1:Int×Bool):b_ ((List a_)) Unit:=
 bif x2 then (Sa x0.Ax.Ai y1.1 [x1]).bind λy6=>c_ y6 else (Wn x0.Ax.Ai y1.1 (w64 (y1.1+1))).bind λy8=>c_ y8
def Hg(x0:Bg)(x1:a_)(x2:Bool):Option (Int×Bg):=
 (uO x0.Ax.Ai x1).bind λy1=>bif (y1.2==x2)then some (11,x0) else bif (Pk x0 x2)then some (2,x0) else andThen (Wv x0 x1 x2 y1) (λ_=>none) λz0=>bif (x1.Kind==1)then (getI x0.Ax.Ad x1.Number).bind λy11=>(setI x0.Ax.Ad x1.Number ⟨0,y11.Since,y11.Ar,y11.Phase⟩).bind λy13=>bif x2 then (getI y13 x1.Number).bind λy16=>(setI y13 x1.Number ⟨3,y16.Since,y16.Ar,y16.Phase⟩).bind λy18=>some (0,⟨x0.Aq,⟨x0.Ax.Ag,y18,x0.Ax.Aj,z0⟩,x0.time⟩) else some (0,⟨x0.Aq,⟨x0.Ax.Ag,y13,x0.Ax.Aj,z0⟩,x0.time⟩) else some (0,⟨x0.Aq,⟨x0.Ax.Ag,x0.Ax.Ad,x0.Ax.Aj,z0⟩,x0.time⟩)
def W0(x0:Bg)(x1:As):Option (Int×Bg):=
 bif (x1.Kind==1)then (Aol x0.Aq x0.Ax x1.Unit).bind λy2=>some (y2.2,⟨x0.Aq,y2.1,x0.time⟩) else bif (x1.Kind==2)then (Aok x0.Aq x0.Ax x1.Unit).bind λy5=>some (y5.2,⟨x0.Aq,y5.1,x0.time⟩) else bif (x1.Kind==6)then (Aoj x0.Aq x0.Ax x1.Unit x1.Value).bind λy8=>some (y8.2,⟨x0.Aq,y8.1,x0.time⟩) else bif (x1.Kind==3)then (uX x0 x1.Unit).bind λy11=>some (y11.1,y11.2) else bif (x1.Kind==4)then (uW x0 x1.Unit).bind λy14=>some (y14.1,y14.2) else bif (x1.Kind==5)then (uV x0 x1.Unit x1.Value).bind λy17=>some (y17.1,y17.2) else bif (x1.Kind==7)then (uU x0).bind λy20=>some (0,y20) else (Hg x0 ⟨x1.Value,x1.Unit⟩ (x1.Kind==8)).bind λy22=>some (y22.1,y22.2)
def qZ(x2:Int)(x3:As):Bool:=((((decide (x2<0)) || (decide (x2>2147483648))) || (decide (x3.Kind<1))) || (decide (x3.Kind>9)))
def W8(x0:Aa)(x1:Ab)(x2:Int)(x3:As):Option (Ab×Int):=
 (J_ x0 x1).bind λy1=>bif (y1 != 0)then some (⟨[],[],[],[]⟩,y1) else bif (qZ x2 x3)then some (⟨[],[],[],[]⟩,1) else (Ahl x0 x3).bind λy5=>bif !y5 then some (⟨[],[],[],[]⟩,10) else (Ny x1).bind λy8=>(W0 ⟨x0,y8,x2⟩ x3).bind λy10=>bif (y10.1 != 0)then some (⟨[],[],[],[]⟩,y10.1) else some (y10.2.Ax,0)
def W7(x0:Cq)(x1:As)(x2:Int):Option Cq:=
 (appI 41 x0.events [⟨x0.Bn.Time,x1,x2⟩]).bind λy1=>some ⟨x0.Bn,x0.Aq,y1,x0.states⟩
def Pt(x0:Cq)(x1:Ab):Option Cq:=
 (Ny x1).bind λy3=>(appI 97 x0.states [y3]).bind λy5=>some ⟨x0.Bn,x0.Aq,x0.events,y5⟩
def Pr(x0:Int)(x1:Int)(x2:A4):Option (Bool×A4):=
 (Nx x2.Ax x0 x1).bind λy1=>some (y1,x2)
def uQ(x0:A4)(x1:Al):Option (Bool×A4):=
 (Pr 3 x1.A x0).bind λy1=>bif y1.1 then some (true,y1.2) else bif (x1.Kind==1)then (Pr 3 x1.B y1.2).bind λy5=>some (y5.1,y5.2) else bif (x1.Kind==2)then (Pr 1 x1.B y1.2).bind λy8=>(Au [(y8.1,false)] (getI y8.2.Ax.Ad x1.B) default).bind λy10=>some ((y8.1 || (y10.State != 2)),y8.2) else (Pr 4 x1.B y1.2).bind λy12=>some (y12.1,y12.2)
def R_(x0:A4)(x1:Int):Option A4:=
 (getI x0.Ax.Ag x1).bind λy1=>(setI x0.Ax.Ag x1 false).bind λy3=>(appI 25 x0.acts [⟨2,x1,0⟩]).bind λy5=>some ⟨x0.Aq,⟨y3,x0.Ax.Ad,x0.Ax.Aj,x0.Ax.Ai⟩,y5⟩
def Ach(n0:Nat)(a0:Al)(z0:An4):b_ (An4) Unit:=
 (getI z0.2.2.2.2.2.2.2.1 (cnt 0 n0)).bind λy1=>(Au [(y1,true)] (uQ ⟨⟨z0.1,z0.2.1,z0.2.2.1,z0.2.2.2.1,z0.2.2.2.2.1,z0.2.2.2.2.2.1⟩,⟨z0.2.2.2.2.2.2.2.1,z0.2.2.2.2.2.2.2.2.1,z0.2.2.2.2.2.2.2.2.2.1,z0.2.2.2.2.2.2.2.2.2.2.1⟩,z0.2.2.2.2.2.2.2.2.2.2.2⟩ a0) (default,⟨⟨z0.1,z0.2.1,z0.2.2.1,z0.2.2.2.1,z0.2.2.2.2.1,z0.2.2.2.2.2.1⟩,⟨z0.2.2.2.2.2.2.2.1,z0.2.2.2.2.2.2.2.2.1,z0.2.2.2.2.2.2.2.2.2.1,z0.2.2.2.2.2.2.2.2.2.2.1⟩,z0.2.2.2.2.2.2.2.2.2.2.2⟩)).bind λy3=>bif (y1&&y3.1)then (appI 9 z0.2.2.2.2.2.2.1 [cnt 0 n0]).bind λy6=>c_ (y3.2.Aq.Ao,y3.2.Aq.Ah,y3.2.Aq.Ad,y3.2.Aq.Ae,y3.2.Aq.Phase,y3.2.Aq.Ar,y6,y3.2.Ax.Ag,y3.2.Ax.Ad,y3.2.Ax.Aj,y3.2.Ax.Ai,y3.2.acts) else c_ (y3.2.Aq.Ao,y3.2.Aq.Ah,y3.2.Aq.Ad,y3.2.Aq.Ae,y3.2.Aq.Phase,y3.2.Aq.Ar,z0.2.2.2.2.2.2.1,y3.2.Ax.Ag,y3.2.Ax.Ad,y3.2.Ax.Aj,y3.2.Ax.Ai,y3.2.acts)
def Wu(n1:Nat)(a1:Int)(z1:Qr):b_ (Qr) Unit:=
 (R_ ⟨⟨z1.1,z1.2.1,z1.2.2.1,z1.2.2.2.1,z1.2.2.2.2.1,z1.2.2.2.2.2.1⟩,⟨z1.2.2.2.2.2.2.1,z1.2.2.2.2.2.2.2.1,z1.2.2.2.2.2.2.2.2.1,z1.2.2.2.2.2.2.2.2.2.1⟩,z1.2.2.2.2.2.2.2.2.2.2⟩ a1).bind λy8=>c_ (y8.Aq.Ao,y8.Aq.Ah,y8.Aq.Ad,y8.Aq.Ae,y8.Aq.Phase,y8.Aq.Ar,y8.Ax.Ag,y8.Ax.Ad,y8.Ax.Aj,y8.Ax.Ai,y8.acts)
def uT(x0:A4):Option A4:=
 andThen (foldI Ach x0.Aq.Ah 0 (x0.Aq.Ao,x0.Aq.Ah,x0.Aq.Ad,x0.Aq.Ae,x0.Aq.Phase,x0.Aq.Ar,[],x0.Ax.Ag,x0.Ax.Ad,x0.Ax.Aj,x0.Ax.Ai,x0.acts)) (λ_=>none) λz0=>andThen (foldI Wu z0.2.2.2.2.2.2.1 0 (z0.1,z0.2.1,z0.2.2.1,z0.2.2.2.1,z0.2.2.2.2.1,z0.2.2.2.2.2.1,z0.2.2.2.2.2.2.2.1,z0.2.2.2.2.2.2.2.2.1,z0.2.2.2.2.2.2.2.2.2.1,z0.2.2.2.2.2.2.2.2.2.2.1,z0.2.2.2.2.2.2.2.2.2.2.2)) (λ_=>none) λz1=>some ⟨⟨z1.1,z1.2.1,z1.2.2.1,z1.2.2.2.1,z1.2.2.2.2.1,z1.2.2.2.2.2.1⟩,⟨z1.2.2.2.2.2.2.1,z1.2.2.2.2.2.2.2.1,z1.2.2.2.2.2.2.2.2.1,z1.2.2.2.2.2.2.2.2.2.1⟩,z1.2.2.2.2.2.2.2.2.2.2⟩
def Ahw(x0:Aa)(x1:Ab)(x2:Int):Option Bool:=
 (Kr x0 x1 x2).bind λy1=>some (decide ((y1.1.Ad.length:Int)>0))
def uP(x0:Al)(x1:A4):Option (Bool×A4):=
 (Au [((x0.Kind==3),true)] (Ahw x1.Aq x1.Ax x0.A) default).bind λy1=>some (((x0.Kind==3)&&(!y1)),x1)
def Acg(n0:Nat)(a0:Al)(z0:An4):b_ (An4) Unit:=
 (getI z0.2.2.2.2.2.2.2.1 (cnt 0 n0)).bind λy1=>(Au [(y1,true)] (uP a0 ⟨⟨z0.1,z0.2.1,z0.2.2.1,z0.2.2.2.1,z0.2.2.2.2.1,z0.2.2.2.2.2.1⟩,⟨z0.2.2.2.2.2.2.2.1,z0.2.2.2.2.2.2.2.2.1,z0.2.2.2.2.2.2.2.2.2.1,z0.2.2.2.2.2.2.2.2.2.2.1⟩,z0.2.2.2.2.2.2.2.2.2.2.2⟩) (default,⟨⟨z0.1,z0.2.1,z0.2.2.1,z0.2.2.2.1,z0.2.2.2.2.1,z0.2.2.2.2.2.1⟩,⟨z0.2.2.2.2.2.2.2.1,z0.2.2.2.2.2.2.2.2.1,z0.2.2.2.2.2.2.2.2.2.1,z0.2.2.2.2.2.2.2.2.2.2.1⟩,z0.2.2.2.2.2.2.2.2.2.2.2⟩)).bind λy3=>bif (y1&&y3.1)then (appI 9 z0.2.2.2.2.2.2.1 [cnt 0 n0]).bind λy6=>c_ (y3.2.Aq.Ao,y3.2.Aq.Ah,y3.2.Aq.Ad,y3.2.Aq.Ae,y3.2.Aq.Phase,y3.2.Aq.Ar,y6,y3.2.Ax.Ag,y3.2.Ax.Ad,y3.2.Ax.Aj,y3.2.Ax.Ai,y3.2.acts) else c_ (y3.2.Aq.Ao,y3.2.Aq.Ah,y3.2.Aq.Ad,y3.2.Aq.Ae,y3.2.Aq.Phase,y3.2.Aq.Ar,z0.2.2.2.2.2.2.1,y3.2.Ax.Ag,y3.2.Ax.Ad,y3.2.Ax.Aj,y3.2.Ax.Ai,y3.2.acts)
def Auw(n1:Nat)(a1:Int)(z1:Qr):b_ (Qr) Unit:=
 (R_ ⟨⟨z1.1,z1.2.1,z1.2.2.1,z1.2.2.2.1,z1.2.2.2.2.1,z1.2.2.2.2.2.1⟩,⟨z1.2.2.2.2.2.2.1,z1.2.2.2.2.2.2.2.1,z1.2.2.2.2.2.2.2.2.1,z1.2.2.2.2.2.2.2.2.2.1⟩,z1.2.2.2.2.2.2.2.2.2.2⟩ a1).bind λy8=>c_ (y8.Aq.Ao,y8.Aq.Ah,y8.Aq.Ad,y8.Aq.Ae,y8.Aq.Phase,y8.Aq.Ar,y8.Ax.Ag,y8.Ax.Ad,y8.Ax.Aj,y8.Ax.Ai,y8.acts)
def uS(x0:A4):Option A4:=
 andThen (foldI Acg x0.Aq.Ah 0 (x0.Aq.Ao,x0.Aq.Ah,x0.Aq.Ad,x0.Aq.Ae,x0.Aq.Phase,x0.Aq.Ar,[],x0.Ax.Ag,x0.Ax.Ad,x0.Ax.Aj,x0.Ax.Ai,x0.acts)) (λ_=>none) λz0=>andThen (foldI Auw z0.2.2.2.2.2.2.1 0 (z0.1,z0.2.1,z0.2.2.1,z0.2.2.2.1,z0.2.2.2.2.1,z0.2.2.2.2.2.1,z0.2.2.2.2.2.2.2.1,z0.2.2.2.2.2.2.2.2.1,z0.2.2.2.2.2.2.2.2.2.1,z0.2.2.2.2.2.2.2.2.2.2.1,z0.2.2.2.2.2.2.2.2.2.2.2)) (λ_=>none) λz1=>some ⟨⟨z1.1,z1.2.1,z1.2.2.1,z1.2.2.2.1,z1.2.2.2.2.1,z1.2.2.2.2.2.1⟩,⟨z1.2.2.2.2.2.2.1,z1.2.2.2.2.2.2.2.1,z1.2.2.2.2.2.2.2.2.1,z1.2.2.2.2.2.2.2.2.2.1⟩,z1.2.2.2.2.2.2.2.2.2.2⟩
def vB(x0:A4):Option A4:=
 (uT x0).bind λy1=>(uS y1).bind λy3=>(F96 y3.Aq y3.Ax).bind λy5=>some ⟨y3.Aq,y5.1,y3.acts⟩
def R9(x0:Int)(x1:Int)(x2:Aa):Option Int:=
 (getI x2.Ae x0).bind λy1=>(getI x2.Ae x1).bind λy3=>some (Jp y1.B1 y3.B1)
def Zi(x1:Int)(z1:Int×eQ)(y12:Int):Bool:=((decide (z1.1>x1))&&(decide (y12<0)))
def Wj(x1:Int)(x3c0:Aa)(z1:Int×eQ):b_ (Int×eQ) Unit:=
 (Au [(decide (z1.1>x1),true)] (getI z1.2 z1.1) default).bind λy8=>(Au [(decide (z1.1>x1),true)] (getI z1.2 (w64 (z1.1-1))) default).bind λy10=>(Au [(decide (z1.1>x1),true)] (R9 y8 y10 x3c0) default).bind λy12=>bif (Zi x1 z1 y12)then (getI z1.2 (w64 (z1.1-1))).bind λy15=>(getI z1.2 z1.1).bind λy17=>(setI z1.2 z1.1 y15).bind λy19=>(getI y19 (w64 (z1.1-1))).bind λy21=>(setI y19 (w64 (z1.1-1)) y17).bind λy23=>c_ (w64 (z1.1-1),y23) else dZ (z1.1,z1.2)
def Ab8(x1:Int)(x2:Int)(x3c0:Aa)(z0:Int×eQ):b_ (Int×eQ) Unit:=
 bif decide (z0.1<x2)then andThen (whileN (Wj x1 x3c0) 1152921504606846976 (z0.1,z0.2)) (λ_=>none) λz1=>c_ (w64 (z0.1+1),z1.2) else dZ (z0.1,z0.2)
def uK(x0:eQ)(x1:Int)(x2:Int)(x3c0:Aa):Option (eQ×Aa):=
 andThen (whileN (Ab8 x1 x2 x3c0) 1152921504606846976 (w64 (x1+1),x0)) (λ_=>none) λz0=>some (z0.2,x3c0)
def Aca(x1:Int)(z0:Int×Int×eQ×Int×(List Al)×(List B6)×(List A8)×Int×Int):b_ (Int×Int×eQ×Int×(List Al)×(List B6)×(List A8)×Int×Int) Unit:=
 bif decide (z0.2.1<=x1)then (uK z0.2.2.1 z0.1 z0.2.1 ⟨z0.2.2.2.1,z0.2.2.2.2.1,z0.2.2.2.2.2.1,z0.2.2.2.2.2.2.1,z0.2.2.2.2.2.2.2.1,z0.2.2.2.2.2.2.2.2⟩).bind λy2=>c_ (z0.2.1,w64 (z0.2.1+20),y2.1,y2.2.Ao,y2.2.Ah,y2.2.Ad,y2.2.Ae,y2.2.Phase,y2.2.Ar) else dZ (z0.1,z0.2.1,z0.2.2.1,z0.2.2.2.1,z0.2.2.2.2.1,z0.2.2.2.2.2.1,z0.2.2.2.2.2.2.1,z0.2.2.2.2.2.2.2.1,z0.2.2.2.2.2.2.2.2)
def Ab9(x1:Int)(z1:Unit):b_ Unit Unit:=
 bif decide (20<x1)then none else dZ ()
def Ag4(x0:eQ)(x1:Int)(x2c0:Aa):Option (eQ×Aa):=
 andThen (whileN (Aca x1) 1152921504606846976 (0,20,x0,x2c0.Ao,x2c0.Ah,x2c0.Ad,x2c0.Ae,x2c0.Phase,x2c0.Ar)) (λ_=>none) λz0=>(uK z0.2.2.1 z0.1 x1 ⟨z0.2.2.2.1,z0.2.2.2.2.1,z0.2.2.2.2.2.1,z0.2.2.2.2.2.2.1,z0.2.2.2.2.2.2.2.1,z0.2.2.2.2.2.2.2.2⟩).bind λy4=>andThen (whileN (Ab9 x1) 1152921504606846976 ()) (λ_=>none) λz1=>some (y4.1,y4.2)
def uN(x0:eQ)(x1c0:Aa):Option (eQ×Aa):=
 (Ag4 x0 (x0.length:Int) x1c0).bind λy1=>some (y1.1,y1.2)
def Asb(x0:Aa)(z0:Int×eQ):Bool:=decide (z0.1<(x0.Ae.length:Int))
def Akp(x0:Aa)(z0:Int×eQ):b_ (Int×eQ) Unit:=
 bif (Asb x0 z0)then (appI 9 z0.2 [z0.1]).bind λy5=>c_ (w64 (z0.1+1),y5) else dZ (z0.1,z0.2)
def zP(x0:Aa):Option (eQ):=
 (Ahy x0).bind λy1=>bif (y1 != 0)then some [] else andThen (whileN (Akp x0) 1152921504606846976 (0,[])) (λ_=>none) λz0=>(uN z0.2 x0).bind λy7=>some y7.1
def Wr(x0:Int)(x1:An):Option Bool:=
 (Ww x1.Ae x0).bind λy1=>some (!y1)
def Wy(x1c0:An)(n0:Nat)(a0:Int)(z0:Unit):b_ Unit (Int×An):=
 (Wr a0 x1c0).bind λy1=>bif y1 then dY (cnt 0 n0,x1c0) else c_ ()
def Ahh(x0:eQ)(x1c0:An):Option (Int×An):=
 andThen (foldI (Wy x1c0) x0 0 ()) some λz0=>some ((-1),x1c0)
def Afo(z0:Int×Int×eQ):Bool:=decide (z0.2.1<(z0.2.2.length:Int))
def Ws(y1:Int×An)(z0:Int×Int×eQ):b_ (Int×Int×eQ) Unit:=
 bif (Afo z0)then (getI z0.2.2 z0.2.1).bind λy5=>(Wr y5 y1.2).bind λy7=>bif !y7 then (getI z0.2.2 z0.1).bind λy10=>(setI z0.2.2 z0.1 y5).bind λy12=>c_ (w64 (z0.1+1),w64 (z0.2.1+1),y12) else c_ (z0.1,w64 (z0.2.1+1),z0.2.2) else dZ (z0.1,z0.2.1,z0.2.2)
def Wt(x0:eQ)(x1c0:An):Option (eQ×An):=
 (Ahh x0 x1c0).bind λy1=>bif (y1.1==(-1))then some (x0,y1.2) else andThen (whileN (Ws y1) 1152921504606846976 (y1.1,w64 (y1.1+1),x0)) (λ_=>none) λz0=>(bndI z0.2.2.length z0.1 (z0.2.2.length:Int)).bind λu15=>(bndI (Io z0.2.2 (Int.toNat z0.1) ((Int.toNat (z0.2.2.length:Int))-(Int.toNat z0.1)) 0).length 0 z0.1).bind λu17=>some (((Io z0.2.2 (Int.toNat z0.1) ((Int.toNat (z0.2.2.length:Int))-(Int.toNat z0.1)) 0).take ((Int.toNat z0.1)-0)),y1.2)
def zN(x1:Ab)(y1:An×Bool)(n0:Nat)(a0:Int)(z0:Int):b_ Int Unit:=
 bif decide ((y1.1.Ad.length:Int)>0)then (getI x1.Aj a0).bind λy4=>c_ (w64 (z0+y4)) else c_ z0
def Ag3(x0:Aa)(x1:Ab)(x2:Int):Option Int:=
 (Kr x0 x1 x2).bind λy1=>andThen (foldI (zN x1 y1) y1.1.Ae 0 0) (λ_=>none) λz0=>some z0
def Akn(x0:Aa)(n0:Nat)(a0:Int)(z0:Int):b_ Int Unit:=
 (getI x0.Ad a0).bind λy3=>c_ (w64 (z0+y3.Rating))
def Ag2(x0:Aa)(x1:Ab)(x2:Int):Option Int:=
 (Kr x0 x1 x2).bind λy1=>andThen (foldI (Akn x0) y1.1.Ad 0 0) (λ_=>none) λz0=>some z0
def Wm(x0:A4)(x1:Int):Option Int:=
 (Ag3 x0.Aq x0.Ax x1).bind λy1=>(Ag2 x0.Aq x0.Ax x1).bind λy3=>some (max 0 (w64 (y1-y3)))
def Avb(n0:Nat)(a0:Int)(z0:(List An)):b_ ((List An)) Unit:=
 (getI z0 a0).bind λy8=>(appI 9 y8.Ao [cnt 0 n0]).bind λy10=>(setI z0 a0 ⟨y10,y8.Ad,y8.Ae⟩).bind λy12=>c_ y12
def Axu(x0:Aa)(z1:Int×(List An)):Bool:=decide (z1.1<(x0.Ad.length:Int))
def Ava(x0:Aa)(x1:Ab)(y4:eQ)(z1:Int×(List An)):b_ (Int×(List An)) Unit:=
 bif (Axu x0 z1)then (zV x0 x1 z1.1).bind λy15=>bif y15.2 then (getI y4 y15.1).bind λy18=>(getI z1.2 y18).bind λy20=>(appI 9 y20.Ad [z1.1]).bind λy22=>(setI z1.2 y18 ⟨y20.Ao,y22,y20.Ae⟩).bind λy24=>c_ (w64 (z1.1+1),y24) else c_ (w64 (z1.1+1),z1.2) else dZ (z1.1,z1.2)
def Axt(x0:Aa)(z2:Int×(List An)):Bool:=decide (z2.1<(x0.Ae.length:Int))
def Au9(x0:Aa)(x1:Ab)(y4:eQ)(z2:Int×(List An)):b_ (Int×(List An)) Unit:=
 bif (Axt x0 z2)then (zU x0 x1 z2.1).bind λy27=>bif y27.2 then (getI y4 y27.1).bind λy30=>(getI z2.2 y30).bind λy32=>(appI 9 y32.Ae [z2.1]).bind λy34=>(setI z2.2 y30 ⟨y32.Ao,y32.Ad,y34⟩).bind λy36=>c_ (w64 (z2.1+1),y36) else c_ (w64 (z2.1+1),z2.2) else dZ (z2.1,z2.2)
def Avc(x0:Aa)(x1:Ab):Option ((List An)):=
 (J_ x0 x1).bind λy1=>bif (y1 != 0)then some [] else (Aht x0 x1).bind λy4=>(mkI 73 x0.Ao ⟨[],[],[]⟩).bind λy6=>andThen (foldI Avb y4 0 y6) (λ_=>none) λz0=>andThen (whileN (Ava x0 x1 y4) 1152921504606846976 (0,z0)) (λ_=>none) λz1=>andThen (whileN (Au9 x0 x1 y4) 1152921504606846976 (0,z1.2)) (λ_=>none) λz2=>(Sd z2.2).bind λy38=>some y38
def Zk(y1:Int)(y3:Int)(y5:A8):Bool:=decide ((min y1 (w64 (y3-y5.Least)))>0)
def Ace(x0:A4)(x2:Int)(n0:Nat)(a0:Int)(z0:eQ×(List As)):b_ (eQ×(List As)) Unit:=
 (Wm ⟨x0.Aq,⟨x0.Ax.Ag,x0.Ax.Ad,z0.1,x0.Ax.Ai⟩,z0.2⟩ x2).bind λy1=>(getI z0.1 a0).bind λy3=>(getI x0.Aq.Ae a0).bind λy5=>bif (Zk y1 y3 y5)then (setI z0.1 a0 (w64 (y3-(min y1 (w64 (y3-y5.Least)))))).bind λy8=>(getI y8 a0).bind λy10=>(appI 25 z0.2 [⟨5,a0,y10⟩]).bind λy12=>c_ (y8,y12) else c_ (z0.1,z0.2)
def Wq(x0:A4)(x1:eQ)(x2:Int):Option A4:=
 andThen (foldI (Ace x0 x2) x1 0 (x0.Ax.Aj,x0.acts)) (λ_=>none) λz0=>some ⟨x0.Aq,⟨x0.Ax.Ag,x0.Ax.Ad,z0.1,x0.Ax.Ai⟩,z0.2⟩
def Ag5(x0:Al)(x1:Int):Bool:=
 ((x0.Kind==3)&&(x0.B==x1))
def Acf(x0:A4)(x1c0:Int)(n0:Nat)(a0:Al)(z0:eQ):b_ (eQ) Unit:=
 (getI x0.Ax.Ag (cnt 0 n0)).bind λy1=>bif (y1&&(Ag5 a0 x1c0))then (appI 9 z0 [cnt 0 n0]).bind λy4=>c_ y4 else c_ z0
def Auv(n1:Nat)(a1:Int)(z1:Qr):b_ (Qr) Unit:=
 (R_ ⟨⟨z1.1,z1.2.1,z1.2.2.1,z1.2.2.2.1,z1.2.2.2.2.1,z1.2.2.2.2.2.1⟩,⟨z1.2.2.2.2.2.2.1,z1.2.2.2.2.2.2.2.1,z1.2.2.2.2.2.2.2.2.1,z1.2.2.2.2.2.2.2.2.2.1⟩,z1.2.2.2.2.2.2.2.2.2.2⟩ a1).bind λy6=>c_ (y6.Aq.Ao,y6.Aq.Ah,y6.Aq.Ad,y6.Aq.Ae,y6.Aq.Phase,y6.Aq.Ar,y6.Ax.Ag,y6.Ax.Ad,y6.Ax.Aj,y6.Ax.Ai,y6.acts)
def uR(x0:A4)(x1c0:Int):Option (A4×Int):=
 andThen (foldI (Acf x0 x1c0) x0.Aq.Ah 0 []) (λ_=>none) λz0=>andThen (foldI Auv z0 0 (x0.Aq.Ao,x0.Aq.Ah,x0.Aq.Ad,x0.Aq.Ae,x0.Aq.Phase,x0.Aq.Ar,x0.Ax.Ag,x0.Ax.Ad,x0.Ax.Aj,x0.Ax.Ai,x0.acts)) (λ_=>none) λz1=>some (⟨⟨z1.1,z1.2.1,z1.2.2.1,z1.2.2.2.1,z1.2.2.2.2.1,z1.2.2.2.2.2.1⟩,⟨z1.2.2.2.2.2.2.1,z1.2.2.2.2.2.2.2.1,z1.2.2.2.2.2.2.2.2.1,z1.2.2.2.2.2.2.2.2.2.1⟩,z1.2.2.2.2.2.2.2.2.2.2⟩,x1c0)
def Acd(x2:Int)(n0:Nat)(a0:Int)(z0:Qr):b_ (Qr) Unit:=
 (getI z0.2.2.2.2.2.2.2.2.1 a0).bind λy1=>(Au [(decide (y1>0),true)] (Wm ⟨⟨z0.1,z0.2.1,z0.2.2.1,z0.2.2.2.1,z0.2.2.2.2.1,z0.2.2.2.2.2.1⟩,⟨z0.2.2.2.2.2.2.1,z0.2.2.2.2.2.2.2.1,z0.2.2.2.2.2.2.2.2.1,z0.2.2.2.2.2.2.2.2.2.1⟩,z0.2.2.2.2.2.2.2.2.2.2⟩ x2) default).bind λy3=>bif ((decide (y1>0))&&(decide (y3>0)))then (uR ⟨⟨z0.1,z0.2.1,z0.2.2.1,z0.2.2.2.1,z0.2.2.2.2.1,z0.2.2.2.2.2.1⟩,⟨z0.2.2.2.2.2.2.1,z0.2.2.2.2.2.2.2.1,z0.2.2.2.2.2.2.2.2.1,z0.2.2.2.2.2.2.2.2.2.1⟩,z0.2.2.2.2.2.2.2.2.2.2⟩ a0).bind λy6=>c_ (y6.1.Aq.Ao,y6.1.Aq.Ah,y6.1.Aq.Ad,y6.1.Aq.Ae,y6.1.Aq.Phase,y6.1.Aq.Ar,y6.1.Ax.Ag,y6.1.Ax.Ad,y6.1.Ax.Aj,y6.1.Ax.Ai,y6.1.acts) else c_ (z0.1,z0.2.1,z0.2.2.1,z0.2.2.2.1,z0.2.2.2.2.1,z0.2.2.2.2.2.1,z0.2.2.2.2.2.2.1,z0.2.2.2.2.2.2.2.1,z0.2.2.2.2.2.2.2.2.1,z0.2.2.2.2.2.2.2.2.2.1,z0.2.2.2.2.2.2.2.2.2.2)
def Wp(x0:A4)(x1:eQ)(x2:Int):Option A4:=
 andThen (foldI (Acd x2) x1 0 (x0.Aq.Ao,x0.Aq.Ah,x0.Aq.Ad,x0.Aq.Ae,x0.Aq.Phase,x0.Aq.Ar,x0.Ax.Ag,x0.Ax.Ad,x0.Ax.Aj,x0.Ax.Ai,x0.acts)) (λ_=>none) λz0=>some ⟨⟨z0.1,z0.2.1,z0.2.2.1,z0.2.2.2.1,z0.2.2.2.2.1,z0.2.2.2.2.2.1⟩,⟨z0.2.2.2.2.2.2.1,z0.2.2.2.2.2.2.2.1,z0.2.2.2.2.2.2.2.2.1,z0.2.2.2.2.2.2.2.2.2.1⟩,z0.2.2.2.2.2.2.2.2.2.2⟩
def Ack(y1:eQ)(n0:Nat)(a0:An)(z0:Qr):b_ (Qr) Unit:=
 (Qy y1).bind λy5=>(Wt y5 a0).bind λy7=>bif decide ((y7.2.Ad.length:Int)>0)then (getI y7.2.Ao 0).bind λy10=>(Wq ⟨⟨z0.1,z0.2.1,z0.2.2.1,z0.2.2.2.1,z0.2.2.2.2.1,z0.2.2.2.2.2.1⟩,⟨z0.2.2.2.2.2.2.1,z0.2.2.2.2.2.2.2.1,z0.2.2.2.2.2.2.2.2.1,z0.2.2.2.2.2.2.2.2.2.1⟩,z0.2.2.2.2.2.2.2.2.2.2⟩ y7.1 y10).bind λy12=>(getI y7.2.Ao 0).bind λy14=>(Wp y12 y7.1 y14).bind λy16=>c_ (y16.Aq.Ao,y16.Aq.Ah,y16.Aq.Ad,y16.Aq.Ae,y16.Aq.Phase,y16.Aq.Ar,y16.Ax.Ag,y16.Ax.Ad,y16.Ax.Aj,y16.Ax.Ai,y16.acts) else c_ (z0.1,z0.2.1,z0.2.2.1,z0.2.2.2.1,z0.2.2.2.2.1,z0.2.2.2.2.2.1,z0.2.2.2.2.2.2.1,z0.2.2.2.2.2.2.2.1,z0.2.2.2.2.2.2.2.2.1,z0.2.2.2.2.2.2.2.2.2.1,z0.2.2.2.2.2.2.2.2.2.2)
def Wz(x0:A4):Option A4:=
 (zP x0.Aq).bind λy1=>(Avc x0.Aq x0.Ax).bind λy3=>andThen (foldI (Ack y1) y3 0 (x0.Aq.Ao,x0.Aq.Ah,x0.Aq.Ad,x0.Aq.Ae,x0.Aq.Phase,x0.Aq.Ar,x0.Ax.Ag,x0.Ax.Ad,x0.Ax.Aj,x0.Ax.Ai,x0.acts)) (λ_=>none) λz0=>some ⟨⟨z0.1,z0.2.1,z0.2.2.1,z0.2.2.2.1,z0.2.2.2.2.1,z0.2.2.2.2.2.1⟩,⟨z0.2.2.2.2.2.2.1,z0.2.2.2.2.2.2.2.1,z0.2.2.2.2.2.2.2.2.1,z0.2.2.2.2.2.2.2.2.2.1⟩,z0.2.2.2.2.2.2.2.2.2.2⟩
def Ahj(x0:A4):Option A4:=
 (vB x0).bind λy1=>(Wz y1).bind λy3=>some y3
def Ahk(x0:Aa)(x1:Ab):Option (Ab×(List As)×Int):=
 (J_ x0 x1).bind λy1=>bif (y1 != 0)then some (⟨[],[],[],[]⟩,[],y1) else (Ny x1).bind λy4=>(Ahj ⟨x0,y4,[]⟩).bind λy6=>some (y6.Ax,y6.acts,0)
def Ao5(x0:Aa)(x1:Ab):Option (Ab×(List As)×Int):=
 (Ahk x0 x1).bind λy1=>some (y1.1,y1.2.1,y1.2.2)
def Acv(x1:As)(y1:Ab×Int):b_ Int Unit:=
 bif (x1.Kind==7)then c_ 1 else c_ y1.2
def Acw(y1:Ab×Int)(n1:Nat)(a1:As)(z1:Int×Int×(List Al)×(List B6)×(List A8)×Int×Int×eT×(List Ak)×eQ×(List a_)×(List Bb)×(List Bi)×eT×(List Bi)×(List Ab)×eQ):b_ (Int×Int×(List Al)×(List B6)×(List A8)×Int×Int×eT×(List Ak)×eQ×(List a_)×(List Bb)×(List Bi)×eT×(List Bi)×(List Ab)×eQ) Unit:=
 (W7 ⟨⟨z1.1,⟨z1.2.2.2.2.2.2.2.1,z1.2.2.2.2.2.2.2.2.1,z1.2.2.2.2.2.2.2.2.2.1,z1.2.2.2.2.2.2.2.2.2.2.1⟩,z1.2.2.2.2.2.2.2.2.2.2.2.1,z1.2.2.2.2.2.2.2.2.2.2.2.2.1⟩,⟨z1.2.1,z1.2.2.1,z1.2.2.2.1,z1.2.2.2.2.1,z1.2.2.2.2.2.1,z1.2.2.2.2.2.2.1⟩,z1.2.2.2.2.2.2.2.2.2.2.2.2.2.2.1,z1.2.2.2.2.2.2.2.2.2.2.2.2.2.2.2.1⟩ a1 0).bind λy11=>bif (a1.Kind==2)then (getI z1.2.2.2.2.2.2.2.2.2.2.2.2.2.1 a1.Unit).bind λy14=>(setI z1.2.2.2.2.2.2.2.2.2.2.2.2.2.1 a1.Unit false).bind λy16=>(Pt y11 ⟨y16,y1.1.Ad,z1.2.2.2.2.2.2.2.2.2.2.2.2.2.2.2.2,y1.1.Ai⟩).bind λy18=>c_ (y18.Bn.Time,y18.Aq.Ao,y18.Aq.Ah,y18.Aq.Ad,y18.Aq.Ae,y18.Aq.Phase,y18.Aq.Ar,y18.Bn.Power.Ag,y18.Bn.Power.Ad,y18.Bn.Power.Aj,y18.Bn.Power.Ai,y18.Bn.A0,y18.Bn.A6,y16,y18.events,y18.states,z1.2.2.2.2.2.2.2.2.2.2.2.2.2.2.2.2) else (getI z1.2.2.2.2.2.2.2.2.2.2.2.2.2.2.2.2 a1.Unit).bind λy20=>(setI z1.2.2.2.2.2.2.2.2.2.2.2.2.2.2.2.2 a1.Unit a1.Value).bind λy22=>(Pt y11 ⟨z1.2.2.2.2.2.2.2.2.2.2.2.2.2.1,y1.1.Ad,y22,y1.1.Ai⟩).bind λy24=>c_ (y24.Bn.Time,y24.Aq.Ao,y24.Aq.Ah,y24.Aq.Ad,y24.Aq.Ae,y24.Aq.Phase,y24.Aq.Ar,y24.Bn.Power.Ag,y24.Bn.Power.Ad,y24.Bn.Power.Aj,y24.Bn.Power.Ai,y24.Bn.A0,y24.Bn.A6,z1.2.2.2.2.2.2.2.2.2.2.2.2.2.1,y24.events,y24.states,y22)
def vO(x0:Cq)(x1:As):Option Cq:=
 (W8 x0.Aq x0.Bn.Power x0.Bn.Time x1).bind λy1=>andThen (Acv x1 y1) (λ_=>none) λz0=>(W7 x0 x1 z0).bind λy4=>bif (z0 != 0)then some y4 else (Pt y4 y1.1).bind λy7=>(Ao5 y7.Aq y1.1).bind λy9=>andThen (foldI (Acw y1) y9.2.1 0 (y7.Bn.Time,y7.Aq.Ao,y7.Aq.Ah,y7.Aq.Ad,y7.Aq.Ae,y7.Aq.Phase,y7.Aq.Ar,y7.Bn.Power.Ag,y7.Bn.Power.Ad,y7.Bn.Power.Aj,y7.Bn.Power.Ai,y7.Bn.A0,y7.Bn.A6,y1.1.Ag,y7.events,y7.states,y1.1.Aj)) (λ_=>none) λz1=>(F99 ⟨z1.2.2.2.2.2.2.2.2.2.2.2.2.2.1,y1.1.Ad,z1.2.2.2.2.2.2.2.2.2.2.2.2.2.2.2.2,y1.1.Ai⟩ y9.1).bind λy26=>bif !y26 then (Pt ⟨⟨z1.1,⟨z1.2.2.2.2.2.2.2.1,z1.2.2.2.2.2.2.2.2.1,z1.2.2.2.2.2.2.2.2.2.1,z1.2.2.2.2.2.2.2.2.2.2.1⟩,z1.2.2.2.2.2.2.2.2.2.2.2.1,z1.2.2.2.2.2.2.2.2.2.2.2.2.1⟩,⟨z1.2.1,z1.2.2.1,z1.2.2.2.1,z1.2.2.2.2.1,z1.2.2.2.2.2.1,z1.2.2.2.2.2.2.1⟩,z1.2.2.2.2.2.2.2.2.2.2.2.2.2.2.1,z1.2.2.2.2.2.2.2.2.2.2.2.2.2.2.2.1⟩ y9.1).bind λy29=>some ⟨⟨y29.Bn.Time,y9.1,y29.Bn.A0,y29.Bn.A6⟩,y29.Aq,y29.events,y29.states⟩ else some ⟨⟨z1.1,y9.1,z1.2.2.2.2.2.2.2.2.2.2.2.1,z1.2.2.2.2.2.2.2.2.2.2.2.2.1⟩,⟨z1.2.1,z1.2.2.1,z1.2.2.2.1,z1.2.2.2.2.1,z1.2.2.2.2.2.1,z1.2.2.2.2.2.2.1⟩,z1.2.2.2.2.2.2.2.2.2.2.2.2.2.2.1,z1.2.2.2.2.2.2.2.2.2.2.2.2.2.2.2.1⟩
def F54(x0:Aa)(x1:Am)(x2:As):Option (Am×(List Ab)×Int):=
 (J_ x0 x1.Power).bind λy1=>bif (y1 != 0)then some (⟨0,⟨[],[],[],[]⟩,[],[]⟩,[],y1) else (Ape x0 x1).bind λy4=>(vO y4 x2).bind λy6=>(appI 41 y6.Bn.A6 y6.events).bind λy8=>some (⟨y6.Bn.Time,y6.Bn.Power,y6.Bn.A0,y8⟩,y6.states,0)
def Ea(x0:Int)(x1:Int)(x2:Int):Bool:=
 ((decide (x0>=x1))&&(decide (x0<=x2)))
def Wo(x0:Int):Bool:=
 ((decide (x0>=0))&&(decide (x0<3600)))
def Ay2(x0:B7):Int:=
 F8 (w64 (x0.To-x0.From))
def Zu(x0:B7):Bool:=
 (((Wo x0.From)&&(Wo x0.To))&&(decide ((Ay2 x0)<1800)))
def Aor(x0:B7):Bool:=
 !(Zu x0)
def Acc(n0:Nat)(a0:B7)(z0:Unit):b_ Unit Int:=
 bif Aor a0 then dY (cnt 0 n0) else c_ ()
def Ahc(x0:List B7):Option Int:=
 andThen (foldI Acc x0 0 ()) some λz0=>some (-1)
def vA(x0:List B7):Option Bool:=
 (Ahc x0).bind λy1=>some (decide (y1>=0))
def Zx(x0:Aw):Option Bool:=
 (Au [(((((((Ea x0.Kind 1 3)&&(Ea x0.Station 0 1))&&(Ea x0.Max 0 5000))&&(Ea x0.Rate 0 5000))&&(Ea x0.Cost 1 100))&&(decide ((x0.Cy.length:Int)<=4))),true)] (vA x0.Cy) default).bind λy1=>some (((((((Ea x0.Kind 1 3)&&(Ea x0.Station 0 1))&&(Ea x0.Max 0 5000))&&(Ea x0.Rate 0 5000))&&(Ea x0.Cost 1 100))&&(decide ((x0.Cy.length:Int)<=4)))&&(!y1))
def Ay5(x0:Aw):Option Bool:=
 (Zx x0).bind λy1=>some (!y1)
def Acj(n0:Nat)(a0:Aw)(z0:Unit):b_ Unit Int:=
 (Ay5 a0).bind λy1=>bif y1 then dY (cnt 0 n0) else c_ ()
def Ahi(x0:List Aw):Option Int:=
 andThen (foldI Acj x0 0 ()) some λz0=>some (-1)
def vD(x0:List Aw):Option Bool:=
 (Ahi x0).bind λy1=>some (decide (y1>=0))
def Af2(x0:Bw):Bool:=(((decide ((min x0.Bow x0.Stern)<0)) || (decide ((max x0.Bow x0.Stern)>200))) || ((x0.Bow==0)&&(x0.Stern==0)))
def Z0(x0:Bw):Option Int:=
 bif decide ((x0.A1.length:Int)>8)then some 2 else bif (Af2 x0)then some 1 else (vD x0.A1).bind λy3=>bif y3 then some 14 else some 0
def Aia(x0:A8)(x1:Int):Bool:=
 (x0.Thruster==x1)
def Xl(x1c0:Int)(n0:Nat)(a0:A8)(z0:Unit):b_ Unit (Int×Int):=
 bif Aia a0 x1c0 then dY (cnt 0 n0,x1c0) else c_ ()
def vN(x0:List A8)(x1c0:Int):Option (Int×Int):=
 andThen (foldI (Xl x1c0) x0 0 ()) some λz0=>some ((-1),x1c0)
def Ahv(rec116:Aa->Ab->Int->Option Bool)(x0:Int)(x1:Aa)(x2:Ab):Option Bool:=
 (rec116 x1 x2 x0).bind λy1=>some (!y1)
def Wx(x1c0:Aa)(x1c1:Ab)(rec116:Aa->Ab->Int->Option Bool)(n0:Nat)(a0:Int)(z0:Unit):b_ Unit (Int×Aa×Ab):=
 (Ahv rec116 a0 x1c0 x1c1).bind λy1=>bif y1 then dY (cnt 0 n0,x1c0,x1c1) else c_ ()
def Ahg(rec116:Aa->Ab->Int->Option Bool)(x0:eQ)(x1c0:Aa)(x1c1:Ab):Option (Int×Aa×Ab):=
 andThen (foldI (Wx x1c0 x1c1 rec116) x0 0 ()) some λz0=>some ((-1),x1c0,x1c1)
def vC(rec116:Aa->Ab->Int->Option Bool)(x0:eQ)(x1c0:Aa)(x1c1:Ab):Option (Bool×Aa×Ab):=
 (Ahg rec116 x0 x1c0 x1c1).bind λy1=>some (decide (y1.1>=0),y1.2.1,y1.2.2)
def Ro(y1:Int×Bool)(y3:Bool)(y5:Bool)(y7:Int)(y9:A8):Bool:=((((!y1.2) || (!y3)) || y5) || (decide (y7<y9.Least)))
def vM(rec116:Aa->Ab->Int->Option Bool)(x0:Aa)(x1:Ab)(x2:Int):Option Bool:=
 (Ahx x0 x1 x2).bind λy1=>(Au [(!y1.2,false)] (Ahw x0 x1 y1.1) default).bind λy3=>(Au [(((!y1.2) || (!y3)),false)] (Nx x1 4 x2) default).bind λy5=>(Au [((((!y1.2) || (!y3)) || y5),false)] (getI x1.Aj x2) default).bind λy7=>(Au [((((!y1.2) || (!y3)) || y5),false)] (getI x0.Ae x2) default).bind λy9=>bif (Ro y1 y3 y5 y7 y9)then some false else (getI x0.Ae x2).bind λy12=>(vC rec116 y12.Needs x0 x1).bind λy14=>some (!y14.1)
def vL:Nat->Aa->Ab->Int->Option Bool
 |0=>λ_ _ _=>none
 |n+1=>vM (vL n)
def Apd(x0:Aa)(x1:Ab)(x2:Int):Option Bool:=vL 1000 x0 x1 x2
def Zt(x0:Ca):Bool:=
 ((decide ((max x0.X x0.Y)<=5000))&&(decide ((min x0.X x0.Y)>=(-5000))))
def Aha(x0:Int)(x1:Int):Option Int:=
 (nzI x1).bind λu2=>(nzI x1).bind λu4=>bif decide ((Int.tmod x0 x1)<0)then some (w64 ((w64 (Int.tdiv x0 x1))-1)) else some (w64 (Int.tdiv x0 x1))
def Ay1(x0:Int)(x1:Int):Option Int:=
 (Aha (w64 (0-x0)) x1).bind λy1=>some (w64 (0-y1))
def Zj(x0:Int)(x1:Int):Bool:=((((decide (x0<(-1000000000000000000))) || (decide (x0>1000000000000000000))) || (decide (x1<1))) || (decide (x1>1000000000)))
def Ahb(x0:Int)(x1:Int):Option (Int×Int):=
 bif (Zj x0 x1)then some (0,1) else (Ay1 x0 x1).bind λy2=>some (y2,0)
def Aoq(x0:Int)(x1:Int):Option (Int×Int):=
 (Ahb x0 x1).bind λy1=>some (y1.1,y1.2)
def Ao4(x0:Aw)(x1:Ca):Option (Int×Int):=
 (Zx x0).bind λy1=>bif ((!y1) || (!(Zt x1)))then some (0,1) else (Aoq (w64 ((w64 ((w64 (x1.X*x1.X))+(w64 (x1.Y*x1.Y))))*x0.Cost)) 1000).bind λy4=>some (y4.1,y4.2)
def Ast(x0:Int):Bool:=((decide (x0<0)) || (decide (x0>1000000000000000000)))
def Ass(x0:Int)(z0:Int×Int):Bool:=decide ((w64 ((w64 (Int.tdiv (w64 ((w64 (z0.1+z0.2))+1)) 2))*(w64 (Int.tdiv (w64 ((w64 (z0.1+z0.2))+1)) 2))))<=x0)
def Alg(x0:Int)(z0:Int×Int):b_ (Int×Int) Unit:=
 bif decide (z0.1<z0.2)then bif (Ass x0 z0)then c_ (w64 (Int.tdiv (w64 ((w64 (z0.1+z0.2))+1)) 2),z0.2) else c_ (z0.1,w64 ((w64 (Int.tdiv (w64 ((w64 (z0.1+z0.2))+1)) 2))-1)) else dZ (z0.1,z0.2)
def Ao3(x0:Int):Option (Int×Int):=
 bif (Ast x0)then some (0,1) else andThen (whileN (Alg x0) 1152921504606846976 (0,1000000000)) (λ_=>none) λz0=>some (z0.1,0)
def Aay(x0:Aw)(x1:Int):Option Int:=
 (Ao4 x0 ⟨x0.Max,0⟩).bind λy1=>bif ((y1.2 != 0) || (decide (x1<0)))then some 0 else bif decide (x1>=y1.1)then some x0.Max else (nzI x0.Cost).bind λu6=>(Ao3 (w64 (Int.tdiv (w64 (1000*x1)) x0.Cost))).bind λy7=>some y7.1
def At8(x1:Aa)(x2:Ab)(n0:Nat)(a0:Aw)(z0:eQ):b_ (eQ) Unit:=
 (vN x1.Ae (cnt 0 n0)).bind λy9=>(Au [(decide (y9.1>=0),true)] (Apd x1 x2 y9.1) default).bind λy11=>bif ((decide (y9.1>=0))&&y11)then (getI x2.Aj y9.1).bind λy14=>(Aay a0 y14).bind λy16=>(getI z0 y9.2).bind λy18=>(setI z0 y9.2 y16).bind λy20=>c_ y20 else c_ z0
def F55(x0:Bw)(x1:Aa)(x2:Ab):Option (eQ×Int):=
 (Z0 x0).bind λy1=>bif (y1 != 0)then some ([],y1) else (J_ x1 x2).bind λy4=>bif (y4 != 0)then some ([],y4) else (mkI 9 (x0.A1.length:Int) 0).bind λy7=>andThen (foldI (At8 x1 x2) x0.A1 0 y7) (λ_=>none) λz0=>some (z0,0)
def F56(x0:Am):Option Am:=
 (Aax x0.A0).bind λy1=>(Aaw x0.A6).bind λy3=>(Aav x0.Power.Ag).bind λy5=>(Aau x0.Power.Ad).bind λy7=>(Qy x0.Power.Aj).bind λy9=>(Ua x0.Power.Ai).bind λy11=>some ⟨x0.Time,⟨y5,y7,y9,y11⟩,y1,y3⟩
def Ant(z0:eQ)(a0:Int):Bool:=((decide (a0>=0))&&(decide (a0<(z0.length:Int))))
def At7(n0:Nat)(a0:Int)(z0:eQ):b_ (eQ) Unit:=
 bif (Ant z0 a0)then (getI z0 a0).bind λy4=>(setI z0 a0 0).bind λy6=>c_ y6 else c_ z0
def F57(x0:eQ)(x1:eQ):Option (eQ):=
 (Qy x0).bind λy1=>andThen (foldI At7 x1 0 y1) (λ_=>none) λz0=>some z0
def Avd(z0:Sg0)(a0:a_):b_ (eQ) Unit:=
 bif (a0.Kind==5)then (appI 9 z0.1 [a0.Number]).bind λy12=>c_ y12 else c_ z0.1
def Ave(x0:Ba)(x1:Am)(n0:Nat)(a0:a_)(z0:Sg0):b_ (Sg0) (Am×eQ×Int):=
 andThen (Avd z0 a0) (λ_=>none) λz1=>(Au [(decide (a0.Kind>4),false)] (F53 x1.Power.Ai a0) default).bind λy14=>bif ((decide (a0.Kind>4)) || y14)then c_ (z1,z0.2.1,z0.2.2.1,z0.2.2.2.1,z0.2.2.2.2.1,z0.2.2.2.2.2.1,z0.2.2.2.2.2.2.1,z0.2.2.2.2.2.2.2) else (F54 x0.Board ⟨z0.2.1,⟨z0.2.2.1,z0.2.2.2.1,z0.2.2.2.2.1,z0.2.2.2.2.2.1⟩,z0.2.2.2.2.2.2.1,z0.2.2.2.2.2.2.2⟩ ⟨8,a0.Number,a0.Kind⟩).bind λy17=>bif (y17.2.2 != 0)then dY (⟨0,⟨[],[],[],[]⟩,[],[]⟩,[],y17.2.2) else c_ (z1,y17.1.Time,y17.1.Power.Ag,y17.1.Power.Ad,y17.1.Power.Aj,y17.1.Power.Ai,y17.1.A0,y17.1.A6)
def F14(x0:Ba)(x1:Am)(x2:List a_)(x3:List a_):Option (Am×eQ×Int):=
 (F49 x0.Board x0.Table x1).bind λy1=>bif (y1 != 0)then some (⟨0,⟨[],[],[],[]⟩,[],[]⟩,[],y1) else (F50 x0.Design).bind λy4=>bif (y4 != 0)then some (⟨0,⟨[],[],[],[]⟩,[],[]⟩,[],y4) else (F52 [x2,x1.Power.Ai,x3]).bind λy7=>(F51 x0.Design y7).bind λy9=>andThen (foldI (Ave x0 x1) y9 0 ([],x1.Time,x1.Power.Ag,x1.Power.Ad,x1.Power.Aj,x1.Power.Ai,x1.A0,x1.A6)) some λz0=>(F55 x0.Ship x0.Board ⟨z0.2.2.1,z0.2.2.2.1,z0.2.2.2.2.1,z0.2.2.2.2.2.1⟩).bind λy20=>bif (y20.2 != 0)then some (⟨0,⟨[],[],[],[]⟩,[],[]⟩,[],y20.2) else (F56 ⟨z0.2.1,⟨z0.2.2.1,z0.2.2.2.1,z0.2.2.2.2.1,z0.2.2.2.2.2.1⟩,z0.2.2.2.2.2.2.1,z0.2.2.2.2.2.2.2⟩).bind λy23=>(F57 y20.1 z0.1).bind λy25=>some (y23,y25,0)
def Axw(y3:a_)(y5:a_):Bool:=((y3.Kind==y5.Kind)&&((y3.Number==y5.Number)&&true))
def Avl(x0:List a_)(z0:Int):b_ Int Unit:=
 bif decide (z0<(x0.length:Int))then (getI x0 z0).bind λy3=>(getI x0 (w64 (z0-1))).bind λy5=>bif (Axw y3 y5)then none else c_ (w64 (z0+1)) else dZ z0
def Ah5(x0:List a_):Option ((List a_)):=
 bif decide ((x0.length:Int)<2)then some x0 else andThen (whileN (Avl x0) 1152921504606846976 1) (λ_=>none) λz0=>some x0
def F68(x0:List a_)(x1:List a_):Option (List a_):=Apr Ah5 x0 x1
def F21(x0:A5)(x1:Am)(x2:List a_):Option ((List a_)):=
 (F68 x2 x1.Power.Ai).bind λy1=>(F51 x0 y1).bind λy3=>some y3
def A5n(x0:Int)(a0:Int):Bool:=((decide (a0<(w64 (0-x0)))) || (decide (a0>x0)))
def A2k(x0:Int)(n0:Nat)(a0:Int)(z0:Unit):b_ Unit Unit:=
 bif (A5n x0 a0)then none else c_ ()
def A7b(x0:Int)(x1:eQ):Option Bool:=
 andThen (foldI (A2k x0) x1 0 ()) (λ_=>none) λz0=>some true
def A7g(x0:Br):Option Bool:=
 (A7b 1000000 [x0.Surge,x0.Sway,x0.Yaw]).bind λy1=>some y1
def Zr(x0:Int):Int:=
 w64 (0-x0)
def Ag7(x0:Br):Br:=
 ⟨Zr x0.Surge,Zr x0.Sway,Zr x0.Yaw⟩
def Aui(x0:Int)(x1:Int)(x2:Int):Bool:=
 ((decide (x0<x1)) || (decide (x0>x2)))
def Au0(x1c0:Int)(x1c1:Int)(n0:Nat)(a0:Int)(z0:Unit):b_ Unit (Int×Int×Int):=
 bif Aui a0 x1c0 x1c1 then dY (cnt 0 n0,x1c0,x1c1) else c_ ()
def Au1(x0:eQ)(x1c0:Int)(x1c1:Int):Option (Int×Int×Int):=
 andThen (foldI (Au0 x1c0 x1c1) x0 0 ()) some λz0=>some ((-1),x1c0,x1c1)
def Au5(x0:eQ)(x1c0:Int)(x1c1:Int):Option (Bool×Int×Int):=
 (Au1 x0 x1c0 x1c1).bind λy1=>some (decide (y1.1>=0),y1.2.1,y1.2.2)
def Wl(x0:eQ)(x1:Int)(x2:Int):Option Bool:=
 (Au5 x0 x1 x2).bind λy1=>some (!y1.1)
def A66(x0:Int)(x1:Int):Option Int:=
 (Aha (w64 ((w64 (2*x0))+x1)) (w64 (2*x1))).bind λy1=>some y1
def Axq(x0:Int)(x1:Int):Bool:=((((decide (x0<(-1000000000000000000))) || (decide (x0>1000000000000000000))) || (decide (x1<1))) || (decide (x1>1000000000)))
def Auq(x0:Int)(x1:Int):Option (Int×Int):=
 bif (Axq x0 x1)then some (0,1) else (A66 x0 x1).bind λy2=>some (y2,0)
def Ayu(x0:Int)(x1:Int):Option (Int×Int):=
 (Auq x0 x1).bind λy1=>some (y1.1,y1.2)
def A7f(x0:Bw)(x1:Br):Option (Cp×Int):=
 (Z0 x0).bind λy1=>bif (y1 != 0)then none else (Wl [x1.Surge,x1.Sway] (-5000) 5000).bind λy4=>(Au [(!y4,false)] (Wl [x1.Yaw] (-500000) 500000) default).bind λy6=>bif ((!y4) || (!y6))then none else (Ayu (w64 (x1.Yaw+(w64 (x1.Sway*x0.Stern)))) (w64 (x0.Bow+x0.Stern))).bind λy9=>(Wl [y9.1,w64 (x1.Sway-y9.1)] (-500000) 500000).bind λy11=>bif !y11 then none else some (⟨x1.Surge,y9.1,w64 (x1.Sway-y9.1)⟩,0)
def A7l(x0:Bw)(x1:Br):Option (Cp×Int):=
 (A7g x1).bind λy1=>bif !y1 then none else (A7f x0 (Ag7 x1)).bind λy4=>some (y4.1,y4.2)
def Ayp(x0:List B7):Option (List B7):=appI 17 [] x0
def A65(x0:Aw)(x1:Int):Option Aw:=
 (Ayp x0.Cy).bind λy1=>some ⟨x0.Kind,x0.Station,min x0.Max (max x1 0),x0.Rate,x0.Cost,y1⟩
def Axo(x0:Bw)(x1:eQ)(x2:List Ca)(x3:eQ):Bool:=((((x1.length:Int) != (x0.A1.length:Int)) || ((decide ((x2.length:Int)>0))&&((x2.length:Int) != (x0.A1.length:Int)))) || ((x3.length:Int) != (x0.A1.length:Int)))
def Aum(x1:eQ)(n0:Nat)(a0:Aw)(z0:(List Aw)):b_ ((List Aw)) Unit:=
 (getI x1 (cnt 0 n0)).bind λy14=>(A65 a0 y14).bind λy16=>(appI 65 z0 [y16]).bind λy18=>c_ y18
def Aul(n1:Nat)(a1:Ca)(z1:Unit):b_ Unit (Ci×Int):=
 (Wl [a1.X,a1.Y] (-5000) 5000).bind λy20=>bif !y20 then dY (⟨[],[]⟩,1) else c_ ()
def Aun(x0:Bw)(x1:eQ)(x2:List Ca)(x3:eQ):Option (Ci×Int):=
 (Z0 x0).bind λy1=>bif (y1 != 0)then none else bif (Axo x0 x1 x2 x3)then none else (Wl x1 0 5000).bind λy5=>(Au [(!y5,false)] (Wl x3 (-5000) 5000) default).bind λy7=>bif ((!y5) || (!y7))then none else andThen (foldI (Aum x1) x0.A1 0 []) (λ_=>none) λz0=>andThen (foldI Aul x2 0 ()) some λz1=>some (⟨z0,x2⟩,0)
def A7e(x0:Bw)(x1:eQ)(x2:List Ca)(x3:Cp):Option (Ci×Int):=
 (mkI 9 (x0.A1.length:Int) 0).bind λy1=>(Aun x0 x1 x2 y1).bind λy3=>(Au [((y3.2==0),true)] (Wl [x3.Surge,x3.Bow,x3.Stern] (-500000) 500000) default).bind λy5=>bif ((y3.2==0)&&(!y5))then none else some (y3.1,y3.2)
def Agy(x0:Int)(x1:Int):Bool:=
 ((decide ((max x0 x1)<=1000000000))&&(decide ((min x0 x1)>=(-1000000000))))
def A2g(x0:Int):b_ (Int×Int) Unit:=
 bif decide ((F8 x0)>1800)then c_ (w64 ((F8 x0)-1800),(-1)) else c_ (F8 x0,1)
def An9(x0:Int):Option Int:=
 andThen (A2g x0) (λ_=>none) λz0=>(Ayu (w64 (40000*(w64 (z0.1*(w64 (1800-z0.1)))))) (w64 (4050000-(w64 (z0.1*(w64 (1800-z0.1))))))).bind λy2=>some (w64 (z0.2*y2.1))
def Ayn(x0:Int):Option Int:=
 (An9 (w64 ((F8 x0)+900))).bind λy1=>some y1
def Ayo(x0:Int)(x1:Int)(x2:Int):Option Int:=
 bif !(Agy x1 x2)then some 0 else (Ayn x0).bind λy2=>(An9 x0).bind λy4=>some (w64 ((w64 (y2*x2))-(w64 (y4*x1))))
def A5f(x0:B7)(x1:Int)(x2:Int):Bool:=(((!(Zu x0)) || ((x1==0)&&(x2==0))) || (!(Agy x1 x2)))
def A63(x0:B7)(x1:Int)(x2:Int):Option Bool:=
 bif (A5f x0 x1 x2)then some false else (Ayo x0.From x1 x2).bind λy2=>(Au [(decide (y2>0),false)] (Ayn x0.From) default).bind λy4=>(Au [(decide (y2>0),false)] (An9 x0.From) default).bind λy6=>(Au [(decide (y2>=0),true)] (Ayo x0.To x1 x2) default).bind λy8=>some (((decide (y2>=0))&&(decide (y8<=0)))&&((decide (y2>0)) || (decide ((w64 ((w64 (y4*x1))+(w64 (y6*x2))))>0))))
def Aub(x0:B7)(x1:Int)(x2:Int):Option Bool:=
 (A63 x0 x1 x2).bind λy1=>some y1
def Aut(x1c0:Int)(x1c1:Int)(n0:Nat)(a0:B7)(z0:Unit):b_ Unit (Int×Int×Int):=
 (Aub a0 x1c0 x1c1).bind λy1=>bif y1 then dY (cnt 0 n0,x1c0,x1c1) else c_ ()
def Auu(x0:List B7)(x1c0:Int)(x1c1:Int):Option (Int×Int×Int):=
 andThen (foldI (Aut x1c0 x1c1) x0 0 ()) some λz0=>some ((-1),x1c0,x1c1)
def Au2(x0:List B7)(x1c0:Int)(x1c1:Int):Option (Bool×Int×Int):=
 (Auu x0 x1c0 x1c1).bind λy1=>some (decide (y1.1>=0),y1.2.1,y1.2.2)
def A5l(x0:Aw)(x1:Int)(x2:Int):Bool:=(((((decide ((max x1 x2)>x0.Max)) || (decide ((min x1 x2)<(w64 (0-x0.Max))))) || (decide ((w64 ((w64 (x1*x1))+(w64 (x2*x2))))>(w64 (x0.Max*x0.Max))))) || ((x0.Kind==1)&&(x1 != 0))) || ((x0.Kind==2)&&(x2 != 0)))
def Ayq(x0:Aw)(x1:Int)(x2:Int):Option Bool:=
 bif (A5l x0 x1 x2)then some false else (Au2 x0.Cy x1 x2).bind λy2=>some (!y2.1)
def uM(x0:Int)(x1:Aw):Option Bool:=
 (Ayq x1 0 x0).bind λy1=>some y1
def Aug(x0c0:Aw)(z0:Int):b_ Int Unit:=
 (uM (w64 (z0-1)) x0c0).bind λy6=>bif y6 then c_ (w64 (z0-1)) else dZ z0
def Auf(x0c0:Aw)(z1:Int):b_ Int Unit:=
 (uM (w64 (z1+1)) x0c0).bind λy11=>bif y11 then c_ (w64 (z1+1)) else dZ z1
def Auh(x0c0:Aw):Option (Int×Int×Aw):=
 (uM 0 x0c0).bind λy1=>bif !y1 then none else andThen (whileN (Aug x0c0) 1152921504606846976 0) (λ_=>none) λz0=>andThen (whileN (Auf x0c0) 1152921504606846976 0) (λ_=>none) λz1=>some (z0,z1,x0c0)
def A69(x0:Aw):Option (Int×Int):=
 (Zx x0).bind λy1=>bif !y1 then none else (Auh x0).bind λy4=>some (y4.1,y4.2.1)
def Auk(x0:Ci)(x1:Int)(x2:Int)(x3:Int):Option B9:=
 (getI x0.thrusters x1).bind λy1=>bif decide ((x0.last.length:Int)>0)then none else some ⟨x2,x3,y1.Cost⟩
def A2o(x0:Ci)(x1:Int)(n0:Nat)(a0:Aw)(z0:(List B9)):b_ ((List B9)) Unit:=
 bif (a0.Station != x1)then (appI 25 z0 [⟨0,0,a0.Cost⟩]).bind λy2=>c_ y2 else (A69 a0).bind λy4=>(Auk x0 (cnt 0 n0) y4.1 y4.2).bind λy6=>(appI 25 z0 [y6]).bind λy8=>c_ y8
def Ayy(x0:Ci)(x1:Int):Option ((List B9)):=
 andThen (foldI (A2o x0 x1) x0.thrusters 0 []) (λ_=>none) λz0=>some z0
def A5m(a0:B9):Bool:=(((((decide (a0.Low<(-5000))) || (decide (a0.Low>a0.High))) || (decide (a0.High>5000))) || (decide (a0.Cost<1))) || (decide (a0.Cost>100)))
def A2h(n0:Nat)(a0:B9)(z0:Unit):b_ Unit Unit:=
 bif (A5m a0)then none else c_ ()
def A64(x0:List B9):Option Int:=
 bif decide ((x0.length:Int)>8)then none else andThen (foldI A2h x0 0 ()) (λ_=>none) λz0=>some 0
def A2j(n0:Nat)(a0:B9)(z0:Int×Int):b_ (Int×Int) Unit:=
 c_ (w64 (z0.1+a0.Low),w64 (z0.2+a0.High))
def A7a(x0:List B9):Option (Int×Int×Int):=
 (A64 x0).bind λy1=>bif (y1 != 0)then none else andThen (foldI A2j x0 0 (0,0)) (λ_=>none) λz0=>some (z0.1,z0.2,0)
def Pq(x0:Int)(x1:Int)(x2:Int):Int:=
 max x1 (min x0 x2)
def Axp(x0:Int)(x1:Int):Bool:=((((decide (x0<(-1000000000000000000))) || (decide (x0>1000000000000000000))) || (decide (x1<1))) || (decide (x1>1000000000)))
def Aup(x0:Int)(x1:Int):Option (Int×Int):=
 bif (Axp x0 x1)then some (0,1) else (Aha x0 x1).bind λy2=>some (y2,0)
def Ayt(x0:Int)(x1:Int):Option (Int×Int):=
 (Aup x0 x1).bind λy1=>some (y1.1,y1.2)
def A2i(x1:Int)(n0:Nat)(a0:B9)(z0:Int×eQ):b_ (Int×eQ) Unit:=
 (Ayt (w64 (x1+a0.Cost)) (w64 (2*a0.Cost))).bind λy1=>(appI 9 z0.2 [Pq y1.1 a0.Low a0.High]).bind λy3=>c_ (w64 (z0.1+(Pq y1.1 a0.Low a0.High)),y3)
def Ays(x0:List B9)(x1:Int):Option (eQ×Int):=
 andThen (foldI (A2i x1) x0 0 (0,[])) (λ_=>none) λz0=>some (z0.2,z0.1)
def Ayr(x0:B9)(x1:Int):Int:=
 w64 (x0.Cost*(w64 ((w64 (2*x1))+1)))
def A5r(x1:Int):Bool:=((decide (x1<(-500000))) || (decide (x1>500000)))
def A2q(x0:List B9)(x1:Int)(y1:Int×Int×Int)(z0:Int×Int):b_ (Int×Int) Unit:=
 bif decide (z0.2<z0.1)then (Ayt (w64 (z0.2+z0.1)) 2).bind λy6=>(Ays x0 y6.1).bind λy8=>bif decide (y8.2>=(Pq x1 y1.1 y1.2.1))then c_ (y6.1,z0.2) else c_ (z0.1,w64 (y6.1+1)) else dZ (z0.1,z0.2)
def A5q(x1:Int)(y1:Int×Int×Int)(z0:Int×Int)(z1:Int×eQ)(a1:B9)(y13:Int)(y15:Int):Bool:=(((decide (z1.1<(Pq x1 y1.1 y1.2.1)))&&(decide (y13<a1.High)))&&((Ayr a1 y15)==z0.2))
def A2p(x1:Int)(y1:Int×Int×Int)(z0:Int×Int)(n1:Nat)(a1:B9)(z1:Int×eQ):b_ (Int×eQ) Unit:=
 (Au [(decide (z1.1<(Pq x1 y1.1 y1.2.1)),true)] (getI z1.2 (cnt 0 n1)) default).bind λy13=>(Au [(((decide (z1.1<(Pq x1 y1.1 y1.2.1)))&&(decide (y13<a1.High))),true)] (getI z1.2 (cnt 0 n1)) default).bind λy15=>bif (A5q x1 y1 z0 z1 a1 y13 y15)then (getI z1.2 (cnt 0 n1)).bind λy18=>(setI z1.2 (cnt 0 n1) (w64 (y18+1))).bind λy20=>c_ (w64 (z1.1+1),y20) else c_ (z1.1,z1.2)
def Aoi(x0:List B9)(x1:Int):Option (eQ×Int×Int):=
 (A7a x0).bind λy1=>bif (y1.2.2 != 0)then none else bif (A5r x1)then none else andThen (whileN (A2q x0 x1 y1) 1152921504606846976 (1000200,(-1000200))) (λ_=>none) λz0=>(Ays x0 (w64 (z0.2-1))).bind λy11=>andThen (foldI (A2p x1 y1 z0) x0 0 (y11.2,y11.1)) (λ_=>none) λz1=>some (z1.2,w64 (x1-(Pq x1 y1.1 y1.2.1)),0)
def uL(x0:Int)(x1:Aw)(x2:Int):Option Bool:=
 (Ayq x1 x0 x2).bind λy1=>some y1
def Aud(x0c0:Aw)(x0c1:Int)(z0:Int):b_ Int Unit:=
 (uL (w64 (z0-1)) x0c0 x0c1).bind λy6=>bif y6 then c_ (w64 (z0-1)) else dZ z0
def Auc(x0c0:Aw)(x0c1:Int)(z1:Int):b_ Int Unit:=
 (uL (w64 (z1+1)) x0c0 x0c1).bind λy11=>bif y11 then c_ (w64 (z1+1)) else dZ z1
def Aue(x0c0:Aw)(x0c1:Int):Option (Int×Int×Aw×Int):=
 (uL 0 x0c0 x0c1).bind λy1=>bif !y1 then none else andThen (whileN (Aud x0c0 x0c1) 1152921504606846976 0) (λ_=>none) λz0=>andThen (whileN (Auc x0c0 x0c1) 1152921504606846976 0) (λ_=>none) λz1=>some (z0,z1,x0c0,x0c1)
def A68(x0:Aw)(x1:Int):Option (Int×Int):=
 (Zx x0).bind λy1=>bif !y1 then none else (Aue x0 x1).bind λy4=>some (y4.1,y4.2.1)
def Auj(x0:Ci)(x1:Int)(x2:Int)(x3:Int):Option B9:=
 (getI x0.thrusters x1).bind λy1=>bif decide ((x0.last.length:Int)>0)then none else some ⟨x2,x3,y1.Cost⟩
def A2n(x0:Ci)(x1:eQ)(n0:Nat)(a0:Aw)(z0:(List B9)):b_ ((List B9)) Unit:=
 (getI x1 (cnt 0 n0)).bind λy1=>(A68 a0 y1).bind λy3=>(Auj x0 (cnt 0 n0) y3.1 y3.2).bind λy5=>(appI 25 z0 [y5]).bind λy7=>c_ y7
def A7d(x0:Ci)(x1:eQ):Option ((List B9)):=
 andThen (foldI (A2n x0 x1) x0.thrusters 0 []) (λ_=>none) λz0=>some z0
def A5p(x0:Bw)(x1:List Ca):Bool:=((x1.length:Int) != (x0.A1.length:Int))
def A2m(x0:Bw)(n0:Nat)(a0:Ca)(z0:Int×Int):b_ (Int×Int) Unit:=
 bif !(Zt a0)then none else (getI x0.A1 (cnt 0 n0)).bind λy6=>bif (y6.Station==0)then c_ (w64 (z0.1+a0.X),w64 (z0.2+a0.Y)) else none
def A7c(x0:Bw)(x1:List Ca):Option (Cp×Int):=
 (Z0 x0).bind λy1=>bif (y1 != 0)then none else bif (A5p x0 x1)then none else andThen (foldI (A2m x0) x1 0 (0,0)) (λ_=>none) λz0=>some (⟨z0.1,z0.2,0⟩,0)
def Ayx(x0:Cp)(x1:Cp):Cp:=
 ⟨w64 (x0.Surge-x1.Surge),w64 (x0.Bow-x1.Bow),w64 (x0.Stern-x1.Stern)⟩
def A2w(y6:eQ×Int×Int)(n0:Nat)(a0:Int)(z0:eQ):b_ (eQ) Unit:=
 (getI z0 (cnt 0 n0)).bind λy12=>(getI y6.1 (cnt 0 n0)).bind λy14=>(setI z0 (cnt 0 n0) (w64 (y12+y14))).bind λy16=>c_ y16
def A2v(y20:eQ×Int×Int)(n1:Nat)(a1:Int)(z1:(List Ca)):b_ ((List Ca)) Unit:=
 (getI y20.1 (cnt 0 n1)).bind λy22=>(appI 17 z1 [⟨y22,a1⟩]).bind λy24=>c_ y24
def A7k(x0:Bw)(x1:eQ)(x2:List Ca)(x3:Cp):Option (J3×Int):=
 (A7e x0 x1 x2 x3).bind λy1=>bif (y1.2 != 0)then none else (Ayy y1.1 0).bind λy4=>(Aoi y4 x3.Bow).bind λy6=>(Ayy y1.1 1).bind λy8=>(Aoi y8 x3.Stern).bind λy10=>andThen (foldI (A2w y6) y10.1 0 y10.1) (λ_=>none) λz0=>(A7d y1.1 z0).bind λy18=>(Aoi y18 x3.Surge).bind λy20=>andThen (foldI (A2v y20) z0 0 []) (λ_=>none) λz1=>(A7c x0 z1).bind λy26=>some (⟨z1,y26.1,(Ayx x3 y26.1)⟩,0)
def A7o(x0:Bw)(x1:eQ)(x2:Br):Option (Cp×Int):=
 (A7l x0 x2).bind λy1=>bif (y1.2 != 0)then none else (A7k x0 x1 [] y1.1).bind λy4=>bif (y4.2 != 0)then none else some (y4.1.Missing,0)
def A7t(x0:Bw)(x1:eQ)(x2:Br):Option Bool:=
 (A7o x0 x1 x2).bind λy1=>some ((y1.2==0)&&((y1.1.Surge==0)&&((y1.1.Bow==0)&&((y1.1.Stern==0)&&true))))
def F69(x0:Ba)(x1:Am)(x2:List a_)(x3:List a_)(x4:Br):Option Bool:=
 (F14 x0 x1 x2 x3).bind λy1=>(Au [((y1.2.2==0),true)] (A7t x0.Ship y1.2.1 x4) default).bind λy3=>some ((y1.2.2==0)&&y3)
def F26(x0:Ba)(x1:Am)(x2:List a_)(x3:Br):Option (List Bj×Int):=Zm F14 F21 F53 F69 x0 x1 x2 x3
def A8i(a0:Bj)(y2:Bj):Bool:=!(((a0.Part.Kind==y2.Part.Kind)&&((a0.Part.Number==y2.Part.Number)&&true))&&((a0.Holds==y2.Holds)&&true))
def A67(x1:List Bj)(n0:Nat)(a0:Bj)(z0:Unit):b_ Unit Unit:=
 (getI x1 (cnt 0 n0)).bind λy2=>bif (A8i a0 y2)then none else c_ ()
def F37(x0:List Bj)(x1:List Bj):Option Bool:=
 bif ((x0.length:Int) != (x1.length:Int))then none else andThen (foldI (A67 x1) x0 0 ()) (λ_=>none) λz0=>some true
def F22(x0:Ba)(x1:Am)(x2:List a_)(x3:Br):Option Bool:=
 (F69 x0 x1 x2 [] x3).bind λy1=>some y1
def F71(x0:Ba)(x1:Am)(x2:List a_)(x3:Br):Option (a_×Bool):=Aes F21 F53 F69 x0 x1 x2 x3
def F25(x0:Ba)(x1:Am)(x2:List a_)(x3:Br):Option Bool:=
 (F22 x0 x1 x2 x3).bind λy1=>bif !y1 then none else (F71 x0 x1 x2 x3).bind λy4=>some (!y4.2)
def F9:Option Bool:=
 (F42).bind λy1=>(F26 y1.1 y1.2 [] ⟨(-150),0,0⟩).bind λy3=>(Au [((y3.2==0),true)] (getI y1.1.Design.Parts 0) default).bind λy5=>(Au [((y3.2==0),true)] (getI y1.1.Design.Parts 1) default).bind λy7=>(Au [((y3.2==0),true)] (getI y1.1.Design.Parts 2) default).bind λy9=>(Au [((y3.2==0),true)] (F37 y3.1 [⟨y5,true⟩,⟨y7,true⟩,⟨y9,false⟩]) default).bind λy11=>(Au [(((y3.2==0)&&y11),true)] (F22 y1.1 y1.2 [] ⟨(-150),0,0⟩) default).bind λy13=>(Au [((((y3.2==0)&&y11)&&y13),true)] (F25 y1.1 y1.2 [] ⟨(-150),0,0⟩) default).bind λy15=>(Au [(((((y3.2==0)&&y11)&&y13)&&(!y15)),true)] (F22 y1.1 y1.2 [] ⟨(-201),0,0⟩) default).bind λy17=>some (((((y3.2==0)&&y11)&&y13)&&(!y15))&&(!y17))
def F10(x0:eQ):Option Af:=
 (cutI x0 0 (min (x0.length:Int) 600)).bind λy2=>some ⟨y2,0⟩
def F94(x0:Int)(x1:Int):Option Int:=
 bif decide (x1<1)then some 0 else (nzI x1).bind λu3=>(nzI x1).bind λu5=>some (Int.tmod (w64 ((Int.tmod x0 x1)+x1)) x1)
def F44(x0:Af)(x1:Int):Option (Int×Af):=
 bif decide (x0.At>=(x0.L.length:Int))then some (0,x0) else (getI x0.L (w64 ((w64 (x0.At+1))-1))).bind λy2=>(F94 y2 x1).bind λy4=>some (y4,⟨x0.L,w64 (x0.At+1)⟩)
def F20(x0:Af)(x1:eQ):Option (Int×Af):=
 (F44 x0 (x1.length:Int)).bind λy1=>(getI x1 y1.1).bind λy3=>some (y3,y1.2)
def Aky(n0:Nat)(a0:Int)(z0:eQ×Int×eQ):b_ (eQ×Int×eQ) Unit:=
 (F20 ⟨z0.1,z0.2.1⟩ [0,100,(-300),700,(-1000),1000]).bind λy3=>(getI z0.2.2 (cnt 0 n0)).bind λy5=>(setI z0.2.2 (cnt 0 n0) y3.1).bind λy7=>c_ (y3.2.L,y3.2.At,y7)
def zX(x0:Af):Option (eQ×Af):=
 (mkI 9 12 0).bind λy1=>andThen (foldI Aky y1 0 (x0.L,x0.At,y1)) (λ_=>none) λz0=>some (z0.2.2,⟨z0.1,z0.2.1⟩)
def Aap(x0:Af):Option (Ij×Af):=
 (zX x0).bind λy1=>(zX y1.2).bind λy3=>(zX y3.2).bind λy5=>some (⟨y1.1,y3.1,y5.1⟩,y5.2)
def F82(x0:Af):Option (Mh×Af):=
 (Aap x0).bind λy1=>(Aap y1.2).bind λy3=>(Aap y3.2).bind λy5=>(F20 y5.2 [1000,1,30,5000,1000000]).bind λy7=>(F20 y7.2 [100000,1,500,1073741824]).bind λy9=>(F20 y9.2 [0,1,w64 (Int.tdiv y7.1 10),y7.1]).bind λy11=>(F20 y11.2 [0,1,w64 (Int.tdiv y9.1 10),y9.1]).bind λy13=>some (⟨y1.1,y3.1,y5.1,y7.1,y9.1,min y11.1 y7.1,min y13.1 y9.1⟩,y13.2)
def F67(x0:Af)(x1:Int)(x2:Int):Option (Int×Af):=
 (F44 x0 (w64 ((w64 (x2-x1))+1))).bind λy1=>some (w64 (x1+y1.1),y1.2)
def Aou(x0:Af):Option (B7×Af):=
 (F20 x0 [0,450,800,1350,1800,2600,3500]).bind λy1=>(F20 y1.2 [0,100,300,900,1799]).bind λy3=>some (⟨y1.1,Int.tmod (w64 (y1.1+y3.1)) 3600⟩,y3.2)
def Alm(z0:Int×eQ×Int×(List B7)):b_ (Int×eQ×Int×(List B7)) Unit:=
 bif decide (z0.1>0)then (Aou ⟨z0.2.1,z0.2.2.1⟩).bind λy14=>(appI 17 z0.2.2.2 [y14.1]).bind λy16=>c_ (w64 (z0.1-1),y14.2.L,y14.2.At,y16) else dZ (z0.1,z0.2.1,z0.2.2.1,z0.2.2.2)
def Apb(x0:Af):Option (Aw×Af):=
 (F67 x0 1 3).bind λy1=>(F44 y1.2 2).bind λy3=>(F20 y3.2 [0,1,7,20,40]).bind λy5=>(F20 y5.2 [0,1,5,50]).bind λy7=>(F20 y7.2 [1,2,3,100]).bind λy9=>(F44 y9.2 3).bind λy11=>andThen (whileN Alm 1152921504606846976 (y11.1,y11.2.L,y11.2.At,[])) (λ_=>none) λz0=>some (⟨y1.1,y3.1,y5.1,y7.1,y9.1,z0.2.2.2⟩,⟨z0.2.1,z0.2.2.1⟩)
def Atq(z0:Int×eQ×Int×(List Aw)):b_ (Int×eQ×Int×(List Aw)) Unit:=
 bif decide (z0.1>0)then (Apb ⟨z0.2.1,z0.2.2.1⟩).bind λy10=>(appI 65 z0.2.2.2 [y10.1]).bind λy12=>c_ (w64 (z0.1-1),y10.2.L,y10.2.At,y12) else dZ (z0.1,z0.2.1,z0.2.2.1,z0.2.2.2)
def F83(x0:Af)(x1:Int):Option (Bw×Af):=
 (F20 x0 [0,1,30,60]).bind λy1=>(F20 y1.2 [1,25,40]).bind λy3=>(F44 y3.2 (w64 (x1+1))).bind λy5=>andThen (whileN Atq 1152921504606846976 (y5.1,y5.2.L,y5.2.At,[])) (λ_=>none) λz0=>some (⟨y1.1,y3.1,z0.2.2.2⟩,⟨z0.2.1,z0.2.2.1⟩)
def Agq(y1:Int×Af)(z0:Sg4):b_ (Sg4) Unit:=
 bif decide (z0.1<y1.1)then (F44 ⟨z0.2.1,z0.2.2.1⟩ 6).bind λy8=>bif decide (y8.1<5)then (F44 y8.2 z0.1).bind λy11=>(appI 25 z0.2.2.2 [⟨1,y11.1,z0.1⟩]).bind λy13=>c_ (w64 (z0.1+1),y11.2.L,y11.2.At,y13) else c_ (w64 (z0.1+1),y8.2.L,y8.2.At,z0.2.2.2) else dZ (z0.1,z0.2.1,z0.2.2.1,z0.2.2.2)
def Atp(y1:Int×Af)(z0:Sg4)(y15:Int×Af):b_ ((List Al)) Unit:=
 bif ((decide (y1.1>2))&&(y15.1==1))then (appI 25 z0.2.2.2 [⟨1,0,w64 (y1.1-1)⟩]).bind λy18=>c_ y18 else c_ z0.2.2.2
def Agp(y1:Int×Af)(z2:Int×eQ×Int×(List Al)×(List B6)):b_ (Int×eQ×Int×(List Al)×(List B6)) Unit:=
 bif decide (z2.1>0)then (F44 ⟨z2.2.1,z2.2.2.1⟩ y1.1).bind λy23=>(appI 25 z2.2.2.2.1 [⟨2,y23.1,(z2.2.2.2.2.length:Int)⟩]).bind λy25=>(F20 y23.2 [10,50,100]).bind λy27=>(F20 y27.2 [0,5,y27.1]).bind λy29=>(F20 y29.2 [0,1,3]).bind λy31=>(appI 25 z2.2.2.2.2 [⟨y27.1,y29.1,y31.1⟩]).bind λy33=>c_ (w64 (z2.1-1),y31.2.L,y31.2.At,y25,y33) else dZ (z2.1,z2.2.1,z2.2.2.1,z2.2.2.2.1,z2.2.2.2.2)
def Ato(y1:Int×Af)(z3:Sg5)(y38:Int×Af)(y40:List Al)(y42:Int×Af):b_ ((List Al)) Unit:=
 bif ((decide (y1.1>1))&&(y42.1==3))then (nzI y1.1).bind λu46=>(appI 25 y40 [⟨3,Int.tmod (w64 (y38.1+1)) y1.1,(z3.2.2.2.2.length:Int)⟩]).bind λy47=>c_ y47 else c_ y40
def Azu(z3:Sg5)(y57:Int×Af):Bool:=((decide ((z3.2.2.2.2.length:Int)>0))&&(y57.1==3))
def Ago(y1:Int×Af)(z3:Sg5):b_ (Sg5) Unit:=
 bif decide (z3.1>0)then (F44 ⟨z3.2.1,z3.2.2.1⟩ y1.1).bind λy38=>(appI 25 z3.2.2.2.1 [⟨3,y38.1,(z3.2.2.2.2.length:Int)⟩]).bind λy40=>(Au [(decide (y1.1>1),true)] (F44 y38.2 4) (default,y38.2)).bind λy42=>andThen (Ato y1 z3 y38 y40 y42) (λ_=>none) λz4=>(F20 y42.2 [0,5,20,40]).bind λy49=>(F20 y49.2 [0,w64 (Int.tdiv y49.1 2),y49.1]).bind λy51=>(F44 y51.2 3).bind λy53=>(F67 y53.2 (-1) 2).bind λy55=>(Au [(decide ((z3.2.2.2.2.length:Int)>0),true)] (F44 y55.2 4) (default,y55.2)).bind λy57=>bif (Azu z3 y57)then (F44 y57.2 (z3.2.2.2.2.length:Int)).bind λy60=>(appI 57 z3.2.2.2.2 [⟨y49.1,y51.1,y53.1,y55.1,[y60.1]⟩]).bind λy62=>c_ (w64 (z3.1-1),y60.2.L,y60.2.At,z4,y62) else (appI 57 z3.2.2.2.2 [⟨y49.1,y51.1,y53.1,y55.1,[]⟩]).bind λy64=>c_ (w64 (z3.1-1),y57.2.L,y57.2.At,z4,y64) else dZ (z3.1,z3.2.1,z3.2.2.1,z3.2.2.2.1,z3.2.2.2.2)
def F84(x0:Af):Option (Aa×Af):=
 (F67 x0 1 4).bind λy1=>(F20 y1.2 [0,50,200,1800]).bind λy3=>(F20 y3.2 [0,10,50]).bind λy5=>andThen (whileN (Agq y1) 1152921504606846976 (1,y5.2.L,y5.2.At,[])) (λ_=>none) λz0=>(Au [(decide (y1.1>2),true)] (F44 ⟨z0.2.1,z0.2.2.1⟩ 2) (default,⟨z0.2.1,z0.2.2.1⟩)).bind λy15=>andThen (Atp y1 z0 y15) (λ_=>none) λz1=>(F44 y15.2 5).bind λy20=>andThen (whileN (Agp y1) 1152921504606846976 (y20.1,y20.2.L,y20.2.At,z1,[])) (λ_=>none) λz2=>(F44 ⟨z2.2.1,z2.2.2.1⟩ 6).bind λy35=>andThen (whileN (Ago y1) 1152921504606846976 (y35.1,y35.2.L,y35.2.At,z2.2.2.2.1,[])) (λ_=>none) λz3=>some (⟨y1.1,z3.2.2.2.1,z2.2.2.2.2,z3.2.2.2.2,y3.1,y5.1⟩,⟨z3.2.1,z3.2.2.1⟩)
def F85(x0:Af):Option (B0×Af):=
 (F20 x0 [60,80,100]).bind λy1=>(F20 y1.2 [1,30,50]).bind λy3=>(F20 y3.2 [0,1,3]).bind λy5=>some (⟨y1.1,y3.1,y5.1⟩,y5.2)
def Ay8(x0:Af):Option (D5×Af):=
 (F44 x0 4).bind λy1=>(F20 y1.2 [0,10,100]).bind λy3=>(F20 y3.2 [1,3,10]).bind λy5=>(F20 y5.2 [0,0,2,4]).bind λy7=>some (⟨y1.1,y3.1,y5.1,y7.1⟩,y7.2)
def Atn(z0:Int×eQ×Int×(List D5)):b_ (Int×eQ×Int×(List D5)) Unit:=
 bif decide (z0.1>0)then (Ay8 ⟨z0.2.1,z0.2.2.1⟩).bind λy4=>(appI 33 z0.2.2.2 [y4.1]).bind λy6=>c_ (w64 (z0.1-1),y4.2.L,y4.2.At,y6) else dZ (z0.1,z0.2.1,z0.2.2.1,z0.2.2.2)
def F86(x0:Af)(x1:Int):Option ((List D5)×Af):=
 (F44 x0 (w64 (x1+1))).bind λy1=>andThen (whileN Atn 1152921504606846976 (y1.1,y1.2.L,y1.2.At,[])) (λ_=>none) λz0=>some (z0.2.2.2,⟨z0.2.1,z0.2.2.1⟩)
def F87(x0:Af):Option (Nc×Af):=
 (F20 x0 [0,10,100,1000]).bind λy1=>(F20 y1.2 [0,1,5]).bind λy3=>(F20 y3.2 [0,50,500]).bind λy5=>(F20 y5.2 [0,100]).bind λy7=>(F20 y7.2 [0,3]).bind λy9=>(F20 y9.2 [0,70]).bind λy11=>(F20 y11.2 [0,500,10000]).bind λy13=>(F20 y13.2 [0,20,60]).bind λy15=>(F20 y15.2 [0,500,3000]).bind λy17=>some (⟨y1.1,y3.1,y5.1,y7.1,y9.1,y11.1,y13.1,y15.1,y17.1⟩,y17.2)
def F79(x0:Af)(x1:List ByteArray):Option (ByteArray×Af):=
 (F44 x0 (x1.length:Int)).bind λy1=>(getI x1 y1.1).bind λy3=>some (y3,y1.2)
def Apa(x0:Af):Option (Lr×Af):=
 (F20 x0 [0,300,500,2000]).bind λy1=>(F20 y1.2 [0,0,200]).bind λy3=>(F20 y3.2 [0,0,(-100)]).bind λy5=>(F20 y5.2 [0,500,3000]).bind λy7=>some (⟨⟨y3.1,y5.1⟩,y1.1,w64 (y1.1+y7.1)⟩,y7.2)
def F88(x0:Af):Option (Ix×Af):=
 (F79 x0 [(⟨#[100,114,105,108,108]⟩:ByteArray),(⟨#[100,105,118,101]⟩:ByteArray),(⟨#[97,45,49]⟩:ByteArray)]).bind λy1=>(F67 y1.2 1 3).bind λy3=>(Apa y3.2).bind λy5=>(F20 y5.2 [0,10,50,1000]).bind λy7=>some (⟨y1.1,y3.1,y5.1,y7.1⟩,y7.2)
def Atl(x1:Int)(x2:Int)(z0:Int×eQ×Int×eQ):b_ (Int×eQ×Int×eQ) Unit:=
 bif decide (z0.1<x1)then (F44 ⟨z0.2.1,z0.2.2.1⟩ x2).bind λy2=>bif (y2.1==(w64 (x2-1)))then (appI 9 z0.2.2.2 [z0.1]).bind λy5=>c_ (w64 (z0.1+1),y2.2.L,y2.2.At,y5) else c_ (w64 (z0.1+1),y2.2.L,y2.2.At,z0.2.2.2) else dZ (z0.1,z0.2.1,z0.2.2.1,z0.2.2.2)
def F91(x0:Af)(x1:Int)(x2:Int):Option (eQ×Af):=
 andThen (whileN (Atl x1 x2) 1152921504606846976 (0,x0.L,x0.At,[])) (λ_=>none) λz0=>some (z0.2.2.2,⟨z0.2.1,z0.2.2.1⟩)
def Azt(z0:Sg9)(y3:Int×Af):Bool:=((decide (z0.1<=y3.1)) || (z0.1==0))
def Atm(z0:Sg9):b_ (Sg9) Unit:=
 (F44 ⟨z0.2.1,z0.2.2.1⟩ 5).bind λy3=>bif (Azt z0 y3)then bif (z0.1==12)then dZ (z0.1,y3.2.L,y3.2.At,z0.2.2.2) else (Alz [IntKind.wrap .u8 (w64 (97+z0.1))]).bind λy17=>(nzI (Afm (⟨#[115]⟩:ByteArray) y17)).bind λu20=>(F20 y3.2 [1,2,3,7]).bind λy21=>(F67 y21.2 1 3).bind λy23=>(F91 y23.2 z0.1 2).bind λy25=>(appI 57 z0.2.2.2 [⟨((⟨#[115]⟩:ByteArray)++y17),y21.1,y23.1,y25.1⟩]).bind λy27=>c_ (w64 (z0.1+1),y25.2.L,y25.2.At,y27) else dZ (z0.1,y3.2.L,y3.2.At,z0.2.2.2)
def F89(x0:Af):Option (Lq×Af):=
 andThen (whileN Atm 1152921504606846976 (0,x0.L,x0.At,[])) (λ_=>none) λz0=>some (⟨z0.2.2.2⟩,⟨z0.2.1,z0.2.2.1⟩)
def F90(x0:Af):Option (Int×Af):=
 (F20 x0 [0,1,299,300,450,900,1800,2701,3599]).bind λy1=>some (y1.1,y1.2)
def Akd(a0:a_)(z1:eQ×Int×(List A_))(a1:a_)(y1:Int×Af):Bool:=(((!((a0.Kind==a1.Kind)&&((a0.Number==a1.Number)&&true)))&&(decide ((z1.2.2.length:Int)<20)))&&(y1.1==6))
def Agm(a0:a_)(n1:Nat)(a1:a_)(z1:eQ×Int×(List A_)):b_ (eQ×Int×(List A_)) Unit:=
 (Au [(((!((a0.Kind==a1.Kind)&&((a0.Number==a1.Number)&&true)))&&(decide ((z1.2.2.length:Int)<20))),true)] (F44 ⟨z1.1,z1.2.1⟩ 7) (default,⟨z1.1,z1.2.1⟩)).bind λy1=>bif (Akd a0 z1 a1 y1)then (appI 33 z1.2.2 [⟨a0,a1⟩]).bind λy4=>c_ (y1.2.L,y1.2.At,y4) else c_ (y1.2.L,y1.2.At,z1.2.2)
def Agn(x1:List a_)(n0:Nat)(a0:a_)(z0:eQ×Int×(List A_)):b_ (eQ×Int×(List A_)) Unit:=
 andThen (foldI (Agm a0) x1 0 (z0.1,z0.2.1,z0.2.2)) (λ_=>none) λz1=>c_ (z1.1,z1.2.1,z1.2.2)
def Adf(x0:Af)(x1:List a_):Option ((List A_)×Af):=
 andThen (foldI (Agn x1) x1 0 (x0.L,x0.At,[])) (λ_=>none) λz0=>some (z0.2.2,⟨z0.1,z0.2.1⟩)
def F29(x0:a_)(x1:a_):Bool:=
 ((decide (x0.Kind<x1.Kind)) || ((x0.Kind==x1.Kind)&&(decide (x0.Number<x1.Number))))
def zG(x0:List a_)(x1:a_)(z0:Int)(y3:a_):Bool:=((decide (z0<(x0.length:Int)))&&(F29 y3 x1))
def Agu(x0:List a_)(x1:a_)(z0:Int):b_ Int Unit:=
 (Au [(decide (z0<(x0.length:Int)),true)] (getI x0 z0) default).bind λy3=>bif (zG x0 x1 z0 y3)then c_ (w64 (z0+1)) else dZ z0
def zF(x0:List a_)(x1:a_)(z0:Int)(y6:a_):Bool:=((decide (z0<(x0.length:Int)))&&((y6.Kind==x1.Kind)&&((y6.Number==x1.Number)&&true)))
def Oj(x0:List a_)(x1:a_):Option ((List a_)):=
 andThen (whileN (Agu x0 x1) 1152921504606846976 0) (λ_=>none) λz0=>(Au [(decide (z0<(x0.length:Int)),true)] (getI x0 z0) default).bind λy6=>bif (zF x0 x1 z0 y6)then some x0 else (bndI x0.length 0 z0).bind λu10=>(bndI x0.length z0 (x0.length:Int)).bind λu12=>(appI 17 [x1] ((x0.drop (Int.toNat z0)).take ((Int.toNat (x0.length:Int))-(Int.toNat z0)))).bind λy13=>(appI 17 (x0.take ((Int.toNat z0)-0)) y13).bind λy15=>some y15
def Akc(x1:List a_)(z0:Sg7):Bool:=((decide (z0.1>0))&&(decide ((x1.length:Int)>0)))
def Agk(n1:Nat)(a1:a_)(z1:eQ×Int×(List a_)):b_ (eQ×Int×(List a_)) Unit:=
 (F44 ⟨z1.1,z1.2.1⟩ 4).bind λy10=>bif (y10.1==3)then (Oj z1.2.2 a1).bind λy13=>c_ (y10.2.L,y10.2.At,y13) else c_ (y10.2.L,y10.2.At,z1.2.2)
def Agl(x1:List a_)(z0:Sg7):b_ (Sg7) Unit:=
 bif (Akc x1 z0)then (getI [(⟨#[111,110,101]⟩:ByteArray),(⟨#[116,119,111]⟩:ByteArray),(⟨#[103,45,51]⟩:ByteArray),(⟨#[120]⟩:ByteArray)] z0.1).bind λy4=>(F44 ⟨z0.2.1,z0.2.2.1⟩ (x1.length:Int)).bind λy6=>(getI x1 y6.1).bind λy8=>andThen (foldI Agk x1 0 (y6.2.L,y6.2.At,[y8])) (λ_=>none) λz1=>(appI 41 z0.2.2.2 [⟨y4,z1.2.2⟩]).bind λy15=>c_ (w64 (z0.1-1),z1.1,z1.2.1,y15) else dZ (z0.1,z0.2.1,z0.2.2.1,z0.2.2.2)
def Ade(x0:Af)(x1:List a_):Option ((List Bu)×Af):=
 (F44 x0 4).bind λy1=>andThen (whileN (Agl x1) 1152921504606846976 (y1.1,y1.2.L,y1.2.At,[])) (λ_=>none) λz0=>some (z0.2.2.2,⟨z0.2.1,z0.2.2.1⟩)
def Az7(y5:Aa×Af)(z0:Sg6):Bool:=decide (z0.1<(y5.1.Ae.length:Int))
def Agx(y3:Bw×Af)(y5:Aa×Af)(z0:Sg6):b_ (Sg6) Unit:=
 bif (Az7 y5 z0)then (F67 ⟨z0.2.1,z0.2.2.1⟩ (-1) (w64 ((y3.1.A1.length:Int)-1))).bind λy26=>(getI z0.2.2.2 z0.1).bind λy28=>(setI z0.2.2.2 z0.1 ⟨y28.Load,y28.Least,y28.B1,y26.1,y28.Needs⟩).bind λy30=>c_ (w64 (z0.1+1),y26.2.L,y26.2.At,y30) else dZ (z0.1,z0.2.1,z0.2.2.1,z0.2.2.2)
def Aua(n1:Nat)(n2:Nat)(a2:Int)(z2:(List a_)):b_ ((List a_)) Unit:=
 (appI 17 z2 [⟨cnt 0 n1,a2⟩]).bind λy34=>c_ y34
def Agw(n1:Nat)(a1:Int)(z1:eQ×Int×(List a_)):b_ (eQ×Int×(List a_)) Unit:=
 (F91 ⟨z1.1,z1.2.1⟩ (min a1 3) 2).bind λy32=>andThen (foldI (Aua n1) y32.1 0 z1.2.2) (λ_=>none) λz2=>c_ (y32.2.L,y32.2.At,z2)
def F43(x0:Af):Option (Ba×Af):=
 (F82 x0).bind λy1=>(F83 y1.2 2).bind λy3=>(F84 y3.2).bind λy5=>(F85 y5.2).bind λy7=>(F86 y7.2 3).bind λy9=>(F87 y9.2).bind λy11=>(F20 y11.2 [0,1,3]).bind λy13=>(F88 y13.2).bind λy15=>(F89 y15.2).bind λy17=>(F67 y17.2 (-50) 50).bind λy19=>(F67 y19.2 (-50) 50).bind λy21=>(F90 y21.2).bind λy23=>andThen (whileN (Agx y3 y5) 1152921504606846976 (0,y23.2.L,y23.2.At,y5.1.Ae)) (λ_=>none) λz0=>andThen (foldI Agw [0,(y5.1.Ad.length:Int),(y5.1.Ah.length:Int),y5.1.Ao,(z0.2.2.2.length:Int),(y3.1.A1.length:Int),(y9.1.length:Int),0,0,2] 0 (z0.2.1,z0.2.2.1,[])) (λ_=>none) λz1=>(Adf ⟨z1.1,z1.2.1⟩ z1.2.2).bind λy36=>(Ade y36.2 z1.2.2).bind λy38=>some (⟨y1.1,y3.1,⟨y5.1.Ao,y5.1.Ah,y5.1.Ad,z0.2.2.2,y5.1.Phase,y5.1.Ar⟩,y7.1,⟨z1.2.2,y36.1,y38.1⟩,y9.1,y11.1,⟨⟨y19.1,y21.1⟩,y23.1⟩,y13.1,y15.1,y17.1⟩,y38.2)
def A8g(a0:a_)(z1:eQ×Int×(List A_))(a1:a_)(y1:Int×Af):Bool:=(((!((a0.Kind==a1.Kind)&&((a0.Number==a1.Number)&&true)))&&(decide ((z1.2.2.length:Int)<20)))&&(y1.1==6))
def A6y(a0:a_)(n1:Nat)(a1:a_)(z1:eQ×Int×(List A_)):b_ (eQ×Int×(List A_)) Unit:=
 (Au [(((!((a0.Kind==a1.Kind)&&((a0.Number==a1.Number)&&true)))&&(decide ((z1.2.2.length:Int)<20))),true)] (F44 ⟨z1.1,z1.2.1⟩ 7) (default,⟨z1.1,z1.2.1⟩)).bind λy1=>bif (A8g a0 z1 a1 y1)then (appI 33 z1.2.2 [⟨a0,a1⟩]).bind λy4=>c_ (y1.2.L,y1.2.At,y4) else c_ (y1.2.L,y1.2.At,z1.2.2)
def A6z(x1:List a_)(n0:Nat)(a0:a_)(z0:eQ×Int×(List A_)):b_ (eQ×Int×(List A_)) Unit:=
 andThen (foldI (A6y a0) x1 0 (z0.1,z0.2.1,z0.2.2)) (λ_=>none) λz1=>c_ (z1.1,z1.2.1,z1.2.2)
def F92(x0:Af)(x1:List a_):Option ((List A_)×Af):=
 andThen (foldI (A6z x1) x1 0 (x0.L,x0.At,[])) (λ_=>none) λz0=>some (z0.2.2,⟨z0.1,z0.2.1⟩)
def A8f(x1:List a_)(z0:Sg7):Bool:=((decide (z0.1>0))&&(decide ((x1.length:Int)>0)))
def A6w(n1:Nat)(a1:a_)(z1:eQ×Int×(List a_)):b_ (eQ×Int×(List a_)) Unit:=
 (F44 ⟨z1.1,z1.2.1⟩ 4).bind λy10=>bif (y10.1==3)then (Oj z1.2.2 a1).bind λy13=>c_ (y10.2.L,y10.2.At,y13) else c_ (y10.2.L,y10.2.At,z1.2.2)
def A6x(x1:List a_)(z0:Sg7):b_ (Sg7) Unit:=
 bif (A8f x1 z0)then (getI [(⟨#[111,110,101]⟩:ByteArray),(⟨#[116,119,111]⟩:ByteArray),(⟨#[103,45,51]⟩:ByteArray),(⟨#[120]⟩:ByteArray)] z0.1).bind λy4=>(F44 ⟨z0.2.1,z0.2.2.1⟩ (x1.length:Int)).bind λy6=>(getI x1 y6.1).bind λy8=>andThen (foldI A6w x1 0 (y6.2.L,y6.2.At,[y8])) (λ_=>none) λz1=>(appI 41 z0.2.2.2 [⟨y4,z1.2.2⟩]).bind λy15=>c_ (w64 (z0.1-1),z1.1,z1.2.1,y15) else dZ (z0.1,z0.2.1,z0.2.2.1,z0.2.2.2)
def F93(x0:Af)(x1:List a_):Option ((List Bu)×Af):=
 (F44 x0 4).bind λy1=>andThen (whileN (A6x x1) 1152921504606846976 (y1.1,y1.2.L,y1.2.At,[])) (λ_=>none) λz0=>some (z0.2.2.2,⟨z0.2.1,z0.2.2.1⟩)
def At9(z0:Int×eQ×Int×(List Al)×(List Aw)×(List A8)):b_ (Int×eQ×Int×(List Al)×(List Aw)×(List A8)) Unit:=
 bif decide (z0.1<4)then (appI 25 z0.2.2.2.1 [⟨3,Int.tmod z0.1 2,z0.1⟩]).bind λy16=>(F20 ⟨z0.2.1,z0.2.2.1⟩ [0,5,20]).bind λy18=>(F44 y18.2 3).bind λy20=>(appI 57 z0.2.2.2.2.2 [⟨20,y18.1,y20.1,z0.1,[]⟩]).bind λy22=>(F20 y20.2 [50,50,5]).bind λy24=>(F20 y24.2 [1,2]).bind λy26=>(appI 65 z0.2.2.2.2.1 [⟨3,w64 (Int.tdiv z0.1 2),40,y24.1,y26.1,[]⟩]).bind λy28=>c_ (w64 (z0.1+1),y26.2.L,y26.2.At,y16,y28,y22) else dZ (z0.1,z0.2.1,z0.2.2.1,z0.2.2.2.1,z0.2.2.2.2.1,z0.2.2.2.2.2)
def F45(x0:Af):Option (Ba×Af):=
 (F43 x0).bind λy1=>(appI 25 [⟨1,0,1⟩] [⟨2,0,0⟩]).bind λy3=>(F44 y1.2 3).bind λy5=>(appI 25 [] [⟨100,0,y5.1⟩]).bind λy7=>(appI 25 y3 [⟨2,1,1⟩]).bind λy9=>(F44 y5.2 3).bind λy11=>(appI 25 y7 [⟨100,0,y11.1⟩]).bind λy13=>andThen (whileN At9 7 (0,y11.2.L,y11.2.At,y9,[],[])) (λ_=>none) λz0=>(F92 ⟨z0.2.1,z0.2.2.1⟩ [⟨1,0⟩,⟨1,1⟩,⟨5,0⟩,⟨5,1⟩,⟨6,0⟩,⟨9,0⟩]).bind λy30=>(F93 y30.2 [⟨1,0⟩,⟨1,1⟩,⟨5,0⟩,⟨5,1⟩,⟨6,0⟩,⟨9,0⟩]).bind λy32=>some (⟨y1.1.Hull,⟨30,30,z0.2.2.2.2.1⟩,⟨2,z0.2.2.2.1,y13,z0.2.2.2.2.2,1800,50⟩,y1.1.Table,⟨[⟨1,0⟩,⟨1,1⟩,⟨5,0⟩,⟨5,1⟩,⟨6,0⟩,⟨9,0⟩],y30.1,y32.1⟩,[⟨0,100,3,0⟩,⟨1,100,3,0⟩,⟨2,100,3,0⟩],⟨10,0,5,0,0,0,0,20,100⟩,y1.1.Target,y1.1.Delay,⟨y1.1.Operation.Name,y1.1.Operation.Class,⟨y1.1.Target.Place,1000,3000⟩,y1.1.Operation.Drift⟩,y1.1.Sequence⟩,y32.2)
def Afz(x1:Aa)(z0:Int×eQ×Int×eT):Bool:=decide (z0.1<(x1.Ah.length:Int))
def Xi(x1:Aa)(z0:Int×eQ×Int×eT):b_ (Int×eQ×Int×eT) Unit:=
 bif (Afz x1 z0)then (F44 ⟨z0.2.1,z0.2.2.1⟩ 2).bind λy2=>(appI 2 z0.2.2.2 [(y2.1==1)]).bind λy4=>c_ (w64 (z0.1+1),y2.2.L,y2.2.At,y4) else dZ (z0.1,z0.2.1,z0.2.2.1,z0.2.2.2)
def Afy(x1:Aa)(z1:Int×eT):Bool:=decide (z1.1<(x1.Ae.length:Int))
def Ab1(z1:Int×eT)(a2:Al)(y7:Bool):Bool:=(((a2.Kind==3)&&(a2.B==z1.1))&&y7)
def Xg(z1:Int×eT)(n2:Nat)(a2:Al)(z2:Bool×eT):b_ (Bool×eT) Unit:=
 (Au [(((a2.Kind==3)&&(a2.B==z1.1)),true)] (getI z2.2 (cnt 0 n2)) default).bind λy7=>bif (Ab1 z1 a2 y7)then (getI z2.2 (cnt 0 n2)).bind λy10=>(setI z2.2 (cnt 0 n2) z2.1).bind λy12=>c_ (false,y12) else c_ (z2.1,z2.2)
def Xh(x1:Aa)(z1:Int×eT):b_ (Int×eT) Unit:=
 bif (Afy x1 z1)then andThen (foldI (Xg z1) x1.Ah 0 (true,z1.2)) (λ_=>none) λz2=>c_ (w64 (z1.1+1),z2.2) else dZ (z1.1,z1.2)
def Ab0(x1:Aa)(z3:Sg8):Bool:=decide (z3.1<(x1.Ad.length:Int))
def Xf(x1:Aa)(z3:Sg8):b_ (Sg8) Unit:=
 bif (Ab0 x1 z3)then (F20 ⟨z3.2.1,z3.2.2.1⟩ [0,1,2,2,2,3]).bind λy15=>(F44 y15.2 5).bind λy17=>(F20 y17.2 [5000,5000,5005,4950]).bind λy19=>(F20 y19.2 [0,0,40,1800,3590]).bind λy21=>(appI 33 z3.2.2.2 [⟨y15.1,y17.1,y19.1,y21.1⟩]).bind λy23=>c_ (w64 (z3.1+1),y21.2.L,y21.2.At,y23) else dZ (z3.1,z3.2.1,z3.2.2.1,z3.2.2.2)
def Xe(n4:Nat)(a4:A8)(z4:eQ×Int×eQ):b_ (eQ×Int×eQ) Unit:=
 (F20 ⟨z4.1,z4.2.1⟩ [a4.Load,a4.Load,a4.Least,w64 (Int.tdiv a4.Load 3)]).bind λy25=>(appI 9 z4.2.2 [y25.1]).bind λy27=>c_ (y25.2.L,y25.2.At,y27)
def Xd(x1:Aa)(z5:Int×eQ×Int×(List a_)):b_ (Int×eQ×Int×(List a_)) Unit:=
 bif decide (z5.1<=4)then (F44 ⟨z5.2.1,z5.2.2.1⟩ 5).bind λy30=>bif (y30.1==4)then (F44 y30.2 4).bind λy33=>bif Qx x1 ⟨z5.1,y33.1⟩ then (appI 17 z5.2.2.2 [⟨z5.1,y33.1⟩]).bind λy36=>c_ (w64 (z5.1+1),y33.2.L,y33.2.At,y36) else c_ (w64 (z5.1+1),y33.2.L,y33.2.At,z5.2.2.2) else c_ (w64 (z5.1+1),y30.2.L,y30.2.At,z5.2.2.2) else dZ (z5.1,z5.2.1,z5.2.2.1,z5.2.2.2)
def Xj(x0:Af)(x1:Aa):Option (Ab×Af):=
 andThen (whileN (Xi x1) 1152921504606846976 (0,x0.L,x0.At,[])) (λ_=>none) λz0=>andThen (whileN (Xh x1) 1152921504606846976 (0,z0.2.2.2)) (λ_=>none) λz1=>andThen (whileN (Xf x1) 1152921504606846976 (0,z0.2.1,z0.2.2.1,[])) (λ_=>none) λz3=>andThen (foldI Xe x1.Ae 0 (z3.2.1,z3.2.2.1,[])) (λ_=>none) λz4=>andThen (whileN (Xd x1) 7 (1,z4.1,z4.2.1,[])) (λ_=>none) λz5=>some (⟨z1.2,z3.2.2.2,z4.2.2,z5.2.2.2⟩,⟨z5.2.1,z5.2.2.1⟩)
def Add(x0:Af)(x1:Aa):Option (Ab×Af):=
 (Xj x0 x1).bind λy1=>(Zz x1 y1.1).bind λy3=>some (y3.1,y1.2)
def Agv(x1:Aa)(z0:Int×eQ×Int×(List Bb)):b_ (Int×eQ×Int×(List Bb)) Unit:=
 bif decide (z0.1<x1.Ao)then (F67 ⟨z0.2.1,z0.2.2.1⟩ (-1) 4).bind λy6=>(F67 y6.2 (-1) 4).bind λy8=>(appI 17 z0.2.2.2 [⟨y6.1,y8.1⟩]).bind λy10=>c_ (w64 (z0.1+1),y8.2.L,y8.2.At,y10) else dZ (z0.1,z0.2.1,z0.2.2.1,z0.2.2.2)
def uJ(x0:Af)(x1:Aa):Option (Am×Af):=
 (F67 x0 5 20).bind λy1=>(Add y1.2 x1).bind λy3=>andThen (whileN (Agv x1) 1152921504606846976 (0,y3.2.L,y3.2.At,[])) (λ_=>none) λz0=>some (⟨y1.1,y3.1,z0.2.2.2,[]⟩,⟨z0.2.1,z0.2.2.1⟩)
def F11(x0:Af):Option (Ba×Am×Af):=
 (F43 x0).bind λy1=>(F44 y1.2 2).bind λy3=>bif (y3.1==1)then (F45 y3.2).bind λy6=>(uJ y6.2 y6.1.Board).bind λy8=>some (y6.1,y8.1,y8.2) else (uJ y3.2 y1.1.Board).bind λy10=>some (y1.1,y10.1,y10.2)
def F48(x0:Af):Option (a_×Af):=
 (F67 x0 1 9).bind λy1=>(F44 y1.2 4).bind λy3=>some (⟨y1.1,y3.1⟩,y3.2)
def Avk(z0:Int×eQ×Int×(List a_)):b_ (Int×eQ×Int×(List a_)) Unit:=
 bif decide (z0.1>0)then (F48 ⟨z0.2.1,z0.2.2.1⟩).bind λy4=>(appI 17 z0.2.2.2 [y4.1]).bind λy6=>c_ (w64 (z0.1-1),y4.2.L,y4.2.At,y6) else dZ (z0.1,z0.2.1,z0.2.2.1,z0.2.2.2)
def F13(x0:Af)(x1:Int):Option ((List a_)×Af):=
 (F44 x0 (w64 (x1+1))).bind λy1=>andThen (whileN Avk 1152921504606846976 (y1.1,y1.2.L,y1.2.At,[])) (λ_=>none) λz0=>some (z0.2.2.2,⟨z0.2.1,z0.2.2.1⟩)
def Avm(n0:Nat)(a0:a_)(z0:(List a_)):b_ ((List a_)) Unit:=
 bif decide (a0.Kind>4)then (Oj z0 a0).bind λy4=>c_ y4 else c_ z0
def F12(x0:Af):Option ((List a_)×Af):=
 (F13 x0 3).bind λy1=>andThen (foldI Avm y1.1 0 []) (λ_=>none) λz0=>some (z0,y1.2)
def Zw(x0:a_):Bool:=
 ((((decide (x0.Kind>=1))&&(decide (x0.Kind<=9)))&&(decide (x0.Number>=0)))&&(decide (x0.Number<=63)))
def As6(n0:Nat)(a0:a_)(y1:a_):Bool:=((!(Zw a0)) || ((decide ((cnt 0 n0)>0))&&(!(F29 y1 a0))))
def Als(x0:List a_)(n0:Nat)(a0:a_)(z0:Unit):b_ Unit Bool:=
 (Au [(!(Zw a0),false),(decide ((cnt 0 n0)>0),true)] (getI x0 (w64 ((cnt 0 n0)-1))) default).bind λy1=>bif (As6 n0 a0 y1)then dY false else c_ ()
def Ah9(x0:List a_):Option Bool:=
 andThen (foldI (Als x0) x0 0 ()) some λz0=>some true
def Az8(x1:a_)(a0:a_):Bool:=((a0.Kind==x1.Kind)&&((a0.Number==x1.Number)&&true))
def Ahp(x1:a_)(n0:Nat)(a0:a_)(z0:Unit):b_ Unit Bool:=
 bif (Az8 x1 a0)then dY true else c_ ()
def F23(x0:List a_)(x1:a_):Option Bool:=
 andThen (foldI (Ahp x1) x0 0 ()) some λz0=>some false
def A6i(x0:ByteArray)(y1:UInt8)(y3:UInt8):Bool:=(((((x0.size:Int)==0) || (decide ((x0.size:Int)>12))) || (decide ((y1.toNat:Int)<97))) || (decide ((y3.toNat:Int)>122)))
def A6h(y7:UInt8)(y9:UInt8)(y11:UInt8)(y13:UInt8)(y15:UInt8):Bool:=!((((decide ((y7.toNat:Int)>=97))&&(decide ((y9.toNat:Int)<=122))) || ((decide ((y11.toNat:Int)>=48))&&(decide ((y13.toNat:Int)<=57)))) || ((y15.toNat:Int)==45))
def A27(x0:ByteArray)(z0:Int):b_ Int Bool:=
 bif decide (z0<(x0.size:Int))then (Od x0 z0).bind λy7=>(Au [(decide ((y7.toNat:Int)>=97),true)] (Od x0 z0) default).bind λy9=>(Au [(((decide ((y7.toNat:Int)>=97))&&(decide ((y9.toNat:Int)<=122))),false)] (Od x0 z0) default).bind λy11=>(Au [(((decide ((y7.toNat:Int)>=97))&&(decide ((y9.toNat:Int)<=122))),false),(decide ((y11.toNat:Int)>=48),true)] (Od x0 z0) default).bind λy13=>(Au [((((decide ((y7.toNat:Int)>=97))&&(decide ((y9.toNat:Int)<=122))) || ((decide ((y11.toNat:Int)>=48))&&(decide ((y13.toNat:Int)<=57)))),false)] (Od x0 z0) default).bind λy15=>bif (A6h y7 y9 y11 y13 y15)then dY false else c_ (w64 (z0+1)) else dZ z0
def Aza(x0:ByteArray):Option Bool:=
 (Au [((((x0.size:Int)==0) || (decide ((x0.size:Int)>12))),false)] (Od x0 0) default).bind λy1=>(Au [(((((x0.size:Int)==0) || (decide ((x0.size:Int)>12))) || (decide ((y1.toNat:Int)<97))),false)] (Od x0 0) default).bind λy3=>bif (A6i x0 y1 y3)then some false else andThen (whileN (A27 x0) 1152921504606846976 0) some λz0=>some true
def Ans(x0:A5):Bool:=(((decide ((x0.Parts.length:Int)>40)) || (decide ((x0.Links.length:Int)>60))) || (decide ((x0.Groups.length:Int)>6)))
def Az3(a0:A_)(y5:Bool)(y7:Bool):Bool:=(((!y5) || (!y7)) || ((a0.From.Kind==a0.To.Kind)&&((a0.From.Number==a0.To.Number)&&true)))
def Az2(n0:Nat)(a0:A_)(y10:A_)(y12:A_)(y14:A_):Bool:=((decide ((cnt 0 n0)>0))&&(!((F29 y10.From a0.From) || (((y12.From.Kind==a0.From.Kind)&&((y12.From.Number==a0.From.Number)&&true))&&(F29 y14.To a0.To)))))
def At5(x0:A5)(n0:Nat)(a0:A_)(z0:Unit):b_ Unit Int:=
 (F23 x0.Parts a0.From).bind λy5=>(Au [(!y5,false)] (F23 x0.Parts a0.To) default).bind λy7=>bif (Az3 a0 y5 y7)then dY 63 else (Au [(decide ((cnt 0 n0)>0),true)] (getI x0.Links (w64 ((cnt 0 n0)-1))) default).bind λy10=>(Au [(decide ((cnt 0 n0)>0),true),(F29 y10.From a0.From,false)] (getI x0.Links (w64 ((cnt 0 n0)-1))) default).bind λy12=>(Au [(decide ((cnt 0 n0)>0),true),(F29 y10.From a0.From,false),(((y12.From.Kind==a0.From.Kind)&&((y12.From.Number==a0.From.Number)&&true)),true)] (getI x0.Links (w64 ((cnt 0 n0)-1))) default).bind λy14=>bif (Az2 n0 a0 y10 y12 y14)then dY 63 else c_ ()
def Az1(a1:Bu)(y17:Bool)(y19:Bool):Bool:=(((!y17) || ((a1.Parts.length:Int)==0)) || (!y19))
def At3(x0:A5)(n2:Nat)(a2:a_)(z2:Unit):b_ Unit Int:=
 (F23 x0.Parts a2).bind λy22=>bif !y22 then dY 63 else c_ ()
def At2(x0:A5)(n1:Nat)(a1:Bu)(z3:Int):b_ Int Int:=
 bif decide (z3<(cnt 0 n1))then (getI x0.Groups z3).bind λy26=>bif (y26.Name.toList==a1.Name.toList)then dY 63 else c_ (w64 (z3+1)) else dZ z3
def At4(x0:A5)(n1:Nat)(a1:Bu)(z1:Unit):b_ Unit Int:=
 (Aza a1.Name).bind λy17=>(Au [(((!y17) || ((a1.Parts.length:Int)==0)),false)] (Ah9 a1.Parts) default).bind λy19=>bif (Az1 a1 y17 y19)then dY 63 else andThen (foldI (At3 x0) a1.Parts 0 ()) (λv=>dY v) λz2=>andThen (whileN (At2 x0 n1 a1) 1152921504606846976 0) (λv=>dY v) λz3=>c_ ()
def F59(x0:A5):Option Int:=
 bif (Ans x0)then some 2 else (Ah9 x0.Parts).bind λy2=>bif !y2 then some 63 else andThen (foldI (At5 x0) x0.Links 0 ()) some λz0=>andThen (foldI (At4 x0) x0.Groups 0 ()) some λz1=>some 0
def Aus(x0:List a_)(z0:Int×(List a_)):b_ (Int×(List a_)) Unit:=
 bif decide (z0.1<(x0.length:Int))then (getI x0 z0.1).bind λy2=>(Oj z0.2 y2).bind λy4=>c_ (w64 (z0.1+1),y4) else dZ (z0.1,z0.2)
def Aur(x1:List a_)(z1:Int×(List a_)):b_ (Int×(List a_)) Unit:=
 bif decide (z1.1<(x1.length:Int))then (getI x1 z1.1).bind λy7=>(Oj z1.2 y7).bind λy9=>c_ (w64 (z1.1+1),y9) else dZ (z1.1,z1.2)
def F31(x0:List a_)(x1:List a_):Option ((List a_)):=
 andThen (whileN (Aus x0) 1152921504606846976 (0,[])) (λ_=>none) λz0=>andThen (whileN (Aur x1) 1152921504606846976 (0,z0.2)) (λ_=>none) λz1=>some z1.2
def Auy(n1:Nat)(a1:A_)(z1:Bool×(List a_)):b_ (Bool×(List a_)) Unit:=
 (F23 z1.2 a1.From).bind λy7=>(Au [(y7,true)] (F23 z1.2 a1.To) default).bind λy9=>bif (y7&&(!y9))then (Oj z1.2 a1.To).bind λy12=>c_ (true,y12) else c_ (z1.1,z1.2)
def Auz(x0:A5)(z0:Bool×(List a_)):b_ (Bool×(List a_)) Unit:=
 bif z0.1 then andThen (foldI Auy x0.Links 0 (false,z0.2)) (λ_=>none) λz1=>c_ (z1.1,z1.2) else dZ (z0.1,z0.2)
def F28(x0:A5)(x1:List a_):Option ((List a_)):=
 (F31 x1 []).bind λy1=>(F59 x0).bind λy3=>bif (y3 != 0)then some y1 else andThen (whileN (Auz x0) 1152921504606846976 (true,y1)) (λ_=>none) λz0=>some z0.2
def Ay0(x0:B7):Int:=
 Is (w64 (x0.To-x0.From))
def Aon(x0:B7):Bool:=
 (((((decide (x0.From>=0))&&(decide (x0.From<3600)))&&(decide (x0.To>=0)))&&(decide (x0.To<3600)))&&(decide ((Ay0 x0)<=1799)))
def Afw(x0:Aw):Bool:=(((((((((((decide (x0.Kind<1)) || (decide (x0.Kind>3))) || (decide (x0.Station<0))) || (decide (x0.Station>1))) || (decide (x0.Max<0))) || (decide (x0.Max>5000))) || (decide (x0.Rate<0))) || (decide (x0.Rate>5000))) || (decide (x0.Cost<1))) || (decide (x0.Cost>100))) || (decide ((x0.Cy.length:Int)>4)))
def Ak9(n0:Nat)(a0:B7)(z0:Unit):b_ Unit Bool:=
 bif !(Aon a0)then dY false else c_ ()
def Aac(x0:Aw):Option Bool:=
 bif (Afw x0)then some false else andThen (foldI Ak9 x0.Cy 0 ()) some λz0=>some true
def As4(x0:Bw):Bool:=(((((decide (x0.Bow<0)) || (decide (x0.Bow>200))) || (decide (x0.Stern<0))) || (decide (x0.Stern>200))) || ((w64 (x0.Bow+x0.Stern))==0))
def Alr(n0:Nat)(a0:Aw)(z0:Unit):b_ Unit Int:=
 (Aac a0).bind λy3=>bif !y3 then dY 14 else c_ ()
def Ah7(x0:Bw):Option Int:=
 bif decide ((x0.A1.length:Int)>8)then some 2 else bif (As4 x0)then some 1 else andThen (foldI Alr x0.A1 0 ()) some λz0=>some 0
def Rn(y1:Int×Bool)(y3:Bool)(y5:Bool)(y7:Int)(y9:A8):Bool:=((((!y1.2) || (!y3)) || y5) || (decide (y7<y9.Least)))
def Aas(x0:Aa)(x1:Ab)(rec131:Aa->Ab->Int->Option Bool)(n0:Nat)(a0:Int)(z0:Unit):b_ Unit Bool:=
 (rec131 x0 x1 a0).bind λy14=>bif !y14 then dY false else c_ ()
def vK(rec131:Aa->Ab->Int->Option Bool)(x0:Aa)(x1:Ab)(x2:Int):Option Bool:=
 (Aab x0 x1 x2).bind λy1=>(Au [(!y1.2,false)] (F74 x0 x1 y1.1) default).bind λy3=>(Au [(((!y1.2) || (!y3)),false)] (Gp x1 4 x2) default).bind λy5=>(Au [((((!y1.2) || (!y3)) || y5),false)] (getI x1.Aj x2) default).bind λy7=>(Au [((((!y1.2) || (!y3)) || y5),false)] (getI x0.Ae x2) default).bind λy9=>bif (Rn y1 y3 y5 y7 y9)then some false else (getI x0.Ae x2).bind λy12=>andThen (foldI (Aas x0 x1 rec131) y12.Needs 0 ()) some λz0=>some true
def vJ:Nat->Aa->Ab->Int->Option Bool
 |0=>λ_ _ _=>none
 |n+1=>vK (vJ n)
def Ay9(x0:Aa)(x1:Ab)(x2:Int):Option Bool:=vJ 1000 x0 x1 x2
def Ahe(x0:Ca):Bool:=
 ((((decide (x0.X>=(-5000)))&&(decide (x0.X<=5000)))&&(decide (x0.Y>=(-5000))))&&(decide (x0.Y<=5000)))
def Aoe(x0:Int)(x1:Int):Bool:=
 ((decide (x0>=(w64 (0-x1))))&&(decide (x0<=x1)))
def Ag8(x0:Int)(x1:Int):Bool:=
 (((Aoe x0 1000000000000000000)&&(decide (x1>=1)))&&(decide (x1<=1000000000)))
def Ayz(x0:Int)(x1:Int):Option Int:=
 (nzI x1).bind λu2=>(nzI x1).bind λu4=>bif decide ((Int.tmod x0 x1)<0)then some (w64 ((w64 (Int.tdiv x0 x1))-1)) else some (w64 (Int.tdiv x0 x1))
def Aom(x0:Int)(x1:Int):Option (Int×Int):=
 bif !(Ag8 x0 x1)then some (0,1) else (Ayz (w64 (0-x0)) x1).bind λy2=>some (w64 (0-y2),0)
def Ahu(x0:Aw)(x1:Ca):Option (Int×Int):=
 (Aac x0).bind λy1=>bif ((!y1) || (!(Ahe x1)))then some (0,1) else (Aom (w64 ((w64 ((w64 (x1.X*x1.X))+(w64 (x1.Y*x1.Y))))*x0.Cost)) 1000).bind λy4=>some (y4.1,y4.2)
def Alq(x0:Aw)(x1:Int)(z0:Int):b_ Int Int:=
 bif decide (z0>0)then (Ahu x0 ⟨z0,0⟩).bind λy5=>bif decide (y5.1<=x1)then dY z0 else c_ (w64 (z0-1)) else dZ z0
def Ah6(x0:Aw)(x1:Int):Option Int:=
 (Aac x0).bind λy1=>bif !y1 then some 0 else andThen (whileN (Alq x0 x1) 1152921504606846976 x0.Max) some λz0=>some 0
def Aty(x1:Aa)(x2:Ab)(n0:Nat)(a0:Aw)(n1:Nat)(a1:A8)(z1:eQ):b_ (eQ) Unit:=
 bif (a1.Thruster==(cnt 0 n0))then (Ay9 x1 x2 (cnt 0 n1)).bind λy10=>bif y10 then (getI x2.Aj (cnt 0 n1)).bind λy13=>(Ah6 a0 y13).bind λy15=>(getI z1 (cnt 0 n0)).bind λy17=>(setI z1 (cnt 0 n0) y15).bind λy19=>dZ y19 else dZ z1 else c_ z1
def Atz(x1:Aa)(x2:Ab)(n0:Nat)(a0:Aw)(z0:eQ):b_ (eQ) Unit:=
 andThen (foldI (Aty x1 x2 n0 a0) x1.Ae 0 z0) (λ_=>none) λz1=>c_ z1
def F61(x0:Bw)(x1:Aa)(x2:Ab):Option (eQ×Int):=
 (Ah7 x0).bind λy1=>bif (y1 != 0)then some ([],y1) else (F75 x1 x2).bind λy4=>bif (y4 != 0)then some ([],y4) else (mkI 9 (x0.A1.length:Int) 0).bind λy7=>andThen (foldI (Atz x1 x2) x0.A1 0 y7) (λ_=>none) λz0=>some (z0,0)
def Anr(z0:eQ)(a0:Int):Bool:=((decide (a0>=0))&&(decide (a0<(z0.length:Int))))
def Atx(n0:Nat)(a0:Int)(z0:eQ):b_ (eQ) Unit:=
 bif (Anr z0 a0)then (getI z0 a0).bind λy4=>(setI z0 a0 0).bind λy6=>c_ y6 else c_ z0
def F62(x0:eQ)(x1:eQ):Option (eQ):=
 (appI 9 [] x0).bind λy1=>andThen (foldI Atx x1 0 y1) (λ_=>none) λz0=>some z0
def Acr(x0:Ba)(x1:Am)(n0:Nat)(a0:a_)(z0:Sg1):b_ (Sg1) (Am×eQ×Int):=
 (Au [(decide (a0.Kind>4),false)] (F23 x1.Power.Ai a0) default).bind λy13=>bif ((decide (a0.Kind>4)) || y13)then c_ (z0.1,z0.2.1,z0.2.2.1,z0.2.2.2.1,z0.2.2.2.2.1,z0.2.2.2.2.2.1,z0.2.2.2.2.2.2) else (F60 x0.Board ⟨z0.1,⟨z0.2.1,z0.2.2.1,z0.2.2.2.1,z0.2.2.2.2.1⟩,z0.2.2.2.2.2.1,z0.2.2.2.2.2.2⟩ ⟨8,a0.Number,a0.Kind⟩).bind λy16=>bif (y16.2.2 != 0)then dY (⟨0,⟨[],[],[],[]⟩,[],[]⟩,[],y16.2.2) else c_ (y16.1.Time,y16.1.Power.Ag,y16.1.Power.Ad,y16.1.Power.Aj,y16.1.Power.Ai,y16.1.A0,y16.1.A6)
def Acp(n1:Nat)(a1:a_)(z1:eQ):b_ (eQ) Unit:=
 bif (a1.Kind==5)then (F62 z1 [a1.Number]).bind λy23=>c_ y23 else c_ z1
def Xc(x0:Ba)(x1:Am)(x2:List a_)(x3:List a_):Option (Am×eQ×Int):=
 (F58 x0.Board x0.Table x1).bind λy1=>bif (y1 != 0)then some (⟨0,⟨[],[],[],[]⟩,[],[]⟩,[],y1) else (F59 x0.Design).bind λy4=>bif (y4 != 0)then some (⟨0,⟨[],[],[],[]⟩,[],[]⟩,[],y4) else (F31 x2 x1.Power.Ai).bind λy7=>(F31 y7 x3).bind λy9=>(F28 x0.Design y9).bind λy11=>andThen (foldI (Acr x0 x1) y11 0 (x1.Time,x1.Power.Ag,x1.Power.Ad,x1.Power.Aj,x1.Power.Ai,x1.A0,x1.A6)) some λz0=>(F61 x0.Ship x0.Board ⟨z0.2.1,z0.2.2.1,z0.2.2.2.1,z0.2.2.2.2.1⟩).bind λy19=>bif (y19.2 != 0)then some (⟨0,⟨[],[],[],[]⟩,[],[]⟩,[],y19.2) else andThen (foldI Acp y11 0 y19.1) (λ_=>none) λz1=>some (⟨z0.1,⟨z0.2.1,z0.2.2.1,z0.2.2.2.1,z0.2.2.2.2.1⟩,z0.2.2.2.2.2.1,z0.2.2.2.2.2.2⟩,z1,0)
def Azz(a0:Bi)(y2:Bi):Bool:=!((a0.Time==y2.Time)&&(((a0.Act.Kind==y2.Act.Kind)&&((a0.Act.Unit==y2.Act.Unit)&&((a0.Act.Value==y2.Act.Value)&&true)))&&((a0.Err==y2.Err)&&true)))
def Atw(x1:List Bi)(n0:Nat)(a0:Bi)(z0:Unit):b_ Unit Bool:=
 (getI x1 (cnt 0 n0)).bind λy2=>bif (Azz a0 y2)then dY false else c_ ()
def F64(x0:List Bi)(x1:List Bi):Option Bool:=
 bif ((x0.length:Int) != (x1.length:Int))then some false else andThen (foldI (Atw x1) x0 0 ()) some λz0=>some true
def A0b(x0:Am)(x1:Am)(y1:Bool)(y3:Bool):Bool:=((((x0.Time != x1.Time) || (!y1)) || ((x0.A0.length:Int) != (x1.A0.length:Int))) || (!y3))
def A0a(x0:Am)(z0:Int):Bool:=decide (z0<(x0.A0.length:Int))
def Az9(y7:Bb)(y9:Bb):Bool:=!((y7.High==y9.High)&&((y7.Low==y9.Low)&&true))
def Au6(x0:Am)(x1:Am)(z0:Int):b_ Int Bool:=
 bif (A0a x0 z0)then (getI x0.A0 z0).bind λy7=>(getI x1.A0 z0).bind λy9=>bif (Az9 y7 y9)then dY false else c_ (w64 (z0+1)) else dZ z0
def F17(x0:Am)(x1:Am):Option Bool:=
 (Au [((x0.Time != x1.Time),false)] (F63 x0.Power x1.Power) default).bind λy1=>(Au [((((x0.Time != x1.Time) || (!y1)) || ((x0.A0.length:Int) != (x1.A0.length:Int))),false)] (F64 x0.A6 x1.A6) default).bind λy3=>bif (A0b x0 x1 y1 y3)then some false else andThen (whileN (Au6 x0 x1) 1152921504606846976 0) some λz0=>some true
def Au8(x0:Ba)(x1:Am)(n0:Nat)(a0:a_)(z0:Sg1):b_ (Sg1) (Am×eQ×Int):=
 (Au [(decide (a0.Kind>4),false)] (F23 x1.Power.Ai a0) default).bind λy13=>bif ((decide (a0.Kind>4)) || y13)then c_ (z0.1,z0.2.1,z0.2.2.1,z0.2.2.2.1,z0.2.2.2.2.1,z0.2.2.2.2.2.1,z0.2.2.2.2.2.2) else (F60 x0.Board ⟨z0.1,⟨z0.2.1,z0.2.2.1,z0.2.2.2.1,z0.2.2.2.2.1⟩,z0.2.2.2.2.2.1,z0.2.2.2.2.2.2⟩ ⟨8,a0.Number,a0.Kind⟩).bind λy16=>bif (y16.2.2 != 0)then dY (⟨0,⟨[],[],[],[]⟩,[],[]⟩,[],y16.2.2) else c_ (y16.1.Time,y16.1.Power.Ag,y16.1.Power.Ad,y16.1.Power.Aj,y16.1.Power.Ai,y16.1.A0,y16.1.A6)
def Au7(n1:Nat)(a1:a_)(z1:eQ):b_ (eQ) Unit:=
 bif (a1.Kind==5)then (F62 z1 [a1.Number]).bind λy23=>c_ y23 else c_ z1
def vI(x0:Ba)(x1:Am)(x2:List a_)(x3:List a_):Option (Am×eQ×Int):=
 (F58 x0.Board x0.Table x1).bind λy1=>bif (y1 != 0)then some (⟨0,⟨[],[],[],[]⟩,[],[]⟩,[],y1) else (F59 x0.Design).bind λy4=>bif (y4 != 0)then some (⟨0,⟨[],[],[],[]⟩,[],[]⟩,[],y4) else (F31 x2 x1.Power.Ai).bind λy7=>(F31 y7 x3).bind λy9=>(F28 x0.Design y9).bind λy11=>andThen (foldI (Au8 x0 x1) y11 0 (x1.Time,x1.Power.Ag,x1.Power.Ad,x1.Power.Aj,x1.Power.Ai,x1.A0,x1.A6)) some λz0=>(F61 x0.Ship x0.Board ⟨z0.2.1,z0.2.2.1,z0.2.2.2.1,z0.2.2.2.2.1⟩).bind λy19=>bif (y19.2 != 0)then some (⟨0,⟨[],[],[],[]⟩,[],[]⟩,[],y19.2) else andThen (foldI Au7 y11 0 y19.1) (λ_=>none) λz1=>some (⟨z0.1,⟨z0.2.1,z0.2.2.1,z0.2.2.2.1,z0.2.2.2.2.1⟩,z0.2.2.2.2.2.1,z0.2.2.2.2.2.2⟩,z1,0)
def A5j(x0:eQ)(x1:List a_):Bool:=((decide ((x0.length:Int)>600)) || (decide ((x1.length:Int)>6)))
def A5i(y12:Am×eQ×Int)(y14:Am×eQ×Int)(y16:Bool)(y18:Bool):Bool:=(((y12.2.2 != y14.2.2) || (!y16)) || (!y18))
def A5h(y21:Am×eQ×Int)(y23:Am×eQ×Int)(y25:Bool)(y27:Bool):Bool:=(((y21.2.2 != y23.2.2) || (!y25)) || (!y27))
def A5g(y30:Am×eQ×Int)(y32:Am×eQ×Int)(y34:Bool)(y36:Bool):Bool:=(((y30.2.2 != y32.2.2) || (!y34)) || (!y36))
def F3(x0:eQ)(x1:List a_):Option Bool:=
 bif (A5j x0 x1)then (F9).bind λy2=>some y2 else (F10 x0).bind λy4=>(F11 y4).bind λy6=>(F12 y6.2.2).bind λy8=>(F13 y8.2 3).bind λy10=>(F14 y6.1 y6.2.1 y8.1 y10.1).bind λy12=>(Xc y6.1 y6.2.1 y8.1 y10.1).bind λy14=>(Au [((y12.2.2 != y14.2.2),false)] (F16 y12.2.1 y14.2.1) default).bind λy16=>(Au [(((y12.2.2 != y14.2.2) || (!y16)),false)] (F17 y12.1 y14.1) default).bind λy18=>bif (A5i y12 y14 y16 y18)then some false else (F14 y6.1 y6.2.1 y8.1 x1).bind λy21=>(vI y6.1 y6.2.1 y8.1 x1).bind λy23=>(Au [((y21.2.2 != y23.2.2),false)] (F16 y21.2.1 y23.2.1) default).bind λy25=>(Au [(((y21.2.2 != y23.2.2) || (!y25)),false)] (F17 y21.1 y23.1) default).bind λy27=>bif (A5h y21 y23 y25 y27)then some false else (F14 y6.1 y6.2.1 y8.1 y6.1.Design.Parts).bind λy30=>(vI y6.1 y6.2.1 y8.1 y6.1.Design.Parts).bind λy32=>(Au [((y30.2.2 != y32.2.2),false)] (F16 y30.2.1 y32.2.1) default).bind λy34=>(Au [(((y30.2.2 != y32.2.2) || (!y34)),false)] (F17 y30.1 y32.1) default).bind λy36=>bif (A5g y30 y32 y34 y36)then some false else (F9).bind λy39=>some y39
end Go.Proofs.YtiaaaghdkhnonaaGreat
