import Derived.Test.YtiaaaghdkhnonaaGreatSlV
set_option linter.unusedVariables false
namespace Go.Proofs.YtiaaaghdkhnonaaGreat
open Go.SL
def ed:Nat->Nat->Nat->eR
|0,_,_=>[]
|f+1,i,n=>bif Nat.beq (n%2) 1 then i::ed f (i+1) (n/2) else ed f (i+1) (n/2)
def d_(n:Nat):eR:=ed 20 0 n
abbrev c_{a b:Type}(x:a):Option (Ctl a b):=some (.next x)
abbrev dY{a b:Type}(x:b):Option (Ctl a b):=some (.ret x)
abbrev dZ{a b:Type}(x:a):Option (Ctl a b):=some (.brk x)
abbrev b_(a b:Type):=Option (Ctl a b)
structure a_ where
 Kind:Int
 Number:Int
 deriving Inhabited
def q88(x:a_):List Pd:=[.v (.int .i64 x.Kind),.v (.int .i64 x.Number)]
structure Ij where
 Surge:eQ
 Sway:eQ
 Yaw:eQ
 deriving Inhabited
def q28(x:Ij):List Pd:=[.s (x.Surge.map pI),.s (x.Sway.map pI),.s (x.Yaw.map pI)]
structure Mh where
 Wind:Ij
 Current:Ij
 Wave:Ij
 Mass:Int
 Inertia:Int
 Drag:Int
 Spin:Int
 deriving Inhabited
def q30(x:Mh):List Pd:=[.s (x.Wind.Surge.map pI),.s (x.Wind.Sway.map pI),.s (x.Wind.Yaw.map pI),.s (x.Current.Surge.map pI),.s (x.Current.Sway.map pI),.s (x.Current.Yaw.map pI),.s (x.Wave.Surge.map pI),.s (x.Wave.Sway.map pI),.s (x.Wave.Yaw.map pI),.v (.int .i64 x.Mass),.v (.int .i64 x.Inertia),.v (.int .i64 x.Drag),.v (.int .i64 x.Spin)]
structure B7 where
 From:Int
 To:Int
 deriving Inhabited
def Gl(x:B7):List Pd:=[.v (.int .i64 x.From),.v (.int .i64 x.To)]
structure Aw where
 Kind:Int
 Station:Int
 Max:Int
 Rate:Int
 Cost:Int
 Cy:List B7
 deriving Inhabited
def D7(x:Aw):List Pd:=[.v (.int .i64 x.Kind),.v (.int .i64 x.Station),.v (.int .i64 x.Max),.v (.int .i64 x.Rate),.v (.int .i64 x.Cost),.s (x.Cy.map Gl)]
structure Bw where
 Bow:Int
 Stern:Int
 A1:List Aw
 deriving Inhabited
structure Al where
 Kind:Int
 A:Int
 B:Int
 deriving Inhabited
def By(x:Al):List Pd:=[.v (.int .i64 x.Kind),.v (.int .i64 x.A),.v (.int .i64 x.B)]
structure B6 where
 Rating:Int
 Least:Int
 Start:Int
 deriving Inhabited
def Ch(x:B6):List Pd:=[.v (.int .i64 x.Rating),.v (.int .i64 x.Least),.v (.int .i64 x.Start)]
structure A8 where
 Load:Int
 Least:Int
 B1:Int
 Thruster:Int
 Needs:eQ
 deriving Inhabited
def B3(x:A8):List Pd:=[.v (.int .i64 x.Load),.v (.int .i64 x.Least),.v (.int .i64 x.B1),.v (.int .i64 x.Thruster),.s (x.Needs.map pI)]
structure Aa where
 Ao:Int
 Ah:List Al
 Ad:List B6
 Ae:List A8
 Phase:Int
 Ar:Int
 deriving Inhabited
structure B0 where
 Start:Int
 Stop:Int
 Delay:Int
 deriving Inhabited
structure A_ where
 From:a_
 To:a_
 deriving Inhabited
def Fi(x:A_):List Pd:=[.v (.int .i64 x.From.Kind),.v (.int .i64 x.From.Number),.v (.int .i64 x.To.Kind),.v (.int .i64 x.To.Number)]
structure Bu where
 Name:ByteArray
 Parts:List a_
 deriving Inhabited
def Hl(x:Bu):List Pd:=[.v (.string x.Name),.s (x.Parts.map q88)]
structure A5 where
 Parts:List a_
 Links:List A_
 Groups:List Bu
 deriving Inhabited
structure D5 where
 Cause:Int
 Speed:Int
 Stale:Int
 Freeze:Int
 deriving Inhabited
def Lc(x:D5):List Pd:=[.v (.int .i64 x.Cause),.v (.int .i64 x.Speed),.v (.int .i64 x.Stale),.v (.int .i64 x.Freeze)]
structure Nc where
 Near:Int
 Sum:Int
 Calm:Int
 Point:Int
 Drift:Int
 Still:Int
 MostSum:Int
 MostForce:Int
 MostYaw:Int
 deriving Inhabited
structure Qa where
 X:Int
 Y:Int
 deriving Inhabited
structure Tx where
 Place:Qa
 Heading:Int
 deriving Inhabited
structure Lr where
 Place:Qa
 Yellow:Int
 Red:Int
 deriving Inhabited
structure Ix where
 Name:ByteArray
 Class:Int
 Circle:Lr
 Drift:Int
 deriving Inhabited
structure Jo where
 Name:ByteArray
 Ticks:Int
 Tries:Int
 Needs:eQ
 deriving Inhabited
def yC(x:Jo):List Pd:=[.v (.string x.Name),.v (.int .i64 x.Ticks),.v (.int .i64 x.Tries),.s (x.Needs.map pI)]
structure Lq where
 Stages:List Jo
 deriving Inhabited
structure Ba where
 Hull:Mh
 Ship:Bw
 Board:Aa
 Table:B0
 Design:A5
 References:List D5
 Gains:Nc
 Target:Tx
 Delay:Int
 Operation:Ix
 Sequence:Lq
 deriving Inhabited
def q60(x:Ba):List Pd:=[.s (x.Hull.Wind.Surge.map pI),.s (x.Hull.Wind.Sway.map pI),.s (x.Hull.Wind.Yaw.map pI),.s (x.Hull.Current.Surge.map pI),.s (x.Hull.Current.Sway.map pI),.s (x.Hull.Current.Yaw.map pI),.s (x.Hull.Wave.Surge.map pI),.s (x.Hull.Wave.Sway.map pI),.s (x.Hull.Wave.Yaw.map pI),.v (.int .i64 x.Hull.Mass),.v (.int .i64 x.Hull.Inertia),.v (.int .i64 x.Hull.Drag),.v (.int .i64 x.Hull.Spin),.v (.int .i64 x.Ship.Bow),.v (.int .i64 x.Ship.Stern),.s (x.Ship.A1.map D7),.v (.int .i64 x.Board.Ao),.s (x.Board.Ah.map By),.s (x.Board.Ad.map Ch),.s (x.Board.Ae.map B3),.v (.int .i64 x.Board.Phase),.v (.int .i64 x.Board.Ar),.v (.int .i64 x.Table.Start),.v (.int .i64 x.Table.Stop),.v (.int .i64 x.Table.Delay),.s (x.Design.Parts.map q88),.s (x.Design.Links.map Fi),.s (x.Design.Groups.map Hl),.s (x.References.map Lc),.v (.int .i64 x.Gains.Near),.v (.int .i64 x.Gains.Sum),.v (.int .i64 x.Gains.Calm),.v (.int .i64 x.Gains.Point),.v (.int .i64 x.Gains.Drift),.v (.int .i64 x.Gains.Still),.v (.int .i64 x.Gains.MostSum),.v (.int .i64 x.Gains.MostForce),.v (.int .i64 x.Gains.MostYaw),.v (.int .i64 x.Target.Place.X),.v (.int .i64 x.Target.Place.Y),.v (.int .i64 x.Target.Heading),.v (.int .i64 x.Delay),.v (.string x.Operation.Name),.v (.int .i64 x.Operation.Class),.v (.int .i64 x.Operation.Circle.Place.X),.v (.int .i64 x.Operation.Circle.Place.Y),.v (.int .i64 x.Operation.Circle.Yellow),.v (.int .i64 x.Operation.Circle.Red),.v (.int .i64 x.Operation.Drift),.s (x.Sequence.Stages.map yC)]
structure Ak where
 State:Int
 Since:Int
 Ar:Int
 Phase:Int
 deriving Inhabited
def Be(x:Ak):List Pd:=[.v (.int .i64 x.State),.v (.int .i64 x.Since),.v (.int .i64 x.Ar),.v (.int .i64 x.Phase)]
structure Ab where
 Ag:eT
 Ad:List Ak
 Aj:eQ
 Ai:List a_
 deriving Inhabited
def q64(x:Ab):List Pd:=[.s (x.Ag.map pB),.s (x.Ad.map Be),.s (x.Aj.map pI),.s (x.Ai.map q88)]
structure Bb where
 High:Int
 Low:Int
 deriving Inhabited
def Cm(x:Bb):List Pd:=[.v (.int .i64 x.High),.v (.int .i64 x.Low)]
structure As where
 Kind:Int
 Unit:Int
 Value:Int
 deriving Inhabited
def Ee(x:As):List Pd:=[.v (.int .i64 x.Kind),.v (.int .i64 x.Unit),.v (.int .i64 x.Value)]
structure Bi where
 Time:Int
 Act:As
 Err:Int
 deriving Inhabited
def De(x:Bi):List Pd:=[.v (.int .i64 x.Time),.v (.int .i64 x.Act.Kind),.v (.int .i64 x.Act.Unit),.v (.int .i64 x.Act.Value),.v (.int .i64 x.Err)]
structure Am where
 Time:Int
 Power:Ab
 A0:List Bb
 A6:List Bi
 deriving Inhabited
def q68(x:Am):List Pd:=[.v (.int .i64 x.Time),.s (x.Power.Ag.map pB),.s (x.Power.Ad.map Be),.s (x.Power.Aj.map pI),.s (x.Power.Ai.map q88),.s (x.A0.map Cm),.s (x.A6.map De)]
structure An where
 Ao:eQ
 Ad:eQ
 Ae:eQ
 deriving Inhabited
def Bz(x:An):List Pd:=[.s (x.Ao.map pI),.s (x.Ad.map pI),.s (x.Ae.map pI)]
structure Br where
 Surge:Int
 Sway:Int
 Yaw:Int
 deriving Inhabited
def q81(x:Br):List Pd:=[.v (.int .i64 x.Surge),.v (.int .i64 x.Sway),.v (.int .i64 x.Yaw)]
structure Cq where
 Bn:Am
 Aq:Aa
 events:List Bi
 states:List Ab
 deriving Inhabited
structure Bg where
 Aq:Aa
 Ax:Ab
 time:Int
 deriving Inhabited
structure A4 where
 Aq:Aa
 Ax:Ab
 acts:List As
 deriving Inhabited
structure Ca where
 X:Int
 Y:Int
 deriving Inhabited
def Fh(x:Ca):List Pd:=[.v (.int .i64 x.X),.v (.int .i64 x.Y)]
structure Cp where
 Surge:Int
 Bow:Int
 Stern:Int
 deriving Inhabited
structure J3 where
 Thrusts:List Ca
 Given:Cp
 Missing:Cp
 deriving Inhabited
structure Ci where
 thrusters:List Aw
 last:List Ca
 deriving Inhabited
structure B9 where
 Low:Int
 High:Int
 Cost:Int
 deriving Inhabited
def H7(x:B9):List Pd:=[.v (.int .i64 x.Low),.v (.int .i64 x.High),.v (.int .i64 x.Cost)]
structure Bj where
 Part:a_
 Holds:Bool
 deriving Inhabited
def q98(x:Bj):List Pd:=[.v (.int .i64 x.Part.Kind),.v (.int .i64 x.Part.Number),.v (.bool x.Holds)]
structure Af where
 L:eQ
 At:Int
 deriving Inhabited
def d88(x:a_):List D:=[I x.Kind,I x.Number]
def V3(x:B7):List D:=[I x.From,I x.To]
def Im(x:Aw):List D:=[I x.Kind,I x.Station,I x.Max,I x.Rate,I x.Cost,DS Gl x.Cy]
def d33(x:Bw):List D:=[I x.Bow,I x.Stern,DS D7 x.A1]
def Aff(x:Al):List D:=[I x.Kind,I x.A,I x.B]
def A9v(x:B6):List D:=[I x.Rating,I x.Least,I x.Start]
def A49(x:A8):List D:=[I x.Load,I x.Least,I x.B1,I x.Thruster,DS pI x.Needs]
def d38(x:Aa):List D:=[I x.Ao,DS By x.Ah,DS Ch x.Ad,DS B3 x.Ae,I x.Phase,I x.Ar]
def d40(x:B0):List D:=[I x.Start,I x.Stop,I x.Delay]
def A5a(x:A_):List D:=[I x.From.Kind,I x.From.Number,I x.To.Kind,I x.To.Number]
def Afg(x:Bu):List D:=[.p (.v (.string x.Name)),DS q88 x.Parts]
def d44(x:A5):List D:=[DS q88 x.Parts,DS Fi x.Links,DS Hl x.Groups]
def A9u(x:D5):List D:=[I x.Cause,I x.Speed,I x.Stale,I x.Freeze]
def d47(x:Nc):List D:=[I x.Near,I x.Sum,I x.Calm,I x.Point,I x.Drift,I x.Still,I x.MostSum,I x.MostForce,I x.MostYaw]
def d53(x:Lr):List D:=[I x.Place.X,I x.Place.Y,I x.Yellow,I x.Red]
def d55(x:Ix):List D:=[.p (.v (.string x.Name)),I x.Class,I x.Circle.Place.X,I x.Circle.Place.Y,I x.Circle.Yellow,I x.Circle.Red,I x.Drift]
def d60(x:Ba):List D:=[DS pI x.Hull.Wind.Surge,DS pI x.Hull.Wind.Sway,DS pI x.Hull.Wind.Yaw,DS pI x.Hull.Current.Surge,DS pI x.Hull.Current.Sway,DS pI x.Hull.Current.Yaw,DS pI x.Hull.Wave.Surge,DS pI x.Hull.Wave.Sway,DS pI x.Hull.Wave.Yaw,I x.Hull.Mass,I x.Hull.Inertia,I x.Hull.Drag,I x.Hull.Spin,I x.Ship.Bow,I x.Ship.Stern,DS D7 x.Ship.A1,I x.Board.Ao,DS By x.Board.Ah,DS Ch x.Board.Ad,DS B3 x.Board.Ae,I x.Board.Phase,I x.Board.Ar,I x.Table.Start,I x.Table.Stop,I x.Table.Delay,DS q88 x.Design.Parts,DS Fi x.Design.Links,DS Hl x.Design.Groups,DS Lc x.References,I x.Gains.Near,I x.Gains.Sum,I x.Gains.Calm,I x.Gains.Point,I x.Gains.Drift,I x.Gains.Still,I x.Gains.MostSum,I x.Gains.MostForce,I x.Gains.MostYaw,I x.Target.Place.X,I x.Target.Place.Y,I x.Target.Heading,I x.Delay,.p (.v (.string x.Operation.Name)),I x.Operation.Class,I x.Operation.Circle.Place.X,I x.Operation.Circle.Place.Y,I x.Operation.Circle.Yellow,I x.Operation.Circle.Red,I x.Operation.Drift,DS yC x.Sequence.Stages]
def Zd(x:Ak):List D:=[I x.State,I x.Since,I x.Ar,I x.Phase]
def d64(x:Ab):List D:=[DS pB x.Ag,DS Be x.Ad,DS pI x.Aj,DS q88 x.Ai]
def Axh(x:Bb):List D:=[I x.High,I x.Low]
def Nr(x:As):List D:=[I x.Kind,I x.Unit,I x.Value]
def d68(x:Am):List D:=[I x.Time,DS pB x.Power.Ag,DS Be x.Power.Ad,DS pI x.Power.Aj,DS q88 x.Power.Ai,DS Cm x.A0,DS De x.A6]
def Tl(x:An):List D:=[DS pI x.Ao,DS pI x.Ad,DS pI x.Ae]
def d81(x:Br):List D:=[I x.Surge,I x.Sway,I x.Yaw]
def Pg(x:Cp):List D:=[I x.Surge,I x.Bow,I x.Stern]
def Anj(x:Ci):List D:=[DS D7 x.thrusters,DS Fh x.last]
def Axg(x:B9):List D:=[I x.Low,I x.High,I x.Cost]
def d98(x:Bj):List D:=[I x.Part.Kind,I x.Part.Number,Bo x.Holds]
def B_(x:Af):List D:=[DS pI x.L,I x.At]
end Go.Proofs.YtiaaaghdkhnonaaGreat
