import Derived.Test.YtedojeimigneaaaGreatDoorSlV
set_option linter.unusedVariables false
namespace Go.Proofs.YtedojeimigneaaaGreatDoor
open Go.SL
def dZ:Nat->Nat->Nat->ey
|0,_,_=>[]
|f+1,i,n=>bif Nat.beq (n%2) 1 then i::dZ f (i+1) (n/2) else dZ f (i+1) (n/2)
def dY(n:Nat):ey:=dZ 20 0 n
abbrev b_{a b:Type}(x:a):Option (Ctl a b):=some (.next x)
abbrev c_{a b:Type}(x:b):Option (Ctl a b):=some (.ret x)
abbrev dX{a b:Type}(x:a):Option (Ctl a b):=some (.brk x)
abbrev a_(a b:Type):=Option (Ctl a b)
structure Ab where
 L:ez
 At:Int
 deriving Inhabited
structure Fg where
 Surge:ez
 Sway:ez
 Yaw:ez
 deriving Inhabited
def q27(x:Fg):List Pd:=[.s (x.Surge.map pI),.s (x.Sway.map pI),.s (x.Yaw.map pI)]
structure H3 where
 Wind:Fg
 Current:Fg
 Wave:Fg
 Mass:Int
 Inertia:Int
 Drag:Int
 Spin:Int
 deriving Inhabited
structure Dw where
 From:Int
 To:Int
 deriving Inhabited
def Ni(x:Dw):List Pd:=[.v (.int .i64 x.From),.v (.int .i64 x.To)]
structure B0 where
 Kind:Int
 Station:Int
 Max:Int
 Rate:Int
 Cost:Int
 Gn:List Dw
 deriving Inhabited
def F2(x:B0):List Pd:=[.v (.int .i64 x.Kind),.v (.int .i64 x.Station),.v (.int .i64 x.Max),.v (.int .i64 x.Rate),.v (.int .i64 x.Cost),.s (x.Gn.map Ni)]
structure Gb where
 Bow:Int
 Stern:Int
 A2:List B0
 deriving Inhabited
def q32(x:Gb):List Pd:=[.v (.int .i64 x.Bow),.v (.int .i64 x.Stern),.s (x.A2.map F2)]
structure Ai where
 Kind:Int
 A:Int
 B:Int
 deriving Inhabited
def B2(x:Ai):List Pd:=[.v (.int .i64 x.Kind),.v (.int .i64 x.A),.v (.int .i64 x.B)]
structure Ca where
 Rating:Int
 Least:Int
 Start:Int
 deriving Inhabited
def Cj(x:Ca):List Pd:=[.v (.int .i64 x.Rating),.v (.int .i64 x.Least),.v (.int .i64 x.Start)]
structure Bb where
 Load:Int
 Least:Int
 Dk:Int
 Thruster:Int
 Needs:ez
 deriving Inhabited
def Cp(x:Bb):List Pd:=[.v (.int .i64 x.Load),.v (.int .i64 x.Least),.v (.int .i64 x.Dk),.v (.int .i64 x.Thruster),.s (x.Needs.map pI)]
structure Ae where
 Ap:Int
 Ag:List Ai
 Ad:List Ca
 Aj:List Bb
 Phase:Int
 Ax:Int
 deriving Inhabited
structure Ff where
 Start:Int
 Stop:Int
 Delay:Int
 deriving Inhabited
structure Aa where
 Kind:Int
 Number:Int
 deriving Inhabited
def Az(x:Aa):List Pd:=[.v (.int .i64 x.Kind),.v (.int .i64 x.Number)]
structure Bl where
 From:Aa
 To:Aa
 deriving Inhabited
def F1(x:Bl):List Pd:=[.v (.int .i64 x.From.Kind),.v (.int .i64 x.From.Number),.v (.int .i64 x.To.Kind),.v (.int .i64 x.To.Number)]
structure Bf where
 Name:ByteArray
 Parts:List Aa
 deriving Inhabited
def Gi(x:Bf):List Pd:=[.v (.string x.Name),.s (x.Parts.map Az)]
structure Bw where
 Parts:List Aa
 Links:List Bl
 Groups:List Bf
 deriving Inhabited
def q44(x:Bw):List Pd:=[.s (x.Parts.map Az),.s (x.Links.map F1),.s (x.Groups.map Gi)]
structure Br where
 Cause:Int
 Speed:Int
 Stale:Int
 Freeze:Int
 deriving Inhabited
def Dz(x:Br):List Pd:=[.v (.int .i64 x.Cause),.v (.int .i64 x.Speed),.v (.int .i64 x.Stale),.v (.int .i64 x.Freeze)]
structure G5 where
 Near:Int
 Sum:Int
 Calm:Int
 Point:Int
 Drift:Int
 Still:Int
 MostSum:Int
 MostForce:Int
 MostYaw:Int
 deriving Inhabited
structure G4 where
 X:Int
 Y:Int
 deriving Inhabited
structure Td where
 Place:G4
 Heading:Int
 deriving Inhabited
structure G0 where
 Place:G4
 Yellow:Int
 Red:Int
 deriving Inhabited
structure Eb where
 Name:ByteArray
 Class:Int
 Circle:G0
 Drift:Int
 deriving Inhabited
structure Em where
 Name:ByteArray
 Ticks:Int
 Tries:Int
 Needs:ez
 deriving Inhabited
def Gh(x:Em):List Pd:=[.v (.string x.Name),.v (.int .i64 x.Ticks),.v (.int .i64 x.Tries),.s (x.Needs.map pI)]
structure C6 where
 Stages:List Em
 deriving Inhabited
structure Ar where
 Hull:H3
 Ship:Gb
 Board:Ae
 Table:Ff
 Design:Bw
 References:List Br
 Gains:G5
 Target:Td
 Delay:Int
 Operation:Eb
 Sequence:C6
 deriving Inhabited
structure Am where
 Time:Int
 Kind:Int
 Part:Aa
 deriving Inhabited
def B_(x:Am):List Pd:=[.v (.int .i64 x.Time),.v (.int .i64 x.Kind),.v (.int .i64 x.Part.Kind),.v (.int .i64 x.Part.Number)]
structure Jq where
 From:Int
 Speed:Int
 deriving Inhabited
structure Gd where
 Wind:Jq
 Current:Jq
 Wave:Jq
 deriving Inhabited
structure C8 where
 Faults:List Am
 Weather:Gd
 Ticks:Int
 deriving Inhabited
structure An where
 State:Int
 Since:Int
 Ax:Int
 Phase:Int
 deriving Inhabited
def B1(x:An):List Pd:=[.v (.int .i64 x.State),.v (.int .i64 x.Since),.v (.int .i64 x.Ax),.v (.int .i64 x.Phase)]
structure Af where
 Al:eB
 Ad:List An
 A0:ez
 Ao:List Aa
 deriving Inhabited
structure Cw where
 High:Int
 Low:Int
 deriving Inhabited
def F0(x:Cw):List Pd:=[.v (.int .i64 x.High),.v (.int .i64 x.Low)]
structure Be where
 Kind:Int
 Unit:Int
 Value:Int
 deriving Inhabited
def Dy(x:Be):List Pd:=[.v (.int .i64 x.Kind),.v (.int .i64 x.Unit),.v (.int .i64 x.Value)]
structure M7 where
 Time:Int
 Act:Be
 Err:Int
 deriving Inhabited
def qV(x:M7):List Pd:=[.v (.int .i64 x.Time),.v (.int .i64 x.Act.Kind),.v (.int .i64 x.Act.Unit),.v (.int .i64 x.Act.Value),.v (.int .i64 x.Err)]
structure Jp where
 Time:Int
 Power:Af
 Dx:List Cw
 Ft:List M7
 deriving Inhabited
structure J4 where
 Time:Int
 X:Int
 Y:Int
 Error:Int
 deriving Inhabited
structure Jo where
 Last:J4
 Good:J4
 Seen:Bool
 Same:Int
 State:Int
 deriving Inhabited
def Uk(x:Jo):List Pd:=[.v (.int .i64 x.Last.Time),.v (.int .i64 x.Last.X),.v (.int .i64 x.Last.Y),.v (.int .i64 x.Last.Error),.v (.int .i64 x.Good.Time),.v (.int .i64 x.Good.X),.v (.int .i64 x.Good.Y),.v (.int .i64 x.Good.Error),.v (.bool x.Seen),.v (.int .i64 x.Same),.v (.int .i64 x.State)]
structure Pf where
 Point:G4
 Bound:Int
 Time:Int
 State:Int
 deriving Inhabited
structure Te where
 SumX:Int
 SumY:Int
 SumH:Int
 Last:G4
 Heading:Int
 Seen:Bool
 deriving Inhabited
structure Ig where
 X:Int
 Y:Int
 deriving Inhabited
def Ul(x:Ig):List Pd:=[.v (.int .i64 x.X),.v (.int .i64 x.Y)]
structure Vq where
 Level:Int
 Better:Int
 deriving Inhabited
structure Pb where
 State:Int
 Since:Int
 Tries:Int
 deriving Inhabited
def qW(x:Pb):List Pd:=[.v (.int .i64 x.State),.v (.int .i64 x.Since),.v (.int .i64 x.Tries)]
structure Pe where
 Time:Int
 Works:List Pb
 deriving Inhabited
structure M8 where
 Number:Int
 Urgency:Int
 State:Int
 Since:Int
 deriving Inhabited
def Ajf(x:M8):List Pd:=[.v (.int .i64 x.Number),.v (.int .i64 x.Urgency),.v (.int .i64 x.State),.v (.int .i64 x.Since)]
structure B9 where
 Time:Int
 Kind:Int
 Words:ez
 deriving Inhabited
def Fl(x:B9):List Pd:=[.v (.int .i64 x.Time),.v (.int .i64 x.Kind),.s (x.Words.map pI)]
structure D_ where
 Entries:List B9
 Sum:Int
 deriving Inhabited
structure B3 where
 A5:Jp
 Ao:List Aa
 Tracks:List Jo
 Estimate:Pf
 Keeper:Te
 Thrusts:List Ig
 Class:Vq
 Operation:Int
 Progress:Pe
 Alarms:List M8
 Book:D_
 deriving Inhabited
structure Ii where
 e0:Int
 e1:Int
 e2:Int
 e3:Int
 e4:Int
 e5:Int
 e6:Int
 e7:Int
 e8:Int
 e9:Int
 e10:Int
 e11:Int
 deriving Inhabited
structure Hy where
 e0:Ii
 e1:Ii
 e2:Ii
 deriving Inhabited
structure Au where
 Ak:Ae
 Ah:Af
 acts:List Be
 deriving Inhabited
structure Aq where
 Ap:ez
 Ad:ez
 Aj:ez
 deriving Inhabited
def Bm(x:Aq):List Pd:=[.s (x.Ap.map pI),.s (x.Ad.map pI),.s (x.Aj.map pI)]
structure Av where
 Ak:Ae
 Ah:Af
 goal:eB
 acts:List Be
 deriving Inhabited
structure A6 where
 Ak:Ae
 Ah:Af
 time:Int
 deriving Inhabited
structure Eo where
 Reference:Int
 Fix:J4
 deriving Inhabited
def P8(x:Eo):List Pd:=[.v (.int .i64 x.Reference),.v (.int .i64 x.Fix.Time),.v (.int .i64 x.Fix.X),.v (.int .i64 x.Fix.Y),.v (.int .i64 x.Fix.Error)]
structure C7 where
 Weather:Gd
 Heading:Int
 Sights:List Eo
 Acts:List Be
 Faults:List Am
 Request:Int
 Seen:ez
 deriving Inhabited
def K5(x:C7):List Pd:=[.v (.int .i64 x.Weather.Wind.From),.v (.int .i64 x.Weather.Wind.Speed),.v (.int .i64 x.Weather.Current.From),.v (.int .i64 x.Weather.Current.Speed),.v (.int .i64 x.Weather.Wave.From),.v (.int .i64 x.Weather.Wave.Speed),.v (.int .i64 x.Heading),.s (x.Sights.map P8),.s (x.Acts.map Dy),.s (x.Faults.map B_),.v (.int .i64 x.Request),.s (x.Seen.map pI)]
def B5(x:Ab):List D:=[DS pI x.L,I x.At]
def d27(x:Fg):List D:=[DS pI x.Surge,DS pI x.Sway,DS pI x.Yaw]
def d29(x:H3):List D:=[DS pI x.Wind.Surge,DS pI x.Wind.Sway,DS pI x.Wind.Yaw,DS pI x.Current.Surge,DS pI x.Current.Sway,DS pI x.Current.Yaw,DS pI x.Wave.Surge,DS pI x.Wave.Sway,DS pI x.Wave.Yaw,I x.Mass,I x.Inertia,I x.Drag,I x.Spin]
def A6c(x:Dw):List D:=[I x.From,I x.To]
def A6f(x:B0):List D:=[I x.Kind,I x.Station,I x.Max,I x.Rate,I x.Cost,DS Ni x.Gn]
def d32(x:Gb):List D:=[I x.Bow,I x.Stern,DS F2 x.A2]
def Ad2(x:Ai):List D:=[I x.Kind,I x.A,I x.B]
def Be6(x:Ca):List D:=[I x.Rating,I x.Least,I x.Start]
def A6g(x:Bb):List D:=[I x.Load,I x.Least,I x.Dk,I x.Thruster,DS pI x.Needs]
def d37(x:Ae):List D:=[I x.Ap,DS B2 x.Ag,DS Cj x.Ad,DS Cp x.Aj,I x.Phase,I x.Ax]
def d39(x:Ff):List D:=[I x.Start,I x.Stop,I x.Delay]
def O9(x:Aa):List D:=[I x.Kind,I x.Number]
def Be5(x:Bl):List D:=[I x.From.Kind,I x.From.Number,I x.To.Kind,I x.To.Number]
def Ad1(x:Bf):List D:=[.p (.v (.string x.Name)),DS Az x.Parts]
def d44(x:Bw):List D:=[DS Az x.Parts,DS F1 x.Links,DS Gi x.Groups]
def A6e(x:Br):List D:=[I x.Cause,I x.Speed,I x.Stale,I x.Freeze]
def d47(x:G5):List D:=[I x.Near,I x.Sum,I x.Calm,I x.Point,I x.Drift,I x.Still,I x.MostSum,I x.MostForce,I x.MostYaw]
def d53(x:G0):List D:=[I x.Place.X,I x.Place.Y,I x.Yellow,I x.Red]
def d55(x:Eb):List D:=[.p (.v (.string x.Name)),I x.Class,I x.Circle.Place.X,I x.Circle.Place.Y,I x.Circle.Yellow,I x.Circle.Red,I x.Drift]
def Be4(x:Em):List D:=[.p (.v (.string x.Name)),I x.Ticks,I x.Tries,DS pI x.Needs]
def d60(x:Ar):List D:=[DS pI x.Hull.Wind.Surge,DS pI x.Hull.Wind.Sway,DS pI x.Hull.Wind.Yaw,DS pI x.Hull.Current.Surge,DS pI x.Hull.Current.Sway,DS pI x.Hull.Current.Yaw,DS pI x.Hull.Wave.Surge,DS pI x.Hull.Wave.Sway,DS pI x.Hull.Wave.Yaw,I x.Hull.Mass,I x.Hull.Inertia,I x.Hull.Drag,I x.Hull.Spin,I x.Ship.Bow,I x.Ship.Stern,DS F2 x.Ship.A2,I x.Board.Ap,DS B2 x.Board.Ag,DS Cj x.Board.Ad,DS Cp x.Board.Aj,I x.Board.Phase,I x.Board.Ax,I x.Table.Start,I x.Table.Stop,I x.Table.Delay,DS Az x.Design.Parts,DS F1 x.Design.Links,DS Gi x.Design.Groups,DS Dz x.References,I x.Gains.Near,I x.Gains.Sum,I x.Gains.Calm,I x.Gains.Point,I x.Gains.Drift,I x.Gains.Still,I x.Gains.MostSum,I x.Gains.MostForce,I x.Gains.MostYaw,I x.Target.Place.X,I x.Target.Place.Y,I x.Target.Heading,I x.Delay,.p (.v (.string x.Operation.Name)),I x.Operation.Class,I x.Operation.Circle.Place.X,I x.Operation.Circle.Place.Y,I x.Operation.Circle.Yellow,I x.Operation.Circle.Red,I x.Operation.Drift,DS Gh x.Sequence.Stages]
def Vj(x:Am):List D:=[I x.Time,I x.Kind,I x.Part.Kind,I x.Part.Number]
def d63(x:Jq):List D:=[I x.From,I x.Speed]
def d65(x:Gd):List D:=[I x.Wind.From,I x.Wind.Speed,I x.Current.From,I x.Current.Speed,I x.Wave.From,I x.Wave.Speed]
def d67(x:C8):List D:=[DS B_ x.Faults,I x.Weather.Wind.From,I x.Weather.Wind.Speed,I x.Weather.Current.From,I x.Weather.Current.Speed,I x.Weather.Wave.From,I x.Weather.Wave.Speed,I x.Ticks]
def A6d(x:An):List D:=[I x.State,I x.Since,I x.Ax,I x.Phase]
def d73(x:Af):List D:=[DS pB x.Al,DS B1 x.Ad,DS pI x.A0,DS Az x.Ao]
def Ako(x:Be):List D:=[I x.Kind,I x.Unit,I x.Value]
def Qd(x:B9):List D:=[I x.Time,I x.Kind,DS pI x.Words]
def d93(x:D_):List D:=[DS Fl x.Entries,.p (.v (.int .u64 x.Sum))]
def d95(x:B3):List D:=[I x.A5.Time,DS pB x.A5.Power.Al,DS B1 x.A5.Power.Ad,DS pI x.A5.Power.A0,DS Az x.A5.Power.Ao,DS F0 x.A5.Dx,DS qV x.A5.Ft,DS Az x.Ao,DS Uk x.Tracks,I x.Estimate.Point.X,I x.Estimate.Point.Y,I x.Estimate.Bound,I x.Estimate.Time,I x.Estimate.State,I x.Keeper.SumX,I x.Keeper.SumY,I x.Keeper.SumH,I x.Keeper.Last.X,I x.Keeper.Last.Y,I x.Keeper.Heading,Bo x.Keeper.Seen,DS Ul x.Thrusts,I x.Class.Level,I x.Class.Better,I x.Operation,I x.Progress.Time,DS qW x.Progress.Works,DS Ajf x.Alarms,DS Fl x.Book.Entries,.p (.v (.int .u64 x.Book.Sum))]
def A6b(x:Ii):List D:=[I x.e0,I x.e1,I x.e2,I x.e3,I x.e4,I x.e5,I x.e6,I x.e7,I x.e8,I x.e9,I x.e10,I x.e11]
def Be3(x:Hy):List D:=[I x.e0.e0,I x.e0.e1,I x.e0.e2,I x.e0.e3,I x.e0.e4,I x.e0.e5,I x.e0.e6,I x.e0.e7,I x.e0.e8,I x.e0.e9,I x.e0.e10,I x.e0.e11,I x.e1.e0,I x.e1.e1,I x.e1.e2,I x.e1.e3,I x.e1.e4,I x.e1.e5,I x.e1.e6,I x.e1.e7,I x.e1.e8,I x.e1.e9,I x.e1.e10,I x.e1.e11,I x.e2.e0,I x.e2.e1,I x.e2.e2,I x.e2.e3,I x.e2.e4,I x.e2.e5,I x.e2.e6,I x.e2.e7,I x.e2.e8,I x.e2.e9,I x.e2.e10,I x.e2.e11]
def Yc(x:Aq):List D:=[DS pI x.Ap,DS pI x.Ad,DS pI x.Aj]
end Go.Proofs.YtedojeimigneaaaGreatDoor
