import Derived.Test.YtiaaaghdkhnonaaGreatSlV
set_option linter.unusedVariables false
namespace Go.Proofs.YtiaaaghdkhnonaaGreat
open Go.SL
structure Ha where
 Surge:List Int
 Sway:List Int
 Yaw:List Int
 deriving Inhabited
def q28(x:Ha):List Pd:=[.s (x.Surge.map pI),.s (x.Sway.map pI),.s (x.Yaw.map pI)]
structure K9 where
 Wind:Ha
 Current:Ha
 Wave:Ha
 Mass:Int
 Inertia:Int
 Drag:Int
 Spin:Int
 deriving Inhabited
def q30(x:K9):List Pd:=[.s (x.Wind.Surge.map pI),.s (x.Wind.Sway.map pI),.s (x.Wind.Yaw.map pI),.s (x.Current.Surge.map pI),.s (x.Current.Sway.map pI),.s (x.Current.Yaw.map pI),.s (x.Wave.Surge.map pI),.s (x.Wave.Sway.map pI),.s (x.Wave.Yaw.map pI),.v (.int .i64 x.Mass),.v (.int .i64 x.Inertia),.v (.int .i64 x.Drag),.v (.int .i64 x.Spin)]
structure Cd where
 From:Int
 To:Int
 deriving Inhabited
def F6(x:Cd):List Pd:=[.v (.int .i64 x.From),.v (.int .i64 x.To)]
structure Ay where
 Kind:Int
 Station:Int
 Max:Int
 Rate:Int
 Cost:Int
 Cx:List Cd
 deriving Inhabited
def Ep(x:Ay):List Pd:=[.v (.int .i64 x.Kind),.v (.int .i64 x.Station),.v (.int .i64 x.Max),.v (.int .i64 x.Rate),.v (.int .i64 x.Cost),.s (x.Cx.map F6)]
structure B3 where
 Bow:Int
 Stern:Int
 A3:List Ay
 deriving Inhabited
def q33(x:B3):List Pd:=[.v (.int .i64 x.Bow),.v (.int .i64 x.Stern),.s (x.A3.map Ep)]
structure Ak where
 Kind:Int
 A:Int
 B:Int
 deriving Inhabited
def Bn(x:Ak):List Pd:=[.v (.int .i64 x.Kind),.v (.int .i64 x.A),.v (.int .i64 x.B)]
structure B5 where
 Rating:Int
 Least:Int
 Start:Int
 deriving Inhabited
def Ce(x:B5):List Pd:=[.v (.int .i64 x.Rating),.v (.int .i64 x.Least),.v (.int .i64 x.Start)]
structure A7 where
 Load:Int
 Least:Int
 B2:Int
 Thruster:Int
 Needs:List Int
 deriving Inhabited
def B4(x:A7):List Pd:=[.v (.int .i64 x.Load),.v (.int .i64 x.Least),.v (.int .i64 x.B2),.v (.int .i64 x.Thruster),.s (x.Needs.map pI)]
structure Aa where
 An:Int
 Ah:List Ak
 Ae:List B5
 Ag:List A7
 Phase:Int
 Ar:Int
 deriving Inhabited
def q38(x:Aa):List Pd:=[.v (.int .i64 x.An),.s (x.Ah.map Bn),.s (x.Ae.map Ce),.s (x.Ag.map B4),.v (.int .i64 x.Phase),.v (.int .i64 x.Ar)]
structure Bt where
 Start:Int
 Stop:Int
 Delay:Int
 deriving Inhabited
def q40(x:Bt):List Pd:=[.v (.int .i64 x.Start),.v (.int .i64 x.Stop),.v (.int .i64 x.Delay)]
structure Ab where
 Kind:Int
 Number:Int
 deriving Inhabited
def q88(x:Ab):List Pd:=[.v (.int .i64 x.Kind),.v (.int .i64 x.Number)]
structure Bc where
 From:Ab
 To:Ab
 deriving Inhabited
def Fq(x:Bc):List Pd:=[.v (.int .i64 x.From.Kind),.v (.int .i64 x.From.Number),.v (.int .i64 x.To.Kind),.v (.int .i64 x.To.Number)]
structure Bu where
 Name:ByteArray
 Parts:List Ab
 deriving Inhabited
def Hs(x:Bu):List Pd:=[.v (.string x.Name),.s (x.Parts.map q88)]
structure Ba where
 Parts:List Ab
 Links:List Bc
 Groups:List Bu
 deriving Inhabited
def q44(x:Ba):List Pd:=[.s (x.Parts.map q88),.s (x.Links.map Fq),.s (x.Groups.map Hs)]
structure Dk where
 Cause:Int
 Speed:Int
 Stale:Int
 Freeze:Int
 deriving Inhabited
def K1(x:Dk):List Pd:=[.v (.int .i64 x.Cause),.v (.int .i64 x.Speed),.v (.int .i64 x.Stale),.v (.int .i64 x.Freeze)]
structure L4 where
 Near:Int
 Sum:Int
 Calm:Int
 Point:Int
 Drift:Int
 Still:Int
 MostSum:Int
 MostForce:Int
 MostYaw:Int
 deriving Inhabited
def q47(x:L4):List Pd:=[.v (.int .i64 x.Near),.v (.int .i64 x.Sum),.v (.int .i64 x.Calm),.v (.int .i64 x.Point),.v (.int .i64 x.Drift),.v (.int .i64 x.Still),.v (.int .i64 x.MostSum),.v (.int .i64 x.MostForce),.v (.int .i64 x.MostYaw)]
structure Oq where
 X:Int
 Y:Int
 deriving Inhabited
def q49(x:Oq):List Pd:=[.v (.int .i64 x.X),.v (.int .i64 x.Y)]
structure R7 where
 Place:Oq
 Heading:Int
 deriving Inhabited
def q51(x:R7):List Pd:=[.v (.int .i64 x.Place.X),.v (.int .i64 x.Place.Y),.v (.int .i64 x.Heading)]
structure Kr where
 Place:Oq
 Yellow:Int
 Red:Int
 deriving Inhabited
def q53(x:Kr):List Pd:=[.v (.int .i64 x.Place.X),.v (.int .i64 x.Place.Y),.v (.int .i64 x.Yellow),.v (.int .i64 x.Red)]
structure Hm where
 Name:ByteArray
 Class:Int
 Circle:Kr
 Drift:Int
 deriving Inhabited
def q55(x:Hm):List Pd:=[.v (.string x.Name),.v (.int .i64 x.Class),.v (.int .i64 x.Circle.Place.X),.v (.int .i64 x.Circle.Place.Y),.v (.int .i64 x.Circle.Yellow),.v (.int .i64 x.Circle.Red),.v (.int .i64 x.Drift)]
structure Ig where
 Name:ByteArray
 Ticks:Int
 Tries:Int
 Needs:List Int
 deriving Inhabited
def qE(x:Ig):List Pd:=[.v (.string x.Name),.v (.int .i64 x.Ticks),.v (.int .i64 x.Tries),.s (x.Needs.map pI)]
structure Kq where
 Stages:List Ig
 deriving Inhabited
def q58(x:Kq):List Pd:=[.s (x.Stages.map qE)]
structure A5 where
 Hull:K9
 Ship:B3
 Board:Aa
 Table:Bt
 Design:Ba
 References:List Dk
 Gains:L4
 Target:R7
 Delay:Int
 Operation:Hm
 Sequence:Kq
 deriving Inhabited
def q60(x:A5):List Pd:=[.s (x.Hull.Wind.Surge.map pI),.s (x.Hull.Wind.Sway.map pI),.s (x.Hull.Wind.Yaw.map pI),.s (x.Hull.Current.Surge.map pI),.s (x.Hull.Current.Sway.map pI),.s (x.Hull.Current.Yaw.map pI),.s (x.Hull.Wave.Surge.map pI),.s (x.Hull.Wave.Sway.map pI),.s (x.Hull.Wave.Yaw.map pI),.v (.int .i64 x.Hull.Mass),.v (.int .i64 x.Hull.Inertia),.v (.int .i64 x.Hull.Drag),.v (.int .i64 x.Hull.Spin),.v (.int .i64 x.Ship.Bow),.v (.int .i64 x.Ship.Stern),.s (x.Ship.A3.map Ep),.v (.int .i64 x.Board.An),.s (x.Board.Ah.map Bn),.s (x.Board.Ae.map Ce),.s (x.Board.Ag.map B4),.v (.int .i64 x.Board.Phase),.v (.int .i64 x.Board.Ar),.v (.int .i64 x.Table.Start),.v (.int .i64 x.Table.Stop),.v (.int .i64 x.Table.Delay),.s (x.Design.Parts.map q88),.s (x.Design.Links.map Fq),.s (x.Design.Groups.map Hs),.s (x.References.map K1),.v (.int .i64 x.Gains.Near),.v (.int .i64 x.Gains.Sum),.v (.int .i64 x.Gains.Calm),.v (.int .i64 x.Gains.Point),.v (.int .i64 x.Gains.Drift),.v (.int .i64 x.Gains.Still),.v (.int .i64 x.Gains.MostSum),.v (.int .i64 x.Gains.MostForce),.v (.int .i64 x.Gains.MostYaw),.v (.int .i64 x.Target.Place.X),.v (.int .i64 x.Target.Place.Y),.v (.int .i64 x.Target.Heading),.v (.int .i64 x.Delay),.v (.string x.Operation.Name),.v (.int .i64 x.Operation.Class),.v (.int .i64 x.Operation.Circle.Place.X),.v (.int .i64 x.Operation.Circle.Place.Y),.v (.int .i64 x.Operation.Circle.Yellow),.v (.int .i64 x.Operation.Circle.Red),.v (.int .i64 x.Operation.Drift),.s (x.Sequence.Stages.map qE)]
structure Aj where
 State:Int
 Since:Int
 Ar:Int
 Phase:Int
 deriving Inhabited
def Bg(x:Aj):List Pd:=[.v (.int .i64 x.State),.v (.int .i64 x.Since),.v (.int .i64 x.Ar),.v (.int .i64 x.Phase)]
structure Ad where
 Ai:List Bool
 Ae:List Aj
 Ao:List Int
 Al:List Ab
 deriving Inhabited
def q64(x:Ad):List Pd:=[.s (x.Ai.map pB),.s (x.Ae.map Bg),.s (x.Ao.map pI),.s (x.Al.map q88)]
structure A8 where
 High:Int
 Low:Int
 deriving Inhabited
def Cq(x:A8):List Pd:=[.v (.int .i64 x.High),.v (.int .i64 x.Low)]
structure As where
 Kind:Int
 Unit:Int
 Value:Int
 deriving Inhabited
def Ds(x:As):List Pd:=[.v (.int .i64 x.Kind),.v (.int .i64 x.Unit),.v (.int .i64 x.Value)]
structure Bq where
 Time:Int
 Act:As
 Err:Int
 deriving Inhabited
def Eg(x:Bq):List Pd:=[.v (.int .i64 x.Time),.v (.int .i64 x.Act.Kind),.v (.int .i64 x.Act.Unit),.v (.int .i64 x.Act.Value),.v (.int .i64 x.Err)]
structure Am where
 Time:Int
 Power:Ad
 A_:List A8
 Be:List Bq
 deriving Inhabited
def q68(x:Am):List Pd:=[.v (.int .i64 x.Time),.s (x.Power.Ai.map pB),.s (x.Power.Ae.map Bg),.s (x.Power.Ao.map pI),.s (x.Power.Al.map q88),.s (x.A_.map Cq),.s (x.Be.map Eg)]
structure Aq where
 An:List Int
 Ae:List Int
 Ag:List Int
 deriving Inhabited
def Br(x:Aq):List Pd:=[.s (x.An.map pI),.s (x.Ae.map pI),.s (x.Ag.map pI)]
structure A4 where
 Surge:Int
 Sway:Int
 Yaw:Int
 deriving Inhabited
def q81(x:A4):List Pd:=[.v (.int .i64 x.Surge),.v (.int .i64 x.Sway),.v (.int .i64 x.Yaw)]
structure Cm where
 Bi:Am
 Ap:Aa
 events:List Bq
 states:List Ad
 deriving Inhabited
def A5d(x:Cm):List Pd:=[.v (.int .i64 x.Bi.Time),.s (x.Bi.Power.Ai.map pB),.s (x.Bi.Power.Ae.map Bg),.s (x.Bi.Power.Ao.map pI),.s (x.Bi.Power.Al.map q88),.s (x.Bi.A_.map Cq),.s (x.Bi.Be.map Eg),.v (.int .i64 x.Ap.An),.s (x.Ap.Ah.map Bn),.s (x.Ap.Ae.map Ce),.s (x.Ap.Ag.map B4),.v (.int .i64 x.Ap.Phase),.v (.int .i64 x.Ap.Ar),.s (x.events.map Eg),.s (x.states.map q64)]
structure Bb where
 Ap:Aa
 Av:Ad
 time:Int
 deriving Inhabited
def A5b(x:Bb):List Pd:=[.v (.int .i64 x.Ap.An),.s (x.Ap.Ah.map Bn),.s (x.Ap.Ae.map Ce),.s (x.Ap.Ag.map B4),.v (.int .i64 x.Ap.Phase),.v (.int .i64 x.Ap.Ar),.s (x.Av.Ai.map pB),.s (x.Av.Ae.map Bg),.s (x.Av.Ao.map pI),.s (x.Av.Al.map q88),.v (.int .i64 x.time)]
structure A2 where
 Ap:Aa
 Av:Ad
 acts:List As
 deriving Inhabited
def A5a(x:A2):List Pd:=[.v (.int .i64 x.Ap.An),.s (x.Ap.Ah.map Bn),.s (x.Ap.Ae.map Ce),.s (x.Ap.Ag.map B4),.v (.int .i64 x.Ap.Phase),.v (.int .i64 x.Ap.Ar),.s (x.Av.Ai.map pB),.s (x.Av.Ae.map Bg),.s (x.Av.Ao.map pI),.s (x.Av.Al.map q88),.s (x.acts.map Ds)]
structure Bz where
 X:Int
 Y:Int
 deriving Inhabited
def Eo(x:Bz):List Pd:=[.v (.int .i64 x.X),.v (.int .i64 x.Y)]
structure Cg where
 Surge:Int
 Bow:Int
 Stern:Int
 deriving Inhabited
def A5e(x:Cg):List Pd:=[.v (.int .i64 x.Surge),.v (.int .i64 x.Bow),.v (.int .i64 x.Stern)]
structure Ir where
 Thrusts:List Bz
 Given:Cg
 Missing:Cg
 deriving Inhabited
def A5c(x:Ir):List Pd:=[.s (x.Thrusts.map Eo),.v (.int .i64 x.Given.Surge),.v (.int .i64 x.Given.Bow),.v (.int .i64 x.Given.Stern),.v (.int .i64 x.Missing.Surge),.v (.int .i64 x.Missing.Bow),.v (.int .i64 x.Missing.Stern)]
structure By where
 thrusters:List Ay
 last:List Bz
 deriving Inhabited
def A49(x:By):List Pd:=[.s (x.thrusters.map Ep),.s (x.last.map Eo)]
structure Bp where
 Low:Int
 High:Int
 Cost:Int
 deriving Inhabited
def G3(x:Bp):List Pd:=[.v (.int .i64 x.Low),.v (.int .i64 x.High),.v (.int .i64 x.Cost)]
structure Bd where
 Part:Ab
 Holds:Bool
 deriving Inhabited
def q98(x:Bd):List Pd:=[.v (.int .i64 x.Part.Kind),.v (.int .i64 x.Part.Number),.v (.bool x.Holds)]
structure Af where
 L:List Int
 At:Int
 deriving Inhabited
def A5f(x:Af):List Pd:=[.s (x.L.map pI),.v (.int .i64 x.At)]
def d28(x:Ha):List D:=[DS pI x.Surge,DS pI x.Sway,DS pI x.Yaw]
def d30(x:K9):List D:=[DS pI x.Wind.Surge,DS pI x.Wind.Sway,DS pI x.Wind.Yaw,DS pI x.Current.Surge,DS pI x.Current.Sway,DS pI x.Current.Yaw,DS pI x.Wave.Surge,DS pI x.Wave.Sway,DS pI x.Wave.Yaw,I x.Mass,I x.Inertia,I x.Drag,I x.Spin]
def qZ(x:Cd):List D:=[I x.From,I x.To]
def Ix(x:Ay):List D:=[I x.Kind,I x.Station,I x.Max,I x.Rate,I x.Cost,DS F6 x.Cx]
def d33(x:B3):List D:=[I x.Bow,I x.Stern,DS Ep x.A3]
def Ade(x:Ak):List D:=[I x.Kind,I x.A,I x.B]
def A45(x:B5):List D:=[I x.Rating,I x.Least,I x.Start]
def A0u(x:A7):List D:=[I x.Load,I x.Least,I x.B2,I x.Thruster,DS pI x.Needs]
def d38(x:Aa):List D:=[I x.An,DS Bn x.Ah,DS Ce x.Ae,DS B4 x.Ag,I x.Phase,I x.Ar]
def d40(x:Bt):List D:=[I x.Start,I x.Stop,I x.Delay]
def d88(x:Ab):List D:=[I x.Kind,I x.Number]
def A0v(x:Bc):List D:=[I x.From.Kind,I x.From.Number,I x.To.Kind,I x.To.Number]
def Adf(x:Bu):List D:=[.p (.v (.string x.Name)),DS q88 x.Parts]
def d44(x:Ba):List D:=[DS q88 x.Parts,DS Fq x.Links,DS Hs x.Groups]
def A44(x:Dk):List D:=[I x.Cause,I x.Speed,I x.Stale,I x.Freeze]
def d47(x:L4):List D:=[I x.Near,I x.Sum,I x.Calm,I x.Point,I x.Drift,I x.Still,I x.MostSum,I x.MostForce,I x.MostYaw]
def d49(x:Oq):List D:=[I x.X,I x.Y]
def d51(x:R7):List D:=[I x.Place.X,I x.Place.Y,I x.Heading]
def d53(x:Kr):List D:=[I x.Place.X,I x.Place.Y,I x.Yellow,I x.Red]
def d55(x:Hm):List D:=[.p (.v (.string x.Name)),I x.Class,I x.Circle.Place.X,I x.Circle.Place.Y,I x.Circle.Yellow,I x.Circle.Red,I x.Drift]
def A5j(x:Ig):List D:=[.p (.v (.string x.Name)),I x.Ticks,I x.Tries,DS pI x.Needs]
def d60(x:A5):List D:=[DS pI x.Hull.Wind.Surge,DS pI x.Hull.Wind.Sway,DS pI x.Hull.Wind.Yaw,DS pI x.Hull.Current.Surge,DS pI x.Hull.Current.Sway,DS pI x.Hull.Current.Yaw,DS pI x.Hull.Wave.Surge,DS pI x.Hull.Wave.Sway,DS pI x.Hull.Wave.Yaw,I x.Hull.Mass,I x.Hull.Inertia,I x.Hull.Drag,I x.Hull.Spin,I x.Ship.Bow,I x.Ship.Stern,DS Ep x.Ship.A3,I x.Board.An,DS Bn x.Board.Ah,DS Ce x.Board.Ae,DS B4 x.Board.Ag,I x.Board.Phase,I x.Board.Ar,I x.Table.Start,I x.Table.Stop,I x.Table.Delay,DS q88 x.Design.Parts,DS Fq x.Design.Links,DS Hs x.Design.Groups,DS K1 x.References,I x.Gains.Near,I x.Gains.Sum,I x.Gains.Calm,I x.Gains.Point,I x.Gains.Drift,I x.Gains.Still,I x.Gains.MostSum,I x.Gains.MostForce,I x.Gains.MostYaw,I x.Target.Place.X,I x.Target.Place.Y,I x.Target.Heading,I x.Delay,.p (.v (.string x.Operation.Name)),I x.Operation.Class,I x.Operation.Circle.Place.X,I x.Operation.Circle.Place.Y,I x.Operation.Circle.Yellow,I x.Operation.Circle.Red,I x.Operation.Drift,DS qE x.Sequence.Stages]
def Xf(x:Aj):List D:=[I x.State,I x.Since,I x.Ar,I x.Phase]
def d64(x:Ad):List D:=[DS pB x.Ai,DS Bg x.Ae,DS pI x.Ao,DS q88 x.Al]
def Atn(x:A8):List D:=[I x.High,I x.Low]
def Nw(x:As):List D:=[I x.Kind,I x.Unit,I x.Value]
def A5l(x:Bq):List D:=[I x.Time,I x.Act.Kind,I x.Act.Unit,I x.Act.Value,I x.Err]
def d68(x:Am):List D:=[I x.Time,DS pB x.Power.Ai,DS Bg x.Power.Ae,DS pI x.Power.Ao,DS q88 x.Power.Al,DS Cq x.A_,DS Eg x.Be]
def Ud(x:Aq):List D:=[DS pI x.An,DS pI x.Ae,DS pI x.Ag]
def d81(x:A4):List D:=[I x.Surge,I x.Sway,I x.Yaw]
def A5m(x:Cm):List D:=[I x.Bi.Time,DS pB x.Bi.Power.Ai,DS Bg x.Bi.Power.Ae,DS pI x.Bi.Power.Ao,DS q88 x.Bi.Power.Al,DS Cq x.Bi.A_,DS Eg x.Bi.Be,I x.Ap.An,DS Bn x.Ap.Ah,DS Ce x.Ap.Ae,DS B4 x.Ap.Ag,I x.Ap.Phase,I x.Ap.Ar,DS Eg x.events,DS q64 x.states]
def A5h(x:Bb):List D:=[I x.Ap.An,DS Bn x.Ap.Ah,DS Ce x.Ap.Ae,DS B4 x.Ap.Ag,I x.Ap.Phase,I x.Ap.Ar,DS pB x.Av.Ai,DS Bg x.Av.Ae,DS pI x.Av.Ao,DS q88 x.Av.Al,I x.time]
def A5g(x:A2):List D:=[I x.Ap.An,DS Bn x.Ap.Ah,DS Ce x.Ap.Ae,DS B4 x.Ap.Ag,I x.Ap.Phase,I x.Ap.Ar,DS pB x.Av.Ai,DS Bg x.Av.Ae,DS pI x.Av.Ao,DS q88 x.Av.Al,DS Ds x.acts]
def A5i(x:Bz):List D:=[I x.X,I x.Y]
def Nv(x:Cg):List D:=[I x.Surge,I x.Bow,I x.Stern]
def A5k(x:Ir):List D:=[DS Eo x.Thrusts,I x.Given.Surge,I x.Given.Bow,I x.Given.Stern,I x.Missing.Surge,I x.Missing.Bow,I x.Missing.Stern]
def Alb(x:By):List D:=[DS Ep x.thrusters,DS Eo x.last]
def Atm(x:Bp):List D:=[I x.Low,I x.High,I x.Cost]
def d98(x:Bd):List D:=[I x.Part.Kind,I x.Part.Number,Bo x.Holds]
def B8(x:Af):List D:=[DS pI x.L,I x.At]
end Go.Proofs.YtiaaaghdkhnonaaGreat
