import Derived.Test.YtiaaaghdkhnonaaGreatSlV
set_option linter.unusedVariables false
namespace Go.Proofs.YtiaaaghdkhnonaaGreat
open Go.SL
structure Hi where
 Surge:List Int
 Sway:List Int
 Yaw:List Int
 deriving Inhabited
def q28(x:Hi):List Pd:=[.s (x.Surge.map pI),.s (x.Sway.map pI),.s (x.Yaw.map pI)]
structure Lf where
 Wind:Hi
 Current:Hi
 Wave:Hi
 Mass:Int
 Inertia:Int
 Drag:Int
 Spin:Int
 deriving Inhabited
def q30(x:Lf):List Pd:=[.s (x.Wind.Surge.map pI),.s (x.Wind.Sway.map pI),.s (x.Wind.Yaw.map pI),.s (x.Current.Surge.map pI),.s (x.Current.Sway.map pI),.s (x.Current.Yaw.map pI),.s (x.Wave.Surge.map pI),.s (x.Wave.Sway.map pI),.s (x.Wave.Yaw.map pI),.v (.int .i64 x.Mass),.v (.int .i64 x.Inertia),.v (.int .i64 x.Drag),.v (.int .i64 x.Spin)]
structure Ce where
 From:Int
 To:Int
 deriving Inhabited
def Ga(x:Ce):List Pd:=[.v (.int .i64 x.From),.v (.int .i64 x.To)]
structure Ay where
 Kind:Int
 Station:Int
 Max:Int
 Rate:Int
 Cost:Int
 Cy:List Ce
 deriving Inhabited
def Eu(x:Ay):List Pd:=[.v (.int .i64 x.Kind),.v (.int .i64 x.Station),.v (.int .i64 x.Max),.v (.int .i64 x.Rate),.v (.int .i64 x.Cost),.s (x.Cy.map Ga)]
structure B3 where
 Bow:Int
 Stern:Int
 A4:List Ay
 deriving Inhabited
def q33(x:B3):List Pd:=[.v (.int .i64 x.Bow),.v (.int .i64 x.Stern),.s (x.A4.map Eu)]
structure Ak where
 Kind:Int
 A:Int
 B:Int
 deriving Inhabited
def Bt(x:Ak):List Pd:=[.v (.int .i64 x.Kind),.v (.int .i64 x.A),.v (.int .i64 x.B)]
structure B5 where
 Rating:Int
 Least:Int
 Start:Int
 deriving Inhabited
def Cf(x:B5):List Pd:=[.v (.int .i64 x.Rating),.v (.int .i64 x.Least),.v (.int .i64 x.Start)]
structure A7 where
 Load:Int
 Least:Int
 B2:Int
 Thruster:Int
 Needs:List Int
 deriving Inhabited
def B4(x:A7):List Pd:=[.v (.int .i64 x.Load),.v (.int .i64 x.Least),.v (.int .i64 x.B2),.v (.int .i64 x.Thruster),.s (x.Needs.map pI)]
structure Ab where
 Am:Int
 Ah:List Ak
 Ae:List B5
 Ag:List A7
 Phase:Int
 Aq:Int
 deriving Inhabited
def q38(x:Ab):List Pd:=[.v (.int .i64 x.Am),.s (x.Ah.map Bt),.s (x.Ae.map Cf),.s (x.Ag.map B4),.v (.int .i64 x.Phase),.v (.int .i64 x.Aq)]
structure Bu where
 Start:Int
 Stop:Int
 Delay:Int
 deriving Inhabited
def q40(x:Bu):List Pd:=[.v (.int .i64 x.Start),.v (.int .i64 x.Stop),.v (.int .i64 x.Delay)]
structure Aa where
 Kind:Int
 Number:Int
 deriving Inhabited
def q88(x:Aa):List Pd:=[.v (.int .i64 x.Kind),.v (.int .i64 x.Number)]
structure A6 where
 From:Aa
 To:Aa
 deriving Inhabited
def Et(x:A6):List Pd:=[.v (.int .i64 x.From.Kind),.v (.int .i64 x.From.Number),.v (.int .i64 x.To.Kind),.v (.int .i64 x.To.Number)]
structure Bp where
 Name:ByteArray
 Parts:List Aa
 deriving Inhabited
def Gl(x:Bp):List Pd:=[.v (.string x.Name),.s (x.Parts.map q88)]
structure A3 where
 Parts:List Aa
 Links:List A6
 Groups:List Bp
 deriving Inhabited
def q44(x:A3):List Pd:=[.s (x.Parts.map q88),.s (x.Links.map Et),.s (x.Groups.map Gl)]
structure Dm where
 Cause:Int
 Speed:Int
 Stale:Int
 Freeze:Int
 deriving Inhabited
def K8(x:Dm):List Pd:=[.v (.int .i64 x.Cause),.v (.int .i64 x.Speed),.v (.int .i64 x.Stale),.v (.int .i64 x.Freeze)]
structure Mb where
 Near:Int
 Sum:Int
 Calm:Int
 Point:Int
 Drift:Int
 Still:Int
 MostSum:Int
 MostForce:Int
 MostYaw:Int
 deriving Inhabited
def q47(x:Mb):List Pd:=[.v (.int .i64 x.Near),.v (.int .i64 x.Sum),.v (.int .i64 x.Calm),.v (.int .i64 x.Point),.v (.int .i64 x.Drift),.v (.int .i64 x.Still),.v (.int .i64 x.MostSum),.v (.int .i64 x.MostForce),.v (.int .i64 x.MostYaw)]
structure O1 where
 X:Int
 Y:Int
 deriving Inhabited
def q49(x:O1):List Pd:=[.v (.int .i64 x.X),.v (.int .i64 x.Y)]
structure Sj where
 Place:O1
 Heading:Int
 deriving Inhabited
def q51(x:Sj):List Pd:=[.v (.int .i64 x.Place.X),.v (.int .i64 x.Place.Y),.v (.int .i64 x.Heading)]
structure Kz where
 Place:O1
 Yellow:Int
 Red:Int
 deriving Inhabited
def q53(x:Kz):List Pd:=[.v (.int .i64 x.Place.X),.v (.int .i64 x.Place.Y),.v (.int .i64 x.Yellow),.v (.int .i64 x.Red)]
structure Hw where
 Name:ByteArray
 Class:Int
 Circle:Kz
 Drift:Int
 deriving Inhabited
def q55(x:Hw):List Pd:=[.v (.string x.Name),.v (.int .i64 x.Class),.v (.int .i64 x.Circle.Place.X),.v (.int .i64 x.Circle.Place.Y),.v (.int .i64 x.Circle.Yellow),.v (.int .i64 x.Circle.Red),.v (.int .i64 x.Drift)]
structure Iq where
 Name:ByteArray
 Ticks:Int
 Tries:Int
 Needs:List Int
 deriving Inhabited
def qJ(x:Iq):List Pd:=[.v (.string x.Name),.v (.int .i64 x.Ticks),.v (.int .i64 x.Tries),.s (x.Needs.map pI)]
structure Ky where
 Stages:List Iq
 deriving Inhabited
def q58(x:Ky):List Pd:=[.s (x.Stages.map qJ)]
structure A9 where
 Hull:Lf
 Ship:B3
 Board:Ab
 Table:Bu
 Design:A3
 References:List Dm
 Gains:Mb
 Target:Sj
 Delay:Int
 Operation:Hw
 Sequence:Ky
 deriving Inhabited
def q60(x:A9):List Pd:=[.s (x.Hull.Wind.Surge.map pI),.s (x.Hull.Wind.Sway.map pI),.s (x.Hull.Wind.Yaw.map pI),.s (x.Hull.Current.Surge.map pI),.s (x.Hull.Current.Sway.map pI),.s (x.Hull.Current.Yaw.map pI),.s (x.Hull.Wave.Surge.map pI),.s (x.Hull.Wave.Sway.map pI),.s (x.Hull.Wave.Yaw.map pI),.v (.int .i64 x.Hull.Mass),.v (.int .i64 x.Hull.Inertia),.v (.int .i64 x.Hull.Drag),.v (.int .i64 x.Hull.Spin),.v (.int .i64 x.Ship.Bow),.v (.int .i64 x.Ship.Stern),.s (x.Ship.A4.map Eu),.v (.int .i64 x.Board.Am),.s (x.Board.Ah.map Bt),.s (x.Board.Ae.map Cf),.s (x.Board.Ag.map B4),.v (.int .i64 x.Board.Phase),.v (.int .i64 x.Board.Aq),.v (.int .i64 x.Table.Start),.v (.int .i64 x.Table.Stop),.v (.int .i64 x.Table.Delay),.s (x.Design.Parts.map q88),.s (x.Design.Links.map Et),.s (x.Design.Groups.map Gl),.s (x.References.map K8),.v (.int .i64 x.Gains.Near),.v (.int .i64 x.Gains.Sum),.v (.int .i64 x.Gains.Calm),.v (.int .i64 x.Gains.Point),.v (.int .i64 x.Gains.Drift),.v (.int .i64 x.Gains.Still),.v (.int .i64 x.Gains.MostSum),.v (.int .i64 x.Gains.MostForce),.v (.int .i64 x.Gains.MostYaw),.v (.int .i64 x.Target.Place.X),.v (.int .i64 x.Target.Place.Y),.v (.int .i64 x.Target.Heading),.v (.int .i64 x.Delay),.v (.string x.Operation.Name),.v (.int .i64 x.Operation.Class),.v (.int .i64 x.Operation.Circle.Place.X),.v (.int .i64 x.Operation.Circle.Place.Y),.v (.int .i64 x.Operation.Circle.Yellow),.v (.int .i64 x.Operation.Circle.Red),.v (.int .i64 x.Operation.Drift),.s (x.Sequence.Stages.map qJ)]
structure Aj where
 State:Int
 Since:Int
 Aq:Int
 Phase:Int
 deriving Inhabited
def Bg(x:Aj):List Pd:=[.v (.int .i64 x.State),.v (.int .i64 x.Since),.v (.int .i64 x.Aq),.v (.int .i64 x.Phase)]
structure Ad where
 Ai:List Bool
 Ae:List Aj
 An:List Int
 Al:List Aa
 deriving Inhabited
def q64(x:Ad):List Pd:=[.s (x.Ai.map pB),.s (x.Ae.map Bg),.s (x.An.map pI),.s (x.Al.map q88)]
structure A_ where
 High:Int
 Low:Int
 deriving Inhabited
def Cs(x:A_):List Pd:=[.v (.int .i64 x.High),.v (.int .i64 x.Low)]
structure Aw where
 Kind:Int
 Unit:Int
 Value:Int
 deriving Inhabited
def E9(x:Aw):List Pd:=[.v (.int .i64 x.Kind),.v (.int .i64 x.Unit),.v (.int .i64 x.Value)]
structure Bv where
 Time:Int
 Act:Aw
 Err:Int
 deriving Inhabited
def Es(x:Bv):List Pd:=[.v (.int .i64 x.Time),.v (.int .i64 x.Act.Kind),.v (.int .i64 x.Act.Unit),.v (.int .i64 x.Act.Value),.v (.int .i64 x.Err)]
structure Ar where
 Time:Int
 Power:Ad
 Ba:List A_
 Bh:List Bv
 deriving Inhabited
def q68(x:Ar):List Pd:=[.v (.int .i64 x.Time),.s (x.Power.Ai.map pB),.s (x.Power.Ae.map Bg),.s (x.Power.An.map pI),.s (x.Power.Al.map q88),.s (x.Ba.map Cs),.s (x.Bh.map Es)]
structure Ap where
 Am:List Int
 Ae:List Int
 Ag:List Int
 deriving Inhabited
def Bs(x:Ap):List Pd:=[.s (x.Am.map pI),.s (x.Ae.map pI),.s (x.Ag.map pI)]
structure Bd where
 Surge:Int
 Sway:Int
 Yaw:Int
 deriving Inhabited
def q81(x:Bd):List Pd:=[.v (.int .i64 x.Surge),.v (.int .i64 x.Sway),.v (.int .i64 x.Yaw)]
structure Cm where
 Bi:Ar
 Ao:Ab
 events:List Bv
 states:List Ad
 deriving Inhabited
def A51(x:Cm):List Pd:=[.v (.int .i64 x.Bi.Time),.s (x.Bi.Power.Ai.map pB),.s (x.Bi.Power.Ae.map Bg),.s (x.Bi.Power.An.map pI),.s (x.Bi.Power.Al.map q88),.s (x.Bi.Ba.map Cs),.s (x.Bi.Bh.map Es),.v (.int .i64 x.Ao.Am),.s (x.Ao.Ah.map Bt),.s (x.Ao.Ae.map Cf),.s (x.Ao.Ag.map B4),.v (.int .i64 x.Ao.Phase),.v (.int .i64 x.Ao.Aq),.s (x.events.map Es),.s (x.states.map q64)]
structure Bc where
 Ao:Ab
 Au:Ad
 time:Int
 deriving Inhabited
def A5z(x:Bc):List Pd:=[.v (.int .i64 x.Ao.Am),.s (x.Ao.Ah.map Bt),.s (x.Ao.Ae.map Cf),.s (x.Ao.Ag.map B4),.v (.int .i64 x.Ao.Phase),.v (.int .i64 x.Ao.Aq),.s (x.Au.Ai.map pB),.s (x.Au.Ae.map Bg),.s (x.Au.An.map pI),.s (x.Au.Al.map q88),.v (.int .i64 x.time)]
structure A2 where
 Ao:Ab
 Au:Ad
 acts:List Aw
 deriving Inhabited
def A5y(x:A2):List Pd:=[.v (.int .i64 x.Ao.Am),.s (x.Ao.Ah.map Bt),.s (x.Ao.Ae.map Cf),.s (x.Ao.Ag.map B4),.v (.int .i64 x.Ao.Phase),.v (.int .i64 x.Ao.Aq),.s (x.Au.Ai.map pB),.s (x.Au.Ae.map Bg),.s (x.Au.An.map pI),.s (x.Au.Al.map q88),.s (x.acts.map E9)]
structure Bz where
 X:Int
 Y:Int
 deriving Inhabited
def Er(x:Bz):List Pd:=[.v (.int .i64 x.X),.v (.int .i64 x.Y)]
structure Ch where
 Surge:Int
 Bow:Int
 Stern:Int
 deriving Inhabited
def A52(x:Ch):List Pd:=[.v (.int .i64 x.Surge),.v (.int .i64 x.Bow),.v (.int .i64 x.Stern)]
structure I5 where
 Thrusts:List Bz
 Given:Ch
 Missing:Ch
 deriving Inhabited
def A50(x:I5):List Pd:=[.s (x.Thrusts.map Er),.v (.int .i64 x.Given.Surge),.v (.int .i64 x.Given.Bow),.v (.int .i64 x.Given.Stern),.v (.int .i64 x.Missing.Surge),.v (.int .i64 x.Missing.Bow),.v (.int .i64 x.Missing.Stern)]
structure By where
 thrusters:List Ay
 last:List Bz
 deriving Inhabited
def A5x(x:By):List Pd:=[.s (x.thrusters.map Eu),.s (x.last.map Er)]
structure Br where
 Low:Int
 High:Int
 Cost:Int
 deriving Inhabited
def G7(x:Br):List Pd:=[.v (.int .i64 x.Low),.v (.int .i64 x.High),.v (.int .i64 x.Cost)]
structure Bb where
 Part:Aa
 Holds:Bool
 deriving Inhabited
def q98(x:Bb):List Pd:=[.v (.int .i64 x.Part.Kind),.v (.int .i64 x.Part.Number),.v (.bool x.Holds)]
structure Af where
 L:List Int
 At:Int
 deriving Inhabited
def A53(x:Af):List Pd:=[.s (x.L.map pI),.v (.int .i64 x.At)]
def d28(x:Hi):List D:=[DS pI x.Surge,DS pI x.Sway,DS pI x.Yaw]
def d30(x:Lf):List D:=[DS pI x.Wind.Surge,DS pI x.Wind.Sway,DS pI x.Wind.Yaw,DS pI x.Current.Surge,DS pI x.Current.Sway,DS pI x.Current.Yaw,DS pI x.Wave.Surge,DS pI x.Wave.Sway,DS pI x.Wave.Yaw,I x.Mass,I x.Inertia,I x.Drag,I x.Spin]
def uI(x:Ce):List D:=[I x.From,I x.To]
def I_(x:Ay):List D:=[I x.Kind,I x.Station,I x.Max,I x.Rate,I x.Cost,DS Ga x.Cy]
def d33(x:B3):List D:=[I x.Bow,I x.Stern,DS Eu x.A4]
def Adl(x:Ak):List D:=[I x.Kind,I x.A,I x.B]
def A5s(x:B5):List D:=[I x.Rating,I x.Least,I x.Start]
def A1k(x:A7):List D:=[I x.Load,I x.Least,I x.B2,I x.Thruster,DS pI x.Needs]
def d38(x:Ab):List D:=[I x.Am,DS Bt x.Ah,DS Cf x.Ae,DS B4 x.Ag,I x.Phase,I x.Aq]
def d40(x:Bu):List D:=[I x.Start,I x.Stop,I x.Delay]
def d88(x:Aa):List D:=[I x.Kind,I x.Number]
def A1l(x:A6):List D:=[I x.From.Kind,I x.From.Number,I x.To.Kind,I x.To.Number]
def Adm(x:Bp):List D:=[.p (.v (.string x.Name)),DS q88 x.Parts]
def d44(x:A3):List D:=[DS q88 x.Parts,DS Et x.Links,DS Gl x.Groups]
def A5r(x:Dm):List D:=[I x.Cause,I x.Speed,I x.Stale,I x.Freeze]
def d47(x:Mb):List D:=[I x.Near,I x.Sum,I x.Calm,I x.Point,I x.Drift,I x.Still,I x.MostSum,I x.MostForce,I x.MostYaw]
def d49(x:O1):List D:=[I x.X,I x.Y]
def d51(x:Sj):List D:=[I x.Place.X,I x.Place.Y,I x.Heading]
def d53(x:Kz):List D:=[I x.Place.X,I x.Place.Y,I x.Yellow,I x.Red]
def d55(x:Hw):List D:=[.p (.v (.string x.Name)),I x.Class,I x.Circle.Place.X,I x.Circle.Place.Y,I x.Circle.Yellow,I x.Circle.Red,I x.Drift]
def A57(x:Iq):List D:=[.p (.v (.string x.Name)),I x.Ticks,I x.Tries,DS pI x.Needs]
def d60(x:A9):List D:=[DS pI x.Hull.Wind.Surge,DS pI x.Hull.Wind.Sway,DS pI x.Hull.Wind.Yaw,DS pI x.Hull.Current.Surge,DS pI x.Hull.Current.Sway,DS pI x.Hull.Current.Yaw,DS pI x.Hull.Wave.Surge,DS pI x.Hull.Wave.Sway,DS pI x.Hull.Wave.Yaw,I x.Hull.Mass,I x.Hull.Inertia,I x.Hull.Drag,I x.Hull.Spin,I x.Ship.Bow,I x.Ship.Stern,DS Eu x.Ship.A4,I x.Board.Am,DS Bt x.Board.Ah,DS Cf x.Board.Ae,DS B4 x.Board.Ag,I x.Board.Phase,I x.Board.Aq,I x.Table.Start,I x.Table.Stop,I x.Table.Delay,DS q88 x.Design.Parts,DS Et x.Design.Links,DS Gl x.Design.Groups,DS K8 x.References,I x.Gains.Near,I x.Gains.Sum,I x.Gains.Calm,I x.Gains.Point,I x.Gains.Drift,I x.Gains.Still,I x.Gains.MostSum,I x.Gains.MostForce,I x.Gains.MostYaw,I x.Target.Place.X,I x.Target.Place.Y,I x.Target.Heading,I x.Delay,.p (.v (.string x.Operation.Name)),I x.Operation.Class,I x.Operation.Circle.Place.X,I x.Operation.Circle.Place.Y,I x.Operation.Circle.Yellow,I x.Operation.Circle.Red,I x.Operation.Drift,DS qJ x.Sequence.Stages]
def Xn(x:Aj):List D:=[I x.State,I x.Since,I x.Aq,I x.Phase]
def d64(x:Ad):List D:=[DS pB x.Ai,DS Bg x.Ae,DS pI x.An,DS q88 x.Al]
def At9(x:A_):List D:=[I x.High,I x.Low]
def Ph(x:Aw):List D:=[I x.Kind,I x.Unit,I x.Value]
def A59(x:Bv):List D:=[I x.Time,I x.Act.Kind,I x.Act.Unit,I x.Act.Value,I x.Err]
def d68(x:Ar):List D:=[I x.Time,DS pB x.Power.Ai,DS Bg x.Power.Ae,DS pI x.Power.An,DS q88 x.Power.Al,DS Cs x.Ba,DS Es x.Bh]
def Un(x:Ap):List D:=[DS pI x.Am,DS pI x.Ae,DS pI x.Ag]
def d81(x:Bd):List D:=[I x.Surge,I x.Sway,I x.Yaw]
def A6a(x:Cm):List D:=[I x.Bi.Time,DS pB x.Bi.Power.Ai,DS Bg x.Bi.Power.Ae,DS pI x.Bi.Power.An,DS q88 x.Bi.Power.Al,DS Cs x.Bi.Ba,DS Es x.Bi.Bh,I x.Ao.Am,DS Bt x.Ao.Ah,DS Cf x.Ao.Ae,DS B4 x.Ao.Ag,I x.Ao.Phase,I x.Ao.Aq,DS Es x.events,DS q64 x.states]
def A55(x:Bc):List D:=[I x.Ao.Am,DS Bt x.Ao.Ah,DS Cf x.Ao.Ae,DS B4 x.Ao.Ag,I x.Ao.Phase,I x.Ao.Aq,DS pB x.Au.Ai,DS Bg x.Au.Ae,DS pI x.Au.An,DS q88 x.Au.Al,I x.time]
def A54(x:A2):List D:=[I x.Ao.Am,DS Bt x.Ao.Ah,DS Cf x.Ao.Ae,DS B4 x.Ao.Ag,I x.Ao.Phase,I x.Ao.Aq,DS pB x.Au.Ai,DS Bg x.Au.Ae,DS pI x.Au.An,DS q88 x.Au.Al,DS E9 x.acts]
def A56(x:Bz):List D:=[I x.X,I x.Y]
def N4(x:Ch):List D:=[I x.Surge,I x.Bow,I x.Stern]
def A58(x:I5):List D:=[DS Er x.Thrusts,I x.Given.Surge,I x.Given.Bow,I x.Given.Stern,I x.Missing.Surge,I x.Missing.Bow,I x.Missing.Stern]
def Alj(x:By):List D:=[DS Eu x.thrusters,DS Er x.last]
def At8(x:Br):List D:=[I x.Low,I x.High,I x.Cost]
def d98(x:Bb):List D:=[I x.Part.Kind,I x.Part.Number,Bo x.Holds]
def B7(x:Af):List D:=[DS pI x.L,I x.At]
end Go.Proofs.YtiaaaghdkhnonaaGreat
