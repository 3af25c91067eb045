import Derived.Test.YtiaaaghdkhnonaaGreatSlV
set_option linter.unusedVariables false
namespace Go.Proofs.YtiaaaghdkhnonaaGreat
open Go.SL
structure Hd where
 Surge:List Int
 Sway:List Int
 Yaw:List Int
 deriving Inhabited
def q28 (x:Hd):List Pd:=[.s (x.Surge.map pI),.s (x.Sway.map pI),.s (x.Yaw.map pI)]
structure Lc where
 Wind:Hd
 Current:Hd
 Wave:Hd
 Mass:Int
 Inertia:Int
 Drag:Int
 Spin:Int
 deriving Inhabited
def q30 (x:Lc):List Pd:=[.s (x.Wind.Surge.map pI),.s (x.Wind.Sway.map pI),.s (x.Wind.Yaw.map pI),.s (x.Current.Surge.map pI),.s (x.Current.Sway.map pI),.s (x.Current.Yaw.map pI),.s (x.Wave.Surge.map pI),.s (x.Wave.Sway.map pI),.s (x.Wave.Yaw.map pI),.v (.int .i64 x.Mass),.v (.int .i64 x.Inertia),.v (.int .i64 x.Drag),.v (.int .i64 x.Spin)]
structure Cf where
 From:Int
 To:Int
 deriving Inhabited
def F_ (x:Cf):List Pd:=[.v (.int .i64 x.From),.v (.int .i64 x.To)]
structure Ay where
 Kind:Int
 Station:Int
 Max:Int
 Rate:Int
 Cost:Int
 Db:List Cf
 deriving Inhabited
def Ej (x:Ay):List Pd:=[.v (.int .i64 x.Kind),.v (.int .i64 x.Station),.v (.int .i64 x.Max),.v (.int .i64 x.Rate),.v (.int .i64 x.Cost),.s (x.Db.map F_)]
structure Ca where
 Bow:Int
 Stern:Int
 A3:List Ay
 deriving Inhabited
def q33 (x:Ca):List Pd:=[.v (.int .i64 x.Bow),.v (.int .i64 x.Stern),.s (x.A3.map Ej)]
structure Ak where
 Kind:Int
 A:Int
 B:Int
 deriving Inhabited
def Bs (x:Ak):List Pd:=[.v (.int .i64 x.Kind),.v (.int .i64 x.A),.v (.int .i64 x.B)]
structure B1 where
 Rating:Int
 Least:Int
 Start:Int
 deriving Inhabited
def Cd (x:B1):List Pd:=[.v (.int .i64 x.Rating),.v (.int .i64 x.Least),.v (.int .i64 x.Start)]
structure A7 where
 Load:Int
 Least:Int
 Bz:Int
 Thruster:Int
 Needs:List Int
 deriving Inhabited
def B0 (x:A7):List Pd:=[.v (.int .i64 x.Load),.v (.int .i64 x.Least),.v (.int .i64 x.Bz),.v (.int .i64 x.Thruster),.s (x.Needs.map pI)]
structure Aa where
 Am:Int
 Ah:List Ak
 Ae:List B1
 Ag:List A7
 Phase:Int
 Aq:Int
 deriving Inhabited
def q38 (x:Aa):List Pd:=[.v (.int .i64 x.Am),.s (x.Ah.map Bs),.s (x.Ae.map Cd),.s (x.Ag.map B0),.v (.int .i64 x.Phase),.v (.int .i64 x.Aq)]
structure Bt where
 Start:Int
 Stop:Int
 Delay:Int
 deriving Inhabited
def q40 (x:Bt):List Pd:=[.v (.int .i64 x.Start),.v (.int .i64 x.Stop),.v (.int .i64 x.Delay)]
structure Ab where
 Kind:Int
 Number:Int
 deriving Inhabited
def q88 (x:Ab):List Pd:=[.v (.int .i64 x.Kind),.v (.int .i64 x.Number)]
structure A6 where
 From:Ab
 To:Ab
 deriving Inhabited
def Es (x:A6):List Pd:=[.v (.int .i64 x.From.Kind),.v (.int .i64 x.From.Number),.v (.int .i64 x.To.Kind),.v (.int .i64 x.To.Number)]
structure Bn where
 Name:ByteArray
 Parts:List Ab
 deriving Inhabited
def Gk (x:Bn):List Pd:=[.v (.string x.Name),.s (x.Parts.map q88)]
structure A4 where
 Parts:List Ab
 Links:List A6
 Groups:List Bn
 deriving Inhabited
def q44 (x:A4):List Pd:=[.s (x.Parts.map q88),.s (x.Links.map Es),.s (x.Groups.map Gk)]
structure Dm where
 Cause:Int
 Speed:Int
 Stale:Int
 Freeze:Int
 deriving Inhabited
def Kh (x:Dm):List Pd:=[.v (.int .i64 x.Cause),.v (.int .i64 x.Speed),.v (.int .i64 x.Stale),.v (.int .i64 x.Freeze)]
structure L6 where
 Near:Int
 Sum:Int
 Calm:Int
 Point:Int
 Drift:Int
 Still:Int
 MostSum:Int
 MostForce:Int
 MostYaw:Int
 deriving Inhabited
def q47 (x:L6):List Pd:=[.v (.int .i64 x.Near),.v (.int .i64 x.Sum),.v (.int .i64 x.Calm),.v (.int .i64 x.Point),.v (.int .i64 x.Drift),.v (.int .i64 x.Still),.v (.int .i64 x.MostSum),.v (.int .i64 x.MostForce),.v (.int .i64 x.MostYaw)]
structure Ov where
 X:Int
 Y:Int
 deriving Inhabited
def q49 (x:Ov):List Pd:=[.v (.int .i64 x.X),.v (.int .i64 x.Y)]
structure Rv where
 Place:Ov
 Heading:Int
 deriving Inhabited
def q51 (x:Rv):List Pd:=[.v (.int .i64 x.Place.X),.v (.int .i64 x.Place.Y),.v (.int .i64 x.Heading)]
structure Kw where
 Place:Ov
 Yellow:Int
 Red:Int
 deriving Inhabited
def q53 (x:Kw):List Pd:=[.v (.int .i64 x.Place.X),.v (.int .i64 x.Place.Y),.v (.int .i64 x.Yellow),.v (.int .i64 x.Red)]
structure Hp where
 Name:ByteArray
 Class:Int
 Circle:Kw
 Drift:Int
 deriving Inhabited
def q55 (x:Hp):List Pd:=[.v (.string x.Name),.v (.int .i64 x.Class),.v (.int .i64 x.Circle.Place.X),.v (.int .i64 x.Circle.Place.Y),.v (.int .i64 x.Circle.Yellow),.v (.int .i64 x.Circle.Red),.v (.int .i64 x.Drift)]
structure Il where
 Name:ByteArray
 Ticks:Int
 Tries:Int
 Needs:List Int
 deriving Inhabited
def Z6 (x:Il):List Pd:=[.v (.string x.Name),.v (.int .i64 x.Ticks),.v (.int .i64 x.Tries),.s (x.Needs.map pI)]
structure Kv where
 Stages:List Il
 deriving Inhabited
def q58 (x:Kv):List Pd:=[.s (x.Stages.map Z6)]
structure Bb where
 Hull:Lc
 Ship:Ca
 Board:Aa
 Table:Bt
 Design:A4
 References:List Dm
 Gains:L6
 Target:Rv
 Delay:Int
 Operation:Hp
 Sequence:Kv
 deriving Inhabited
def q60 (x:Bb):List Pd:=[.s (x.Hull.Wind.Surge.map pI),.s (x.Hull.Wind.Sway.map pI),.s (x.Hull.Wind.Yaw.map pI),.s (x.Hull.Current.Surge.map pI),.s (x.Hull.Current.Sway.map pI),.s (x.Hull.Current.Yaw.map pI),.s (x.Hull.Wave.Surge.map pI),.s (x.Hull.Wave.Sway.map pI),.s (x.Hull.Wave.Yaw.map pI),.v (.int .i64 x.Hull.Mass),.v (.int .i64 x.Hull.Inertia),.v (.int .i64 x.Hull.Drag),.v (.int .i64 x.Hull.Spin),.v (.int .i64 x.Ship.Bow),.v (.int .i64 x.Ship.Stern),.s (x.Ship.A3.map Ej),.v (.int .i64 x.Board.Am),.s (x.Board.Ah.map Bs),.s (x.Board.Ae.map Cd),.s (x.Board.Ag.map B0),.v (.int .i64 x.Board.Phase),.v (.int .i64 x.Board.Aq),.v (.int .i64 x.Table.Start),.v (.int .i64 x.Table.Stop),.v (.int .i64 x.Table.Delay),.s (x.Design.Parts.map q88),.s (x.Design.Links.map Es),.s (x.Design.Groups.map Gk),.s (x.References.map Kh),.v (.int .i64 x.Gains.Near),.v (.int .i64 x.Gains.Sum),.v (.int .i64 x.Gains.Calm),.v (.int .i64 x.Gains.Point),.v (.int .i64 x.Gains.Drift),.v (.int .i64 x.Gains.Still),.v (.int .i64 x.Gains.MostSum),.v (.int .i64 x.Gains.MostForce),.v (.int .i64 x.Gains.MostYaw),.v (.int .i64 x.Target.Place.X),.v (.int .i64 x.Target.Place.Y),.v (.int .i64 x.Target.Heading),.v (.int .i64 x.Delay),.v (.string x.Operation.Name),.v (.int .i64 x.Operation.Class),.v (.int .i64 x.Operation.Circle.Place.X),.v (.int .i64 x.Operation.Circle.Place.Y),.v (.int .i64 x.Operation.Circle.Yellow),.v (.int .i64 x.Operation.Circle.Red),.v (.int .i64 x.Operation.Drift),.s (x.Sequence.Stages.map Z6)]
structure Aj where
 State:Int
 Since:Int
 Aq:Int
 Phase:Int
 deriving Inhabited
def Bf (x:Aj):List Pd:=[.v (.int .i64 x.State),.v (.int .i64 x.Since),.v (.int .i64 x.Aq),.v (.int .i64 x.Phase)]
structure Ad where
 Ai:List Bool
 Ae:List Aj
 An:List Int
 Al:List Ab
 deriving Inhabited
def q64 (x:Ad):List Pd:=[.s (x.Ai.map pB),.s (x.Ae.map Bf),.s (x.An.map pI),.s (x.Al.map q88)]
structure A9 where
 High:Int
 Low:Int
 deriving Inhabited
def Cs (x:A9):List Pd:=[.v (.int .i64 x.High),.v (.int .i64 x.Low)]
structure Aw where
 Kind:Int
 Unit:Int
 Value:Int
 deriving Inhabited
def E4 (x:Aw):List Pd:=[.v (.int .i64 x.Kind),.v (.int .i64 x.Unit),.v (.int .i64 x.Value)]
structure Bu where
 Time:Int
 Act:Aw
 Err:Int
 deriving Inhabited
def Er (x:Bu):List Pd:=[.v (.int .i64 x.Time),.v (.int .i64 x.Act.Kind),.v (.int .i64 x.Act.Unit),.v (.int .i64 x.Act.Value),.v (.int .i64 x.Err)]
structure As where
 Time:Int
 Power:Ad
 Ba:List A9
 Bh:List Bu
 deriving Inhabited
def q68 (x:As):List Pd:=[.v (.int .i64 x.Time),.s (x.Power.Ai.map pB),.s (x.Power.Ae.map Bf),.s (x.Power.An.map pI),.s (x.Power.Al.map q88),.s (x.Ba.map Cs),.s (x.Bh.map Er)]
structure Ap where
 Am:List Int
 Ae:List Int
 Ag:List Int
 deriving Inhabited
def Br (x:Ap):List Pd:=[.s (x.Am.map pI),.s (x.Ae.map pI),.s (x.Ag.map pI)]
structure Bj where
 Surge:Int
 Sway:Int
 Yaw:Int
 deriving Inhabited
def q81 (x:Bj):List Pd:=[.v (.int .i64 x.Surge),.v (.int .i64 x.Sway),.v (.int .i64 x.Yaw)]
structure Cm where
 Bg:As
 Ao:Aa
 events:List Bu
 states:List Ad
 deriving Inhabited
def A4l (x:Cm):List Pd:=[.v (.int .i64 x.Bg.Time),.s (x.Bg.Power.Ai.map pB),.s (x.Bg.Power.Ae.map Bf),.s (x.Bg.Power.An.map pI),.s (x.Bg.Power.Al.map q88),.s (x.Bg.Ba.map Cs),.s (x.Bg.Bh.map Er),.v (.int .i64 x.Ao.Am),.s (x.Ao.Ah.map Bs),.s (x.Ao.Ae.map Cd),.s (x.Ao.Ag.map B0),.v (.int .i64 x.Ao.Phase),.v (.int .i64 x.Ao.Aq),.s (x.events.map Er),.s (x.states.map q64)]
structure Bc where
 Ao:Aa
 Au:Ad
 time:Int
 deriving Inhabited
def A4j (x:Bc):List Pd:=[.v (.int .i64 x.Ao.Am),.s (x.Ao.Ah.map Bs),.s (x.Ao.Ae.map Cd),.s (x.Ao.Ag.map B0),.v (.int .i64 x.Ao.Phase),.v (.int .i64 x.Ao.Aq),.s (x.Au.Ai.map pB),.s (x.Au.Ae.map Bf),.s (x.Au.An.map pI),.s (x.Au.Al.map q88),.v (.int .i64 x.time)]
structure A2 where
 Ao:Aa
 Au:Ad
 acts:List Aw
 deriving Inhabited
def A4i (x:A2):List Pd:=[.v (.int .i64 x.Ao.Am),.s (x.Ao.Ah.map Bs),.s (x.Ao.Ae.map Cd),.s (x.Ao.Ag.map B0),.v (.int .i64 x.Ao.Phase),.v (.int .i64 x.Ao.Aq),.s (x.Au.Ai.map pB),.s (x.Au.Ae.map Bf),.s (x.Au.An.map pI),.s (x.Au.Al.map q88),.s (x.acts.map E4)]
structure Cg where
 X:Int
 Y:Int
 deriving Inhabited
def Ep (x:Cg):List Pd:=[.v (.int .i64 x.X),.v (.int .i64 x.Y)]
structure Ck where
 Surge:Int
 Bow:Int
 Stern:Int
 deriving Inhabited
def A4m (x:Ck):List Pd:=[.v (.int .i64 x.Surge),.v (.int .i64 x.Bow),.v (.int .i64 x.Stern)]
structure I0 where
 Thrusts:List Cg
 Given:Ck
 Missing:Ck
 deriving Inhabited
def A4k (x:I0):List Pd:=[.s (x.Thrusts.map Ep),.v (.int .i64 x.Given.Surge),.v (.int .i64 x.Given.Bow),.v (.int .i64 x.Given.Stern),.v (.int .i64 x.Missing.Surge),.v (.int .i64 x.Missing.Bow),.v (.int .i64 x.Missing.Stern)]
structure Cc where
 thrusters:List Ay
 last:List Cg
 deriving Inhabited
def A4h (x:Cc):List Pd:=[.s (x.thrusters.map Ej),.s (x.last.map Ep)]
structure B5 where
 Low:Int
 High:Int
 Cost:Int
 deriving Inhabited
def G4 (x:B5):List Pd:=[.v (.int .i64 x.Low),.v (.int .i64 x.High),.v (.int .i64 x.Cost)]
structure Be where
 Part:Ab
 Holds:Bool
 deriving Inhabited
def q98 (x:Be):List Pd:=[.v (.int .i64 x.Part.Kind),.v (.int .i64 x.Part.Number),.v (.bool x.Holds)]
structure Af where
 L:List Int
 At:Int
 deriving Inhabited
def A4n (x:Af):List Pd:=[.s (x.L.map pI),.v (.int .i64 x.At)]
def d28 (x:Hd):List D:=[DS pI x.Surge,DS pI x.Sway,DS pI x.Yaw]
def d30 (x:Lc):List D:=[DS pI x.Wind.Surge,DS pI x.Wind.Sway,DS pI x.Wind.Yaw,DS pI x.Current.Surge,DS pI x.Current.Sway,DS pI x.Current.Yaw,DS pI x.Wave.Surge,DS pI x.Wave.Sway,DS pI x.Wave.Yaw,I x.Mass,I x.Inertia,I x.Drag,I x.Spin]
def qJ (x:Cf):List D:=[I x.From,I x.To]
def I9 (x:Ay):List D:=[I x.Kind,I x.Station,I x.Max,I x.Rate,I x.Cost,DS F_ x.Db]
def d33 (x:Ca):List D:=[I x.Bow,I x.Stern,DS Ej x.A3]
def Ace (x:Ak):List D:=[I x.Kind,I x.A,I x.B]
def A4b (x:B1):List D:=[I x.Rating,I x.Least,I x.Start]
def Azi (x:A7):List D:=[I x.Load,I x.Least,I x.Bz,I x.Thruster,DS pI x.Needs]
def d38 (x:Aa):List D:=[I x.Am,DS Bs x.Ah,DS Cd x.Ae,DS B0 x.Ag,I x.Phase,I x.Aq]
def d40 (x:Bt):List D:=[I x.Start,I x.Stop,I x.Delay]
def d88 (x:Ab):List D:=[I x.Kind,I x.Number]
def Azj (x:A6):List D:=[I x.From.Kind,I x.From.Number,I x.To.Kind,I x.To.Number]
def Acf (x:Bn):List D:=[.p (.v (.string x.Name)),DS q88 x.Parts]
def d44 (x:A4):List D:=[DS q88 x.Parts,DS Es x.Links,DS Gk x.Groups]
def A4a (x:Dm):List D:=[I x.Cause,I x.Speed,I x.Stale,I x.Freeze]
def d47 (x:L6):List D:=[I x.Near,I x.Sum,I x.Calm,I x.Point,I x.Drift,I x.Still,I x.MostSum,I x.MostForce,I x.MostYaw]
def d49 (x:Ov):List D:=[I x.X,I x.Y]
def d51 (x:Rv):List D:=[I x.Place.X,I x.Place.Y,I x.Heading]
def d53 (x:Kw):List D:=[I x.Place.X,I x.Place.Y,I x.Yellow,I x.Red]
def d55 (x:Hp):List D:=[.p (.v (.string x.Name)),I x.Class,I x.Circle.Place.X,I x.Circle.Place.Y,I x.Circle.Yellow,I x.Circle.Red,I x.Drift]
def A4r (x:Il):List D:=[.p (.v (.string x.Name)),I x.Ticks,I x.Tries,DS pI x.Needs]
def d60 (x:Bb):List D:=[DS pI x.Hull.Wind.Surge,DS pI x.Hull.Wind.Sway,DS pI x.Hull.Wind.Yaw,DS pI x.Hull.Current.Surge,DS pI x.Hull.Current.Sway,DS pI x.Hull.Current.Yaw,DS pI x.Hull.Wave.Surge,DS pI x.Hull.Wave.Sway,DS pI x.Hull.Wave.Yaw,I x.Hull.Mass,I x.Hull.Inertia,I x.Hull.Drag,I x.Hull.Spin,I x.Ship.Bow,I x.Ship.Stern,DS Ej x.Ship.A3,I x.Board.Am,DS Bs x.Board.Ah,DS Cd x.Board.Ae,DS B0 x.Board.Ag,I x.Board.Phase,I x.Board.Aq,I x.Table.Start,I x.Table.Stop,I x.Table.Delay,DS q88 x.Design.Parts,DS Es x.Design.Links,DS Gk x.Design.Groups,DS Kh x.References,I x.Gains.Near,I x.Gains.Sum,I x.Gains.Calm,I x.Gains.Point,I x.Gains.Drift,I x.Gains.Still,I x.Gains.MostSum,I x.Gains.MostForce,I x.Gains.MostYaw,I x.Target.Place.X,I x.Target.Place.Y,I x.Target.Heading,I x.Delay,.p (.v (.string x.Operation.Name)),I x.Operation.Class,I x.Operation.Circle.Place.X,I x.Operation.Circle.Place.Y,I x.Operation.Circle.Yellow,I x.Operation.Circle.Red,I x.Operation.Drift,DS Z6 x.Sequence.Stages]
def W7 (x:Aj):List D:=[I x.State,I x.Since,I x.Aq,I x.Phase]
def d64 (x:Ad):List D:=[DS pB x.Ai,DS Bf x.Ae,DS pI x.An,DS q88 x.Al]
def Arv (x:A9):List D:=[I x.High,I x.Low]
def O9 (x:Aw):List D:=[I x.Kind,I x.Unit,I x.Value]
def A4t (x:Bu):List D:=[I x.Time,I x.Act.Kind,I x.Act.Unit,I x.Act.Value,I x.Err]
def d68 (x:As):List D:=[I x.Time,DS pB x.Power.Ai,DS Bf x.Power.Ae,DS pI x.Power.An,DS q88 x.Power.Al,DS Cs x.Ba,DS Er x.Bh]
def T0 (x:Ap):List D:=[DS pI x.Am,DS pI x.Ae,DS pI x.Ag]
def d81 (x:Bj):List D:=[I x.Surge,I x.Sway,I x.Yaw]
def A4u (x:Cm):List D:=[I x.Bg.Time,DS pB x.Bg.Power.Ai,DS Bf x.Bg.Power.Ae,DS pI x.Bg.Power.An,DS q88 x.Bg.Power.Al,DS Cs x.Bg.Ba,DS Er x.Bg.Bh,I x.Ao.Am,DS Bs x.Ao.Ah,DS Cd x.Ao.Ae,DS B0 x.Ao.Ag,I x.Ao.Phase,I x.Ao.Aq,DS Er x.events,DS q64 x.states]
def A4p (x:Bc):List D:=[I x.Ao.Am,DS Bs x.Ao.Ah,DS Cd x.Ao.Ae,DS B0 x.Ao.Ag,I x.Ao.Phase,I x.Ao.Aq,DS pB x.Au.Ai,DS Bf x.Au.Ae,DS pI x.Au.An,DS q88 x.Au.Al,I x.time]
def A4o (x:A2):List D:=[I x.Ao.Am,DS Bs x.Ao.Ah,DS Cd x.Ao.Ae,DS B0 x.Ao.Ag,I x.Ao.Phase,I x.Ao.Aq,DS pB x.Au.Ai,DS Bf x.Au.Ae,DS pI x.Au.An,DS q88 x.Au.Al,DS E4 x.acts]
def A4q (x:Cg):List D:=[I x.X,I x.Y]
def N1 (x:Ck):List D:=[I x.Surge,I x.Bow,I x.Stern]
def A4s (x:I0):List D:=[DS Ep x.Thrusts,I x.Given.Surge,I x.Given.Bow,I x.Given.Stern,I x.Missing.Surge,I x.Missing.Bow,I x.Missing.Stern]
def Aje (x:Cc):List D:=[DS Ej x.thrusters,DS Ep x.last]
def Aru (x:B5):List D:=[I x.Low,I x.High,I x.Cost]
def d98 (x:Be):List D:=[I x.Part.Kind,I x.Part.Number,Bo x.Holds]
def B7 (x:Af):List D:=[DS pI x.L,I x.At]
end Go.Proofs.YtiaaaghdkhnonaaGreat
