import Derived.Test.YtiaaaghdkhnonaaGreatSlV
set_option linter.unusedVariables false
namespace Go.Proofs.YtiaaaghdkhnonaaGreat
open Go.SL
structure Hm where
 Surge:List Int
 Sway:List Int
 Yaw:List Int
 deriving Inhabited
def q28(x:Hm):List Pd:=[.s (x.Surge.map pI),.s (x.Sway.map pI),.s (x.Yaw.map pI)]
structure Lq where
 Wind:Hm
 Current:Hm
 Wave:Hm
 Mass:Int
 Inertia:Int
 Drag:Int
 Spin:Int
 deriving Inhabited
def q30(x:Lq):List Pd:=[.s (x.Wind.Surge.map pI),.s (x.Wind.Sway.map pI),.s (x.Wind.Yaw.map pI),.s (x.Current.Surge.map pI),.s (x.Current.Sway.map pI),.s (x.Current.Yaw.map pI),.s (x.Wave.Surge.map pI),.s (x.Wave.Sway.map pI),.s (x.Wave.Yaw.map pI),.v (.int .i64 x.Mass),.v (.int .i64 x.Inertia),.v (.int .i64 x.Drag),.v (.int .i64 x.Spin)]
structure Bu where
 From:Int
 To:Int
 deriving Inhabited
def E8(x:Bu):List Pd:=[.v (.int .i64 x.From),.v (.int .i64 x.To)]
structure An where
 Kind:Int
 Station:Int
 Max:Int
 Rate:Int
 Cost:Int
 B5:List Bu
 deriving Inhabited
def De(x:An):List Pd:=[.v (.int .i64 x.Kind),.v (.int .i64 x.Station),.v (.int .i64 x.Max),.v (.int .i64 x.Rate),.v (.int .i64 x.Cost),.s (x.B5.map E8)]
structure A3 where
 Bow:Int
 Stern:Int
 Av:List An
 deriving Inhabited
def q33(x:A3):List Pd:=[.v (.int .i64 x.Bow),.v (.int .i64 x.Stern),.s (x.Av.map De)]
structure Ak where
 Kind:Int
 A:Int
 B:Int
 deriving Inhabited
def Bw(x:Ak):List Pd:=[.v (.int .i64 x.Kind),.v (.int .i64 x.A),.v (.int .i64 x.B)]
structure B9 where
 Rating:Int
 Least:Int
 Start:Int
 deriving Inhabited
def Cg(x:B9):List Pd:=[.v (.int .i64 x.Rating),.v (.int .i64 x.Least),.v (.int .i64 x.Start)]
structure A_ where
 Load:Int
 Least:Int
 B6:Int
 Thruster:Int
 Needs:List Int
 deriving Inhabited
def B8(x:A_):List Pd:=[.v (.int .i64 x.Load),.v (.int .i64 x.Least),.v (.int .i64 x.B6),.v (.int .i64 x.Thruster),.s (x.Needs.map pI)]
structure Aa where
 Am:Int
 Ah:List Ak
 Ae:List B9
 Ag:List A_
 Phase:Int
 Ar:Int
 deriving Inhabited
def q38(x:Aa):List Pd:=[.v (.int .i64 x.Am),.s (x.Ah.map Bw),.s (x.Ae.map Cg),.s (x.Ag.map B8),.v (.int .i64 x.Phase),.v (.int .i64 x.Ar)]
structure By where
 Start:Int
 Stop:Int
 Delay:Int
 deriving Inhabited
def q40(x:By):List Pd:=[.v (.int .i64 x.Start),.v (.int .i64 x.Stop),.v (.int .i64 x.Delay)]
structure Ab where
 Kind:Int
 Number:Int
 deriving Inhabited
def q88(x:Ab):List Pd:=[.v (.int .i64 x.Kind),.v (.int .i64 x.Number)]
structure Bh where
 From:Ab
 To:Ab
 deriving Inhabited
def Fs(x:Bh):List Pd:=[.v (.int .i64 x.From.Kind),.v (.int .i64 x.From.Number),.v (.int .i64 x.To.Kind),.v (.int .i64 x.To.Number)]
structure Bz where
 Name:ByteArray
 Parts:List Ab
 deriving Inhabited
def Hp(x:Bz):List Pd:=[.v (.string x.Name),.s (x.Parts.map q88)]
structure Bf where
 Parts:List Ab
 Links:List Bh
 Groups:List Bz
 deriving Inhabited
def q44(x:Bf):List Pd:=[.s (x.Parts.map q88),.s (x.Links.map Fs),.s (x.Groups.map Hp)]
structure Dq where
 Cause:Int
 Speed:Int
 Stale:Int
 Freeze:Int
 deriving Inhabited
def Ks(x:Dq):List Pd:=[.v (.int .i64 x.Cause),.v (.int .i64 x.Speed),.v (.int .i64 x.Stale),.v (.int .i64 x.Freeze)]
structure Mo where
 Near:Int
 Sum:Int
 Calm:Int
 Point:Int
 Drift:Int
 Still:Int
 MostSum:Int
 MostForce:Int
 MostYaw:Int
 deriving Inhabited
def q47(x:Mo):List Pd:=[.v (.int .i64 x.Near),.v (.int .i64 x.Sum),.v (.int .i64 x.Calm),.v (.int .i64 x.Point),.v (.int .i64 x.Drift),.v (.int .i64 x.Still),.v (.int .i64 x.MostSum),.v (.int .i64 x.MostForce),.v (.int .i64 x.MostYaw)]
structure Pl where
 X:Int
 Y:Int
 deriving Inhabited
def q49(x:Pl):List Pd:=[.v (.int .i64 x.X),.v (.int .i64 x.Y)]
structure Tk where
 Place:Pl
 Heading:Int
 deriving Inhabited
def q51(x:Tk):List Pd:=[.v (.int .i64 x.Place.X),.v (.int .i64 x.Place.Y),.v (.int .i64 x.Heading)]
structure K6 where
 Place:Pl
 Yellow:Int
 Red:Int
 deriving Inhabited
def q53(x:K6):List Pd:=[.v (.int .i64 x.Place.X),.v (.int .i64 x.Place.Y),.v (.int .i64 x.Yellow),.v (.int .i64 x.Red)]
structure H1 where
 Name:ByteArray
 Class:Int
 Circle:K6
 Drift:Int
 deriving Inhabited
def q55(x:H1):List Pd:=[.v (.string x.Name),.v (.int .i64 x.Class),.v (.int .i64 x.Circle.Place.X),.v (.int .i64 x.Circle.Place.Y),.v (.int .i64 x.Circle.Yellow),.v (.int .i64 x.Circle.Red),.v (.int .i64 x.Drift)]
structure I0 where
 Name:ByteArray
 Ticks:Int
 Tries:Int
 Needs:List Int
 deriving Inhabited
def yJ(x:I0):List Pd:=[.v (.string x.Name),.v (.int .i64 x.Ticks),.v (.int .i64 x.Tries),.s (x.Needs.map pI)]
structure K5 where
 Stages:List I0
 deriving Inhabited
def q58(x:K5):List Pd:=[.s (x.Stages.map yJ)]
structure Ba where
 Hull:Lq
 Ship:A3
 Board:Aa
 Table:By
 Design:Bf
 References:List Dq
 Gains:Mo
 Target:Tk
 Delay:Int
 Operation:H1
 Sequence:K5
 deriving Inhabited
def q60(x:Ba):List Pd:=[.s (x.Hull.Wind.Surge.map pI),.s (x.Hull.Wind.Sway.map pI),.s (x.Hull.Wind.Yaw.map pI),.s (x.Hull.Current.Surge.map pI),.s (x.Hull.Current.Sway.map pI),.s (x.Hull.Current.Yaw.map pI),.s (x.Hull.Wave.Surge.map pI),.s (x.Hull.Wave.Sway.map pI),.s (x.Hull.Wave.Yaw.map pI),.v (.int .i64 x.Hull.Mass),.v (.int .i64 x.Hull.Inertia),.v (.int .i64 x.Hull.Drag),.v (.int .i64 x.Hull.Spin),.v (.int .i64 x.Ship.Bow),.v (.int .i64 x.Ship.Stern),.s (x.Ship.Av.map De),.v (.int .i64 x.Board.Am),.s (x.Board.Ah.map Bw),.s (x.Board.Ae.map Cg),.s (x.Board.Ag.map B8),.v (.int .i64 x.Board.Phase),.v (.int .i64 x.Board.Ar),.v (.int .i64 x.Table.Start),.v (.int .i64 x.Table.Stop),.v (.int .i64 x.Table.Delay),.s (x.Design.Parts.map q88),.s (x.Design.Links.map Fs),.s (x.Design.Groups.map Hp),.s (x.References.map Ks),.v (.int .i64 x.Gains.Near),.v (.int .i64 x.Gains.Sum),.v (.int .i64 x.Gains.Calm),.v (.int .i64 x.Gains.Point),.v (.int .i64 x.Gains.Drift),.v (.int .i64 x.Gains.Still),.v (.int .i64 x.Gains.MostSum),.v (.int .i64 x.Gains.MostForce),.v (.int .i64 x.Gains.MostYaw),.v (.int .i64 x.Target.Place.X),.v (.int .i64 x.Target.Place.Y),.v (.int .i64 x.Target.Heading),.v (.int .i64 x.Delay),.v (.string x.Operation.Name),.v (.int .i64 x.Operation.Class),.v (.int .i64 x.Operation.Circle.Place.X),.v (.int .i64 x.Operation.Circle.Place.Y),.v (.int .i64 x.Operation.Circle.Yellow),.v (.int .i64 x.Operation.Circle.Red),.v (.int .i64 x.Operation.Drift),.s (x.Sequence.Stages.map yJ)]
structure Aj where
 State:Int
 Since:Int
 Ar:Int
 Phase:Int
 deriving Inhabited
def Bl(x:Aj):List Pd:=[.v (.int .i64 x.State),.v (.int .i64 x.Since),.v (.int .i64 x.Ar),.v (.int .i64 x.Phase)]
structure Ad where
 Ai:List Bool
 Ae:List Aj
 Ao:List Int
 Al:List Ab
 deriving Inhabited
def q64(x:Ad):List Pd:=[.s (x.Ai.map pB),.s (x.Ae.map Bl),.s (x.Ao.map pI),.s (x.Al.map q88)]
structure Bb where
 High:Int
 Low:Int
 deriving Inhabited
def Ct(x:Bb):List Pd:=[.v (.int .i64 x.High),.v (.int .i64 x.Low)]
structure A0 where
 Kind:Int
 Unit:Int
 Value:Int
 deriving Inhabited
def Fb(x:A0):List Pd:=[.v (.int .i64 x.Kind),.v (.int .i64 x.Unit),.v (.int .i64 x.Value)]
structure B1 where
 Time:Int
 Act:A0
 Err:Int
 deriving Inhabited
def Ey(x:B1):List Pd:=[.v (.int .i64 x.Time),.v (.int .i64 x.Act.Kind),.v (.int .i64 x.Act.Unit),.v (.int .i64 x.Act.Value),.v (.int .i64 x.Err)]
structure As where
 Time:Int
 Power:Ad
 Be:List Bb
 Bm:List B1
 deriving Inhabited
def q68(x:As):List Pd:=[.v (.int .i64 x.Time),.s (x.Power.Ai.map pB),.s (x.Power.Ae.map Bl),.s (x.Power.Ao.map pI),.s (x.Power.Al.map q88),.s (x.Be.map Ct),.s (x.Bm.map Ey)]
structure Aq where
 Am:List Int
 Ae:List Int
 Ag:List Int
 deriving Inhabited
def Bv(x:Aq):List Pd:=[.s (x.Am.map pI),.s (x.Ae.map pI),.s (x.Ag.map pI)]
structure A4 where
 Surge:Int
 Sway:Int
 Yaw:Int
 deriving Inhabited
def q81(x:A4):List Pd:=[.v (.int .i64 x.Surge),.v (.int .i64 x.Sway),.v (.int .i64 x.Yaw)]
structure Co where
 Bq:As
 Ap:Aa
 events:List B1
 states:List Ad
 deriving Inhabited
def A96(x:Co):List Pd:=[.v (.int .i64 x.Bq.Time),.s (x.Bq.Power.Ai.map pB),.s (x.Bq.Power.Ae.map Bl),.s (x.Bq.Power.Ao.map pI),.s (x.Bq.Power.Al.map q88),.s (x.Bq.Be.map Ct),.s (x.Bq.Bm.map Ey),.v (.int .i64 x.Ap.Am),.s (x.Ap.Ah.map Bw),.s (x.Ap.Ae.map Cg),.s (x.Ap.Ag.map B8),.v (.int .i64 x.Ap.Phase),.v (.int .i64 x.Ap.Ar),.s (x.events.map Ey),.s (x.states.map q64)]
structure Bg where
 Ap:Aa
 Aw:Ad
 time:Int
 deriving Inhabited
def A94(x:Bg):List Pd:=[.v (.int .i64 x.Ap.Am),.s (x.Ap.Ah.map Bw),.s (x.Ap.Ae.map Cg),.s (x.Ap.Ag.map B8),.v (.int .i64 x.Ap.Phase),.v (.int .i64 x.Ap.Ar),.s (x.Aw.Ai.map pB),.s (x.Aw.Ae.map Bl),.s (x.Aw.Ao.map pI),.s (x.Aw.Al.map q88),.v (.int .i64 x.time)]
structure A7 where
 Ap:Aa
 Aw:Ad
 acts:List A0
 deriving Inhabited
def A93(x:A7):List Pd:=[.v (.int .i64 x.Ap.Am),.s (x.Ap.Ah.map Bw),.s (x.Ap.Ae.map Cg),.s (x.Ap.Ag.map B8),.v (.int .i64 x.Ap.Phase),.v (.int .i64 x.Ap.Ar),.s (x.Aw.Ai.map pB),.s (x.Aw.Ae.map Bl),.s (x.Aw.Ao.map pI),.s (x.Aw.Al.map q88),.s (x.acts.map Fb)]
structure A6 where
 X:Int
 Y:Int
 deriving Inhabited
def C7(x:A6):List Pd:=[.v (.int .i64 x.X),.v (.int .i64 x.Y)]
structure Bc where
 Surge:Int
 Bow:Int
 Stern:Int
 deriving Inhabited
def A97(x:Bc):List Pd:=[.v (.int .i64 x.Surge),.v (.int .i64 x.Bow),.v (.int .i64 x.Stern)]
structure Gf where
 Thrusts:List A6
 Given:Bc
 Missing:Bc
 deriving Inhabited
def A95(x:Gf):List Pd:=[.s (x.Thrusts.map C7),.v (.int .i64 x.Given.Surge),.v (.int .i64 x.Given.Bow),.v (.int .i64 x.Given.Stern),.v (.int .i64 x.Missing.Surge),.v (.int .i64 x.Missing.Bow),.v (.int .i64 x.Missing.Stern)]
structure B0 where
 thrusters:List An
 last:List A6
 deriving Inhabited
def A92(x:B0):List Pd:=[.s (x.thrusters.map De),.s (x.last.map C7)]
structure Ay where
 Low:Int
 High:Int
 Cost:Int
 deriving Inhabited
def Dr(x:Ay):List Pd:=[.v (.int .i64 x.Low),.v (.int .i64 x.High),.v (.int .i64 x.Cost)]
structure Bi where
 Part:Ab
 Holds:Bool
 deriving Inhabited
def q98(x:Bi):List Pd:=[.v (.int .i64 x.Part.Kind),.v (.int .i64 x.Part.Number),.v (.bool x.Holds)]
structure Af where
 L:List Int
 At:Int
 deriving Inhabited
def A98(x:Af):List Pd:=[.s (x.L.map pI),.v (.int .i64 x.At)]
def d28(x:Hm):List D:=[DS pI x.Surge,DS pI x.Sway,DS pI x.Yaw]
def d30(x:Lq):List D:=[DS pI x.Wind.Surge,DS pI x.Wind.Sway,DS pI x.Wind.Yaw,DS pI x.Current.Surge,DS pI x.Current.Sway,DS pI x.Current.Yaw,DS pI x.Wave.Surge,DS pI x.Wave.Sway,DS pI x.Wave.Yaw,I x.Mass,I x.Inertia,I x.Drag,I x.Spin]
def S9(x:Bu):List D:=[I x.From,I x.To]
def Gw(x:An):List D:=[I x.Kind,I x.Station,I x.Max,I x.Rate,I x.Cost,DS E8 x.B5]
def d33(x:A3):List D:=[I x.Bow,I x.Stern,DS De x.Av]
def Agn(x:Ak):List D:=[I x.Kind,I x.A,I x.B]
def A9x(x:B9):List D:=[I x.Rating,I x.Least,I x.Start]
def A5c(x:A_):List D:=[I x.Load,I x.Least,I x.B6,I x.Thruster,DS pI x.Needs]
def d38(x:Aa):List D:=[I x.Am,DS Bw x.Ah,DS Cg x.Ae,DS B8 x.Ag,I x.Phase,I x.Ar]
def d40(x:By):List D:=[I x.Start,I x.Stop,I x.Delay]
def d88(x:Ab):List D:=[I x.Kind,I x.Number]
def A5d(x:Bh):List D:=[I x.From.Kind,I x.From.Number,I x.To.Kind,I x.To.Number]
def Ago(x:Bz):List D:=[.p (.v (.string x.Name)),DS q88 x.Parts]
def d44(x:Bf):List D:=[DS q88 x.Parts,DS Fs x.Links,DS Hp x.Groups]
def A9w(x:Dq):List D:=[I x.Cause,I x.Speed,I x.Stale,I x.Freeze]
def d47(x:Mo):List D:=[I x.Near,I x.Sum,I x.Calm,I x.Point,I x.Drift,I x.Still,I x.MostSum,I x.MostForce,I x.MostYaw]
def d49(x:Pl):List D:=[I x.X,I x.Y]
def d51(x:Tk):List D:=[I x.Place.X,I x.Place.Y,I x.Heading]
def d53(x:K6):List D:=[I x.Place.X,I x.Place.Y,I x.Yellow,I x.Red]
def d55(x:H1):List D:=[.p (.v (.string x.Name)),I x.Class,I x.Circle.Place.X,I x.Circle.Place.Y,I x.Circle.Yellow,I x.Circle.Red,I x.Drift]
def A_c(x:I0):List D:=[.p (.v (.string x.Name)),I x.Ticks,I x.Tries,DS pI x.Needs]
def d60(x:Ba):List D:=[DS pI x.Hull.Wind.Surge,DS pI x.Hull.Wind.Sway,DS pI x.Hull.Wind.Yaw,DS pI x.Hull.Current.Surge,DS pI x.Hull.Current.Sway,DS pI x.Hull.Current.Yaw,DS pI x.Hull.Wave.Surge,DS pI x.Hull.Wave.Sway,DS pI x.Hull.Wave.Yaw,I x.Hull.Mass,I x.Hull.Inertia,I x.Hull.Drag,I x.Hull.Spin,I x.Ship.Bow,I x.Ship.Stern,DS De x.Ship.Av,I x.Board.Am,DS Bw x.Board.Ah,DS Cg x.Board.Ae,DS B8 x.Board.Ag,I x.Board.Phase,I x.Board.Ar,I x.Table.Start,I x.Table.Stop,I x.Table.Delay,DS q88 x.Design.Parts,DS Fs x.Design.Links,DS Hp x.Design.Groups,DS Ks x.References,I x.Gains.Near,I x.Gains.Sum,I x.Gains.Calm,I x.Gains.Point,I x.Gains.Drift,I x.Gains.Still,I x.Gains.MostSum,I x.Gains.MostForce,I x.Gains.MostYaw,I x.Target.Place.X,I x.Target.Place.Y,I x.Target.Heading,I x.Delay,.p (.v (.string x.Operation.Name)),I x.Operation.Class,I x.Operation.Circle.Place.X,I x.Operation.Circle.Place.Y,I x.Operation.Circle.Yellow,I x.Operation.Circle.Red,I x.Operation.Drift,DS yJ x.Sequence.Stages]
def Y_(x:Aj):List D:=[I x.State,I x.Since,I x.Ar,I x.Phase]
def d64(x:Ad):List D:=[DS pB x.Ai,DS Bl x.Ae,DS pI x.Ao,DS q88 x.Al]
def Axx(x:Bb):List D:=[I x.High,I x.Low]
def P3(x:A0):List D:=[I x.Kind,I x.Unit,I x.Value]
def A_e(x:B1):List D:=[I x.Time,I x.Act.Kind,I x.Act.Unit,I x.Act.Value,I x.Err]
def d68(x:As):List D:=[I x.Time,DS pB x.Power.Ai,DS Bl x.Power.Ae,DS pI x.Power.Ao,DS q88 x.Power.Al,DS Ct x.Be,DS Ey x.Bm]
def Vp(x:Aq):List D:=[DS pI x.Am,DS pI x.Ae,DS pI x.Ag]
def d81(x:A4):List D:=[I x.Surge,I x.Sway,I x.Yaw]
def A_f(x:Co):List D:=[I x.Bq.Time,DS pB x.Bq.Power.Ai,DS Bl x.Bq.Power.Ae,DS pI x.Bq.Power.Ao,DS q88 x.Bq.Power.Al,DS Ct x.Bq.Be,DS Ey x.Bq.Bm,I x.Ap.Am,DS Bw x.Ap.Ah,DS Cg x.Ap.Ae,DS B8 x.Ap.Ag,I x.Ap.Phase,I x.Ap.Ar,DS Ey x.events,DS q64 x.states]
def A_a(x:Bg):List D:=[I x.Ap.Am,DS Bw x.Ap.Ah,DS Cg x.Ap.Ae,DS B8 x.Ap.Ag,I x.Ap.Phase,I x.Ap.Ar,DS pB x.Aw.Ai,DS Bl x.Aw.Ae,DS pI x.Aw.Ao,DS q88 x.Aw.Al,I x.time]
def A99(x:A7):List D:=[I x.Ap.Am,DS Bw x.Ap.Ah,DS Cg x.Ap.Ae,DS B8 x.Ap.Ag,I x.Ap.Phase,I x.Ap.Ar,DS pB x.Aw.Ai,DS Bl x.Aw.Ae,DS pI x.Aw.Ao,DS q88 x.Aw.Al,DS Fb x.acts]
def A_b(x:A6):List D:=[I x.X,I x.Y]
def Gv(x:Bc):List D:=[I x.Surge,I x.Bow,I x.Stern]
def A_d(x:Gf):List D:=[DS C7 x.Thrusts,I x.Given.Surge,I x.Given.Bow,I x.Given.Stern,I x.Missing.Surge,I x.Missing.Bow,I x.Missing.Stern]
def Ao0(x:B0):List D:=[DS De x.thrusters,DS C7 x.last]
def Ao1(x:Ay):List D:=[I x.Low,I x.High,I x.Cost]
def d98(x:Bi):List D:=[I x.Part.Kind,I x.Part.Number,Bo x.Holds]
def B_(x:Af):List D:=[DS pI x.L,I x.At]
end Go.Proofs.YtiaaaghdkhnonaaGreat
