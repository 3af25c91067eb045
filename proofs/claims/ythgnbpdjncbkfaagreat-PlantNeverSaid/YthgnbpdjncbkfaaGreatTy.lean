import Derived.Test.YthgnbpdjncbkfaaGreatSlV
set_option linter.unusedVariables false
namespace Go.Proofs.YthgnbpdjncbkfaaGreat
open Go.SL
structure Ah where
 L : List Int
 At : Int
 deriving Inhabited
def q90 (x : Ah) : List Pd := [.s (x.L.map pI), .v (.int .i64 x.At)]
structure Aj where
 Kind : Int
 A : Int
 B : Int
 deriving Inhabited
def Bi (x : Aj) : List Pd := [.v (.int .i64 x.Kind), .v (.int .i64 x.A), .v (.int .i64 x.B)]
structure Bh where
 Rating : Int
 Least : Int
 Start : Int
 deriving Inhabited
def Br (x : Bh) : List Pd := [.v (.int .i64 x.Rating), .v (.int .i64 x.Least), .v (.int .i64 x.Start)]
structure A3 where
 Load : Int
 Least : Int
 B4 : Int
 Thruster : Int
 Needs : List Int
 deriving Inhabited
def q65 (x : A3) : List Pd := [.v (.int .i64 x.Load), .v (.int .i64 x.Least), .v (.int .i64 x.B4), .v (.int .i64 x.Thruster), .s (x.Needs.map pI)]
structure Aa where
 Al : Int
 Ad : List Aj
 Ac : List Bh
 Af : List A3
 Phase : Int
 An : Int
 deriving Inhabited
def q29 (x : Aa) : List Pd := [.v (.int .i64 x.Al), .s (x.Ad.map Bi), .s (x.Ac.map Br), .s (x.Af.map q65), .v (.int .i64 x.Phase), .v (.int .i64 x.An)]
structure Bd where
 Start : Int
 Stop : Int
 Delay : Int
 deriving Inhabited
def q31 (x : Bd) : List Pd := [.v (.int .i64 x.Start), .v (.int .i64 x.Stop), .v (.int .i64 x.Delay)]
structure Ae where
 State : Int
 Since : Int
 An : Int
 Phase : Int
 deriving Inhabited
def A_ (x : Ae) : List Pd := [.v (.int .i64 x.State), .v (.int .i64 x.Since), .v (.int .i64 x.An), .v (.int .i64 x.Phase)]
structure Am where
 Kind : Int
 Number : Int
 deriving Inhabited
def q86 (x : Am) : List Pd := [.v (.int .i64 x.Kind), .v (.int .i64 x.Number)]
structure Ab where
 Ag : List Bool
 Ac : List Ae
 Aq : List Int
 Ao : List Am
 deriving Inhabited
def q36 (x : Ab) : List Pd := [.s (x.Ag.map pB), .s (x.Ac.map A_), .s (x.Aq.map pI), .s (x.Ao.map q86)]
structure A0 where
 High : Int
 Low : Int
 deriving Inhabited
def B2 (x : A0) : List Pd := [.v (.int .i64 x.High), .v (.int .i64 x.Low)]
structure Ap where
 Kind : Int
 Unit : Int
 Value : Int
 deriving Inhabited
def q49 (x : Ap) : List Pd := [.v (.int .i64 x.Kind), .v (.int .i64 x.Unit), .v (.int .i64 x.Value)]
structure Bg where
 Time : Int
 Act : Ap
 Err : Int
 deriving Inhabited
def q51 (x : Bg) : List Pd := [.v (.int .i64 x.Time), .v (.int .i64 x.Act.Kind), .v (.int .i64 x.Act.Unit), .v (.int .i64 x.Act.Value), .v (.int .i64 x.Err)]
structure Az where
 Time : Int
 Power : Ab
 A5 : List A0
 A6 : List Bg
 deriving Inhabited
def q40 (x : Az) : List Pd := [.v (.int .i64 x.Time), .s (x.Power.Ag.map pB), .s (x.Power.Ac.map A_), .s (x.Power.Aq.map pI), .s (x.Power.Ao.map q86), .s (x.A5.map B2), .s (x.A6.map q51)]
structure Ai where
 Al : List Int
 Ac : List Int
 Af : List Int
 deriving Inhabited
def q84 (x : Ai) : List Pd := [.s (x.Al.map pI), .s (x.Ac.map pI), .s (x.Af.map pI)]
structure A1 where
 Av : Az
 Ak : Aa
 events : List Bg
 states : List Ab
 deriving Inhabited
def Bcm (x : A1) : List Pd := [.v (.int .i64 x.Av.Time), .s (x.Av.Power.Ag.map pB), .s (x.Av.Power.Ac.map A_), .s (x.Av.Power.Aq.map pI), .s (x.Av.Power.Ao.map q86), .s (x.Av.A5.map B2), .s (x.Av.A6.map q51), .v (.int .i64 x.Ak.Al), .s (x.Ak.Ad.map Bi), .s (x.Ak.Ac.map Br), .s (x.Ak.Af.map q65), .v (.int .i64 x.Ak.Phase), .v (.int .i64 x.Ak.An), .s (x.events.map q51), .s (x.states.map q36)]
structure A2 where
 Ak : Aa
 Aw : Ab
 time : Int
 deriving Inhabited
def Bcl (x : A2) : List Pd := [.v (.int .i64 x.Ak.Al), .s (x.Ak.Ad.map Bi), .s (x.Ak.Ac.map Br), .s (x.Ak.Af.map q65), .v (.int .i64 x.Ak.Phase), .v (.int .i64 x.Ak.An), .s (x.Aw.Ag.map pB), .s (x.Aw.Ac.map A_), .s (x.Aw.Aq.map pI), .s (x.Aw.Ao.map q86), .v (.int .i64 x.time)]
structure Ay where
 Ak : Aa
 Aw : Ab
 acts : List Ap
 deriving Inhabited
def Bck (x : Ay) : List Pd := [.v (.int .i64 x.Ak.Al), .s (x.Ak.Ad.map Bi), .s (x.Ak.Ac.map Br), .s (x.Ak.Af.map q65), .v (.int .i64 x.Ak.Phase), .v (.int .i64 x.Ak.An), .s (x.Aw.Ag.map pB), .s (x.Aw.Ac.map A_), .s (x.Aw.Aq.map pI), .s (x.Aw.Ao.map q86), .s (x.acts.map q49)]
structure Df where
 From : Int
 To : Int
 deriving Inhabited
def Yi (x : Df) : List Pd := [.v (.int .i64 x.From), .v (.int .i64 x.To)]
structure By where
 Kind : Int
 Station : Int
 Max : Int
 Rate : Int
 Cost : Int
 Hr : List Df
 deriving Inhabited
def q63 (x : By) : List Pd := [.v (.int .i64 x.Kind), .v (.int .i64 x.Station), .v (.int .i64 x.Max), .v (.int .i64 x.Rate), .v (.int .i64 x.Cost), .s (x.Hr.map Yi)]
structure Fv where
 Bow : Int
 Stern : Int
 De : List By
 deriving Inhabited
def q57 (x : Fv) : List Pd := [.v (.int .i64 x.Bow), .v (.int .i64 x.Stern), .s (x.De.map q63)]
structure Fr where
 X : Int
 Y : Int
 deriving Inhabited
def q70 (x : Fr) : List Pd := [.v (.int .i64 x.X), .v (.int .i64 x.Y)]
def d90 (x : Ah) : List D := [DS pI x.L, I x.At]
def O9 (x : Aj) : List D := [I x.Kind, I x.A, I x.B]
def A7q (x : Bh) : List D := [I x.Rating, I x.Least, I x.Start]
def d65 (x : A3) : List D := [I x.Load, I x.Least, I x.B4, I x.Thruster, DS pI x.Needs]
def d29 (x : Aa) : List D := [I x.Al, DS Bi x.Ad, DS Br x.Ac, DS q65 x.Af, I x.Phase, I x.An]
def d31 (x : Bd) : List D := [I x.Start, I x.Stop, I x.Delay]
def O_ (x : Ae) : List D := [I x.State, I x.Since, I x.An, I x.Phase]
def d86 (x : Am) : List D := [I x.Kind, I x.Number]
def d36 (x : Ab) : List D := [DS pB x.Ag, DS A_ x.Ac, DS pI x.Aq, DS q86 x.Ao]
def Azy (x : A0) : List D := [I x.High, I x.Low]
def d49 (x : Ap) : List D := [I x.Kind, I x.Unit, I x.Value]
def d51 (x : Bg) : List D := [I x.Time, I x.Act.Kind, I x.Act.Unit, I x.Act.Value, I x.Err]
def d40 (x : Az) : List D := [I x.Time, DS pB x.Power.Ag, DS A_ x.Power.Ac, DS pI x.Power.Aq, DS q86 x.Power.Ao, DS B2 x.A5, DS q51 x.A6]
def d84 (x : Ai) : List D := [DS pI x.Al, DS pI x.Ac, DS pI x.Af]
def Bcp (x : A1) : List D := [I x.Av.Time, DS pB x.Av.Power.Ag, DS A_ x.Av.Power.Ac, DS pI x.Av.Power.Aq, DS q86 x.Av.Power.Ao, DS B2 x.Av.A5, DS q51 x.Av.A6, I x.Ak.Al, DS Bi x.Ak.Ad, DS Br x.Ak.Ac, DS q65 x.Ak.Af, I x.Ak.Phase, I x.Ak.An, DS q51 x.events, DS q36 x.states]
def Bco (x : A2) : List D := [I x.Ak.Al, DS Bi x.Ak.Ad, DS Br x.Ak.Ac, DS q65 x.Ak.Af, I x.Ak.Phase, I x.Ak.An, DS pB x.Aw.Ag, DS A_ x.Aw.Ac, DS pI x.Aw.Aq, DS q86 x.Aw.Ao, I x.time]
def Bcn (x : Ay) : List D := [I x.Ak.Al, DS Bi x.Ak.Ad, DS Br x.Ak.Ac, DS q65 x.Ak.Af, I x.Ak.Phase, I x.Ak.An, DS pB x.Aw.Ag, DS A_ x.Aw.Ac, DS pI x.Aw.Aq, DS q86 x.Aw.Ao, DS q49 x.acts]
def Ark (x : Df) : List D := [I x.From, I x.To]
def d63 (x : By) : List D := [I x.Kind, I x.Station, I x.Max, I x.Rate, I x.Cost, DS Yi x.Hr]
def d57 (x : Fv) : List D := [I x.Bow, I x.Stern, DS q63 x.De]
def d70 (x : Fr) : List D := [I x.X, I x.Y]
end Go.Proofs.YthgnbpdjncbkfaaGreat
