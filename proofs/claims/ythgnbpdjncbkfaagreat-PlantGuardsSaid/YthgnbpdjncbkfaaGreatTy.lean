import Derived.Test.YthgnbpdjncbkfaaGreatSlV
set_option linter.unusedVariables false
namespace Go.Proofs.YthgnbpdjncbkfaaGreat
open Go.SL
structure Ai where
 L : List Int
 At : Int
 deriving Inhabited
def q90 (x : Ai) : List Pd := [.s (x.L.map pI), .v (.int .i64 x.At)]
structure Aj where
 Kind : Int
 A : Int
 B : Int
 deriving Inhabited
def Bg (x : Aj) : List Pd := [.v (.int .i64 x.Kind), .v (.int .i64 x.A), .v (.int .i64 x.B)]
structure Bf where
 Rating : Int
 Least : Int
 Start : Int
 deriving Inhabited
def Bu (x : Bf) : List Pd := [.v (.int .i64 x.Rating), .v (.int .i64 x.Least), .v (.int .i64 x.Start)]
structure A1 where
 Load : Int
 Least : Int
 Bn : Int
 Thruster : Int
 Needs : List Int
 deriving Inhabited
def q65 (x : A1) : List Pd := [.v (.int .i64 x.Load), .v (.int .i64 x.Least), .v (.int .i64 x.Bn), .v (.int .i64 x.Thruster), .s (x.Needs.map pI)]
structure Aa where
 Aq : Int
 Ae : List Aj
 Ac : List Bf
 Ad : List A1
 Phase : Int
 Ar : Int
 deriving Inhabited
def q29 (x : Aa) : List Pd := [.v (.int .i64 x.Aq), .s (x.Ae.map Bg), .s (x.Ac.map Bu), .s (x.Ad.map q65), .v (.int .i64 x.Phase), .v (.int .i64 x.Ar)]
structure Bk where
 Start : Int
 Stop : Int
 Delay : Int
 deriving Inhabited
def q31 (x : Bk) : List Pd := [.v (.int .i64 x.Start), .v (.int .i64 x.Stop), .v (.int .i64 x.Delay)]
structure Ah where
 State : Int
 Since : Int
 Ar : Int
 Phase : Int
 deriving Inhabited
def A_ (x : Ah) : List Pd := [.v (.int .i64 x.State), .v (.int .i64 x.Since), .v (.int .i64 x.Ar), .v (.int .i64 x.Phase)]
structure Al where
 Kind : Int
 Number : Int
 deriving Inhabited
def q86 (x : Al) : List Pd := [.v (.int .i64 x.Kind), .v (.int .i64 x.Number)]
structure Ab where
 Ag : List Bool
 Ac : List Ah
 Ak : List Int
 Ao : List Al
 deriving Inhabited
def q36 (x : Ab) : List Pd := [.s (x.Ag.map pB), .s (x.Ac.map A_), .s (x.Ak.map pI), .s (x.Ao.map q86)]
structure A3 where
 High : Int
 Low : Int
 deriving Inhabited
def Ce (x : A3) : List Pd := [.v (.int .i64 x.High), .v (.int .i64 x.Low)]
structure An where
 Kind : Int
 Unit : Int
 Value : Int
 deriving Inhabited
def q49 (x : An) : List Pd := [.v (.int .i64 x.Kind), .v (.int .i64 x.Unit), .v (.int .i64 x.Value)]
structure Bl where
 Time : Int
 Act : An
 Err : Int
 deriving Inhabited
def q51 (x : Bl) : List Pd := [.v (.int .i64 x.Time), .v (.int .i64 x.Act.Kind), .v (.int .i64 x.Act.Unit), .v (.int .i64 x.Act.Value), .v (.int .i64 x.Err)]
structure A0 where
 Time : Int
 Power : Ab
 A6 : List A3
 Bc : List Bl
 deriving Inhabited
def q40 (x : A0) : List Pd := [.v (.int .i64 x.Time), .s (x.Power.Ag.map pB), .s (x.Power.Ac.map A_), .s (x.Power.Ak.map pI), .s (x.Power.Ao.map q86), .s (x.A6.map Ce), .s (x.Bc.map q51)]
structure Af where
 Aq : List Int
 Ac : List Int
 Ad : List Int
 deriving Inhabited
def q84 (x : Af) : List Pd := [.s (x.Aq.map pI), .s (x.Ac.map pI), .s (x.Ad.map pI)]
structure A4 where
 Ay : A0
 Am : Aa
 events : List Bl
 states : List Ab
 deriving Inhabited
def Bc9 (x : A4) : List Pd := [.v (.int .i64 x.Ay.Time), .s (x.Ay.Power.Ag.map pB), .s (x.Ay.Power.Ac.map A_), .s (x.Ay.Power.Ak.map pI), .s (x.Ay.Power.Ao.map q86), .s (x.Ay.A6.map Ce), .s (x.Ay.Bc.map q51), .v (.int .i64 x.Am.Aq), .s (x.Am.Ae.map Bg), .s (x.Am.Ac.map Bu), .s (x.Am.Ad.map q65), .v (.int .i64 x.Am.Phase), .v (.int .i64 x.Am.Ar), .s (x.events.map q51), .s (x.states.map q36)]
structure A2 where
 Am : Aa
 Au : Ab
 time : Int
 deriving Inhabited
def Bc8 (x : A2) : List Pd := [.v (.int .i64 x.Am.Aq), .s (x.Am.Ae.map Bg), .s (x.Am.Ac.map Bu), .s (x.Am.Ad.map q65), .v (.int .i64 x.Am.Phase), .v (.int .i64 x.Am.Ar), .s (x.Au.Ag.map pB), .s (x.Au.Ac.map A_), .s (x.Au.Ak.map pI), .s (x.Au.Ao.map q86), .v (.int .i64 x.time)]
structure Ax where
 Am : Aa
 Au : Ab
 acts : List An
 deriving Inhabited
def Bc7 (x : Ax) : List Pd := [.v (.int .i64 x.Am.Aq), .s (x.Am.Ae.map Bg), .s (x.Am.Ac.map Bu), .s (x.Am.Ad.map q65), .v (.int .i64 x.Am.Phase), .v (.int .i64 x.Am.Ar), .s (x.Au.Ag.map pB), .s (x.Au.Ac.map A_), .s (x.Au.Ak.map pI), .s (x.Au.Ao.map q86), .s (x.acts.map q49)]
structure Dh where
 From : Int
 To : Int
 deriving Inhabited
def Xi (x : Dh) : List Pd := [.v (.int .i64 x.From), .v (.int .i64 x.To)]
structure Bz where
 Kind : Int
 Station : Int
 Max : Int
 Rate : Int
 Cost : Int
 Hu : List Dh
 deriving Inhabited
def q63 (x : Bz) : List Pd := [.v (.int .i64 x.Kind), .v (.int .i64 x.Station), .v (.int .i64 x.Max), .v (.int .i64 x.Rate), .v (.int .i64 x.Cost), .s (x.Hu.map Xi)]
structure F1 where
 Bow : Int
 Stern : Int
 De : List Bz
 deriving Inhabited
def q57 (x : F1) : List Pd := [.v (.int .i64 x.Bow), .v (.int .i64 x.Stern), .s (x.De.map q63)]
structure Fx where
 X : Int
 Y : Int
 deriving Inhabited
def q70 (x : Fx) : List Pd := [.v (.int .i64 x.X), .v (.int .i64 x.Y)]
def d90 (x : Ai) : List D := [DS pI x.L, I x.At]
def Oc (x : Aj) : List D := [I x.Kind, I x.A, I x.B]
def A8f (x : Bf) : List D := [I x.Rating, I x.Least, I x.Start]
def d65 (x : A1) : List D := [I x.Load, I x.Least, I x.Bn, I x.Thruster, DS pI x.Needs]
def d29 (x : Aa) : List D := [I x.Aq, DS Bg x.Ae, DS Bu x.Ac, DS q65 x.Ad, I x.Phase, I x.Ar]
def d31 (x : Bk) : List D := [I x.Start, I x.Stop, I x.Delay]
def Tr (x : Ah) : List D := [I x.State, I x.Since, I x.Ar, I x.Phase]
def d86 (x : Al) : List D := [I x.Kind, I x.Number]
def d36 (x : Ab) : List D := [DS pB x.Ag, DS A_ x.Ac, DS pI x.Ak, DS q86 x.Ao]
def A0i (x : A3) : List D := [I x.High, I x.Low]
def d49 (x : An) : List D := [I x.Kind, I x.Unit, I x.Value]
def d51 (x : Bl) : List D := [I x.Time, I x.Act.Kind, I x.Act.Unit, I x.Act.Value, I x.Err]
def d40 (x : A0) : List D := [I x.Time, DS pB x.Power.Ag, DS A_ x.Power.Ac, DS pI x.Power.Ak, DS q86 x.Power.Ao, DS Ce x.A6, DS q51 x.Bc]
def d84 (x : Af) : List D := [DS pI x.Aq, DS pI x.Ac, DS pI x.Ad]
def Bdc (x : A4) : List D := [I x.Ay.Time, DS pB x.Ay.Power.Ag, DS A_ x.Ay.Power.Ac, DS pI x.Ay.Power.Ak, DS q86 x.Ay.Power.Ao, DS Ce x.Ay.A6, DS q51 x.Ay.Bc, I x.Am.Aq, DS Bg x.Am.Ae, DS Bu x.Am.Ac, DS q65 x.Am.Ad, I x.Am.Phase, I x.Am.Ar, DS q51 x.events, DS q36 x.states]
def Bdb (x : A2) : List D := [I x.Am.Aq, DS Bg x.Am.Ae, DS Bu x.Am.Ac, DS q65 x.Am.Ad, I x.Am.Phase, I x.Am.Ar, DS pB x.Au.Ag, DS A_ x.Au.Ac, DS pI x.Au.Ak, DS q86 x.Au.Ao, I x.time]
def Bda (x : Ax) : List D := [I x.Am.Aq, DS Bg x.Am.Ae, DS Bu x.Am.Ac, DS q65 x.Am.Ad, I x.Am.Phase, I x.Am.Ar, DS pB x.Au.Ag, DS A_ x.Au.Ac, DS pI x.Au.Ak, DS q86 x.Au.Ao, DS q49 x.acts]
def Arb (x : Dh) : List D := [I x.From, I x.To]
def d63 (x : Bz) : List D := [I x.Kind, I x.Station, I x.Max, I x.Rate, I x.Cost, DS Xi x.Hu]
def d57 (x : F1) : List D := [I x.Bow, I x.Stern, DS q63 x.De]
def d70 (x : Fx) : List D := [I x.X, I x.Y]
end Go.Proofs.YthgnbpdjncbkfaaGreat
