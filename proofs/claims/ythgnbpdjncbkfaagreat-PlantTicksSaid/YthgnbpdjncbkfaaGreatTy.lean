import Derived.Test.YthgnbpdjncbkfaaGreatSlV
set_option linter.unusedVariables false
namespace Go.Proofs.YthgnbpdjncbkfaaGreat
open Go.SL
structure Aj where
 L : List Int
 At : Int
 deriving Inhabited
def q90 (x : Aj) : List Pd := [.s (x.L.map pI), .v (.int .i64 x.At)]
structure Ak where
 Kind : Int
 A : Int
 B : Int
 deriving Inhabited
def Bi (x : Ak) : List Pd := [.v (.int .i64 x.Kind), .v (.int .i64 x.A), .v (.int .i64 x.B)]
structure Bh where
 Rating : Int
 Least : Int
 Start : Int
 deriving Inhabited
def Bt (x : Bh) : List Pd := [.v (.int .i64 x.Rating), .v (.int .i64 x.Least), .v (.int .i64 x.Start)]
structure A1 where
 Load : Int
 Least : Int
 Bn : Int
 Thruster : Int
 Needs : List Int
 deriving Inhabited
def q65 (x : A1) : List Pd := [.v (.int .i64 x.Load), .v (.int .i64 x.Least), .v (.int .i64 x.Bn), .v (.int .i64 x.Thruster), .s (x.Needs.map pI)]
structure Aa where
 An : Int
 Ag : List Ak
 Ac : List Bh
 Ae : List A1
 Phase : Int
 Aq : Int
 deriving Inhabited
def q29 (x : Aa) : List Pd := [.v (.int .i64 x.An), .s (x.Ag.map Bi), .s (x.Ac.map Bt), .s (x.Ae.map q65), .v (.int .i64 x.Phase), .v (.int .i64 x.Aq)]
structure Bf where
 Start : Int
 Stop : Int
 Delay : Int
 deriving Inhabited
def q31 (x : Bf) : List Pd := [.v (.int .i64 x.Start), .v (.int .i64 x.Stop), .v (.int .i64 x.Delay)]
structure Af where
 State : Int
 Since : Int
 Aq : Int
 Phase : Int
 deriving Inhabited
def A6 (x : Af) : List Pd := [.v (.int .i64 x.State), .v (.int .i64 x.Since), .v (.int .i64 x.Aq), .v (.int .i64 x.Phase)]
structure Am where
 Kind : Int
 Number : Int
 deriving Inhabited
def q86 (x : Am) : List Pd := [.v (.int .i64 x.Kind), .v (.int .i64 x.Number)]
structure Ab where
 Ah : List Bool
 Ac : List Af
 Ar : List Int
 Ao : List Am
 deriving Inhabited
def q36 (x : Ab) : List Pd := [.s (x.Ah.map pB), .s (x.Ac.map A6), .s (x.Ar.map pI), .s (x.Ao.map q86)]
structure Az where
 High : Int
 Low : Int
 deriving Inhabited
def B2 (x : Az) : List Pd := [.v (.int .i64 x.High), .v (.int .i64 x.Low)]
structure Ap where
 Kind : Int
 Unit : Int
 Value : Int
 deriving Inhabited
def q49 (x : Ap) : List Pd := [.v (.int .i64 x.Kind), .v (.int .i64 x.Unit), .v (.int .i64 x.Value)]
structure Bg where
 Time : Int
 Act : Ap
 Err : Int
 deriving Inhabited
def q51 (x : Bg) : List Pd := [.v (.int .i64 x.Time), .v (.int .i64 x.Act.Kind), .v (.int .i64 x.Act.Unit), .v (.int .i64 x.Act.Value), .v (.int .i64 x.Err)]
structure A0 where
 Time : Int
 Power : Ab
 A5 : List Az
 A7 : List Bg
 deriving Inhabited
def q40 (x : A0) : List Pd := [.v (.int .i64 x.Time), .s (x.Power.Ah.map pB), .s (x.Power.Ac.map A6), .s (x.Power.Ar.map pI), .s (x.Power.Ao.map q86), .s (x.A5.map B2), .s (x.A7.map q51)]
structure Ai where
 An : List Int
 Ac : List Int
 Ae : List Int
 deriving Inhabited
def q84 (x : Ai) : List Pd := [.s (x.An.map pI), .s (x.Ac.map pI), .s (x.Ae.map pI)]
structure A4 where
 Av : A0
 Al : Aa
 events : List Bg
 states : List Ab
 deriving Inhabited
def Bae (x : A4) : List Pd := [.v (.int .i64 x.Av.Time), .s (x.Av.Power.Ah.map pB), .s (x.Av.Power.Ac.map A6), .s (x.Av.Power.Ar.map pI), .s (x.Av.Power.Ao.map q86), .s (x.Av.A5.map B2), .s (x.Av.A7.map q51), .v (.int .i64 x.Al.An), .s (x.Al.Ag.map Bi), .s (x.Al.Ac.map Bt), .s (x.Al.Ae.map q65), .v (.int .i64 x.Al.Phase), .v (.int .i64 x.Al.Aq), .s (x.events.map q51), .s (x.states.map q36)]
structure A3 where
 Al : Aa
 Au : Ab
 time : Int
 deriving Inhabited
def Bad (x : A3) : List Pd := [.v (.int .i64 x.Al.An), .s (x.Al.Ag.map Bi), .s (x.Al.Ac.map Bt), .s (x.Al.Ae.map q65), .v (.int .i64 x.Al.Phase), .v (.int .i64 x.Al.Aq), .s (x.Au.Ah.map pB), .s (x.Au.Ac.map A6), .s (x.Au.Ar.map pI), .s (x.Au.Ao.map q86), .v (.int .i64 x.time)]
structure Ax where
 Al : Aa
 Au : Ab
 acts : List Ap
 deriving Inhabited
def Bac (x : Ax) : List Pd := [.v (.int .i64 x.Al.An), .s (x.Al.Ag.map Bi), .s (x.Al.Ac.map Bt), .s (x.Al.Ae.map q65), .v (.int .i64 x.Al.Phase), .v (.int .i64 x.Al.Aq), .s (x.Au.Ah.map pB), .s (x.Au.Ac.map A6), .s (x.Au.Ar.map pI), .s (x.Au.Ao.map q86), .s (x.acts.map q49)]
structure C6 where
 From : Int
 To : Int
 deriving Inhabited
def Yd (x : C6) : List Pd := [.v (.int .i64 x.From), .v (.int .i64 x.To)]
structure B0 where
 Kind : Int
 Station : Int
 Max : Int
 Rate : Int
 Cost : Int
 Hd : List C6
 deriving Inhabited
def q63 (x : B0) : List Pd := [.v (.int .i64 x.Kind), .v (.int .i64 x.Station), .v (.int .i64 x.Max), .v (.int .i64 x.Rate), .v (.int .i64 x.Cost), .s (x.Hd.map Yd)]
structure Fp where
 Bow : Int
 Stern : Int
 Cy : List B0
 deriving Inhabited
def q57 (x : Fp) : List Pd := [.v (.int .i64 x.Bow), .v (.int .i64 x.Stern), .s (x.Cy.map q63)]
structure Fk where
 X : Int
 Y : Int
 deriving Inhabited
def q70 (x : Fk) : List Pd := [.v (.int .i64 x.X), .v (.int .i64 x.Y)]
def d90 (x : Aj) : List D := [DS pI x.L, I x.At]
def Ot (x : Ak) : List D := [I x.Kind, I x.A, I x.B]
def A5g (x : Bh) : List D := [I x.Rating, I x.Least, I x.Start]
def d65 (x : A1) : List D := [I x.Load, I x.Least, I x.Bn, I x.Thruster, DS pI x.Needs]
def d29 (x : Aa) : List D := [I x.An, DS Bi x.Ag, DS Bt x.Ac, DS q65 x.Ae, I x.Phase, I x.Aq]
def d31 (x : Bf) : List D := [I x.Start, I x.Stop, I x.Delay]
def T7 (x : Af) : List D := [I x.State, I x.Since, I x.Aq, I x.Phase]
def d86 (x : Am) : List D := [I x.Kind, I x.Number]
def d36 (x : Ab) : List D := [DS pB x.Ah, DS A6 x.Ac, DS pI x.Ar, DS q86 x.Ao]
def Ax1 (x : Az) : List D := [I x.High, I x.Low]
def d49 (x : Ap) : List D := [I x.Kind, I x.Unit, I x.Value]
def d51 (x : Bg) : List D := [I x.Time, I x.Act.Kind, I x.Act.Unit, I x.Act.Value, I x.Err]
def d40 (x : A0) : List D := [I x.Time, DS pB x.Power.Ah, DS A6 x.Power.Ac, DS pI x.Power.Ar, DS q86 x.Power.Ao, DS B2 x.A5, DS q51 x.A7]
def d84 (x : Ai) : List D := [DS pI x.An, DS pI x.Ac, DS pI x.Ae]
def Bah (x : A4) : List D := [I x.Av.Time, DS pB x.Av.Power.Ah, DS A6 x.Av.Power.Ac, DS pI x.Av.Power.Ar, DS q86 x.Av.Power.Ao, DS B2 x.Av.A5, DS q51 x.Av.A7, I x.Al.An, DS Bi x.Al.Ag, DS Bt x.Al.Ac, DS q65 x.Al.Ae, I x.Al.Phase, I x.Al.Aq, DS q51 x.events, DS q36 x.states]
def Bag (x : A3) : List D := [I x.Al.An, DS Bi x.Al.Ag, DS Bt x.Al.Ac, DS q65 x.Al.Ae, I x.Al.Phase, I x.Al.Aq, DS pB x.Au.Ah, DS A6 x.Au.Ac, DS pI x.Au.Ar, DS q86 x.Au.Ao, I x.time]
def Baf (x : Ax) : List D := [I x.Al.An, DS Bi x.Al.Ag, DS Bt x.Al.Ac, DS q65 x.Al.Ae, I x.Al.Phase, I x.Al.Aq, DS pB x.Au.Ah, DS A6 x.Au.Ac, DS pI x.Au.Ar, DS q86 x.Au.Ao, DS q49 x.acts]
def Aqb (x : C6) : List D := [I x.From, I x.To]
def d63 (x : B0) : List D := [I x.Kind, I x.Station, I x.Max, I x.Rate, I x.Cost, DS Yd x.Hd]
def d57 (x : Fp) : List D := [I x.Bow, I x.Stern, DS q63 x.Cy]
def d70 (x : Fk) : List D := [I x.X, I x.Y]
end Go.Proofs.YthgnbpdjncbkfaaGreat
