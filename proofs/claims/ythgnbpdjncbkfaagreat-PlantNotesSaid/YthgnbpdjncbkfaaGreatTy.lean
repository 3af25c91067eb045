import Derived.Test.YthgnbpdjncbkfaaGreatSlV
set_option linter.unusedVariables false
namespace Go.Proofs.YthgnbpdjncbkfaaGreat
open Go.SL
structure Ai where
 L : List Int
 At : Int
 deriving Inhabited
def q90 (x : Ai) : List Pd := [.s (x.L.map pI), .v (.int .i64 x.At)]
structure Ak where
 Kind : Int
 A : Int
 B : Int
 deriving Inhabited
def Bi (x : Ak) : List Pd := [.v (.int .i64 x.Kind), .v (.int .i64 x.A), .v (.int .i64 x.B)]
structure Bg where
 Rating : Int
 Least : Int
 Start : Int
 deriving Inhabited
def Bt (x : Bg) : List Pd := [.v (.int .i64 x.Rating), .v (.int .i64 x.Least), .v (.int .i64 x.Start)]
structure A1 where
 Load : Int
 Least : Int
 Bp : Int
 Thruster : Int
 Needs : List Int
 deriving Inhabited
def q65 (x : A1) : List Pd := [.v (.int .i64 x.Load), .v (.int .i64 x.Least), .v (.int .i64 x.Bp), .v (.int .i64 x.Thruster), .s (x.Needs.map pI)]
structure Aa where
 Am : Int
 Af : List Ak
 Ac : List Bg
 Ae : List A1
 Phase : Int
 Ap : Int
 deriving Inhabited
def q29 (x : Aa) : List Pd := [.v (.int .i64 x.Am), .s (x.Af.map Bi), .s (x.Ac.map Bt), .s (x.Ae.map q65), .v (.int .i64 x.Phase), .v (.int .i64 x.Ap)]
structure Bh where
 Start : Int
 Stop : Int
 Delay : Int
 deriving Inhabited
def q31 (x : Bh) : List Pd := [.v (.int .i64 x.Start), .v (.int .i64 x.Stop), .v (.int .i64 x.Delay)]
structure Ag where
 State : Int
 Since : Int
 Ap : Int
 Phase : Int
 deriving Inhabited
def A_ (x : Ag) : List Pd := [.v (.int .i64 x.State), .v (.int .i64 x.Since), .v (.int .i64 x.Ap), .v (.int .i64 x.Phase)]
structure An where
 Kind : Int
 Number : Int
 deriving Inhabited
def q86 (x : An) : List Pd := [.v (.int .i64 x.Kind), .v (.int .i64 x.Number)]
structure Ab where
 Ah : List Bool
 Ac : List Ag
 As : List Int
 Aq : List An
 deriving Inhabited
def q36 (x : Ab) : List Pd := [.s (x.Ah.map pB), .s (x.Ac.map A_), .s (x.As.map pI), .s (x.Aq.map q86)]
structure Az where
 High : Int
 Low : Int
 deriving Inhabited
def B1 (x : Az) : List Pd := [.v (.int .i64 x.High), .v (.int .i64 x.Low)]
structure Ao where
 Kind : Int
 Unit : Int
 Value : Int
 deriving Inhabited
def q49 (x : Ao) : List Pd := [.v (.int .i64 x.Kind), .v (.int .i64 x.Unit), .v (.int .i64 x.Value)]
structure A9 where
 Time : Int
 Act : Ao
 Err : Int
 deriving Inhabited
def q51 (x : A9) : List Pd := [.v (.int .i64 x.Time), .v (.int .i64 x.Act.Kind), .v (.int .i64 x.Act.Unit), .v (.int .i64 x.Act.Value), .v (.int .i64 x.Err)]
structure A0 where
 Time : Int
 Power : Ab
 A5 : List Az
 A4 : List A9
 deriving Inhabited
def q40 (x : A0) : List Pd := [.v (.int .i64 x.Time), .s (x.Power.Ah.map pB), .s (x.Power.Ac.map A_), .s (x.Power.As.map pI), .s (x.Power.Aq.map q86), .s (x.A5.map B1), .s (x.A4.map q51)]
structure Aj where
 Am : List Int
 Ac : List Int
 Ae : List Int
 deriving Inhabited
def q84 (x : Aj) : List Pd := [.s (x.Am.map pI), .s (x.Ac.map pI), .s (x.Ae.map pI)]
structure A6 where
 Av : A0
 Al : Aa
 events : List A9
 states : List Ab
 deriving Inhabited
def A_i (x : A6) : List Pd := [.v (.int .i64 x.Av.Time), .s (x.Av.Power.Ah.map pB), .s (x.Av.Power.Ac.map A_), .s (x.Av.Power.As.map pI), .s (x.Av.Power.Aq.map q86), .s (x.Av.A5.map B1), .s (x.Av.A4.map q51), .v (.int .i64 x.Al.Am), .s (x.Al.Af.map Bi), .s (x.Al.Ac.map Bt), .s (x.Al.Ae.map q65), .v (.int .i64 x.Al.Phase), .v (.int .i64 x.Al.Ap), .s (x.events.map q51), .s (x.states.map q36)]
structure A2 where
 Al : Aa
 Ar : Ab
 time : Int
 deriving Inhabited
def A_h (x : A2) : List Pd := [.v (.int .i64 x.Al.Am), .s (x.Al.Af.map Bi), .s (x.Al.Ac.map Bt), .s (x.Al.Ae.map q65), .v (.int .i64 x.Al.Phase), .v (.int .i64 x.Al.Ap), .s (x.Ar.Ah.map pB), .s (x.Ar.Ac.map A_), .s (x.Ar.As.map pI), .s (x.Ar.Aq.map q86), .v (.int .i64 x.time)]
structure Ay where
 Al : Aa
 Ar : Ab
 acts : List Ao
 deriving Inhabited
def A_g (x : Ay) : List Pd := [.v (.int .i64 x.Al.Am), .s (x.Al.Af.map Bi), .s (x.Al.Ac.map Bt), .s (x.Al.Ae.map q65), .v (.int .i64 x.Al.Phase), .v (.int .i64 x.Al.Ap), .s (x.Ar.Ah.map pB), .s (x.Ar.Ac.map A_), .s (x.Ar.As.map pI), .s (x.Ar.Aq.map q86), .s (x.acts.map q49)]
structure Dc where
 From : Int
 To : Int
 deriving Inhabited
def Yd (x : Dc) : List Pd := [.v (.int .i64 x.From), .v (.int .i64 x.To)]
structure Bz where
 Kind : Int
 Station : Int
 Max : Int
 Rate : Int
 Cost : Int
 Hq : List Dc
 deriving Inhabited
def q63 (x : Bz) : List Pd := [.v (.int .i64 x.Kind), .v (.int .i64 x.Station), .v (.int .i64 x.Max), .v (.int .i64 x.Rate), .v (.int .i64 x.Cost), .s (x.Hq.map Yd)]
structure Fp where
 Bow : Int
 Stern : Int
 Cn : List Bz
 deriving Inhabited
def q57 (x : Fp) : List Pd := [.v (.int .i64 x.Bow), .v (.int .i64 x.Stern), .s (x.Cn.map q63)]
structure Fk where
 X : Int
 Y : Int
 deriving Inhabited
def q70 (x : Fk) : List Pd := [.v (.int .i64 x.X), .v (.int .i64 x.Y)]
def d90 (x : Ai) : List D := [DS pI x.L, I x.At]
def F7 (x : Ak) : List D := [I x.Kind, I x.A, I x.B]
def A4s (x : Bg) : List D := [I x.Rating, I x.Least, I x.Start]
def d65 (x : A1) : List D := [I x.Load, I x.Least, I x.Bp, I x.Thruster, DS pI x.Needs]
def d29 (x : Aa) : List D := [I x.Am, DS Bi x.Af, DS Bt x.Ac, DS q65 x.Ae, I x.Phase, I x.Ap]
def d31 (x : Bh) : List D := [I x.Start, I x.Stop, I x.Delay]
def T9 (x : Ag) : List D := [I x.State, I x.Since, I x.Ap, I x.Phase]
def d86 (x : An) : List D := [I x.Kind, I x.Number]
def d36 (x : Ab) : List D := [DS pB x.Ah, DS A_ x.Ac, DS pI x.As, DS q86 x.Aq]
def Ah6 (x : Az) : List D := [I x.High, I x.Low]
def d49 (x : Ao) : List D := [I x.Kind, I x.Unit, I x.Value]
def d51 (x : A9) : List D := [I x.Time, I x.Act.Kind, I x.Act.Unit, I x.Act.Value, I x.Err]
def d40 (x : A0) : List D := [I x.Time, DS pB x.Power.Ah, DS A_ x.Power.Ac, DS pI x.Power.As, DS q86 x.Power.Aq, DS B1 x.A5, DS q51 x.A4]
def d84 (x : Aj) : List D := [DS pI x.Am, DS pI x.Ac, DS pI x.Ae]
def A_l (x : A6) : List D := [I x.Av.Time, DS pB x.Av.Power.Ah, DS A_ x.Av.Power.Ac, DS pI x.Av.Power.As, DS q86 x.Av.Power.Aq, DS B1 x.Av.A5, DS q51 x.Av.A4, I x.Al.Am, DS Bi x.Al.Af, DS Bt x.Al.Ac, DS q65 x.Al.Ae, I x.Al.Phase, I x.Al.Ap, DS q51 x.events, DS q36 x.states]
def A_k (x : A2) : List D := [I x.Al.Am, DS Bi x.Al.Af, DS Bt x.Al.Ac, DS q65 x.Al.Ae, I x.Al.Phase, I x.Al.Ap, DS pB x.Ar.Ah, DS A_ x.Ar.Ac, DS pI x.Ar.As, DS q86 x.Ar.Aq, I x.time]
def A_j (x : Ay) : List D := [I x.Al.Am, DS Bi x.Al.Af, DS Bt x.Al.Ac, DS q65 x.Al.Ae, I x.Al.Phase, I x.Al.Ap, DS pB x.Ar.Ah, DS A_ x.Ar.Ac, DS pI x.Ar.As, DS q86 x.Ar.Aq, DS q49 x.acts]
def Aqa (x : Dc) : List D := [I x.From, I x.To]
def d63 (x : Bz) : List D := [I x.Kind, I x.Station, I x.Max, I x.Rate, I x.Cost, DS Yd x.Hq]
def d57 (x : Fp) : List D := [I x.Bow, I x.Stern, DS q63 x.Cn]
def d70 (x : Fk) : List D := [I x.X, I x.Y]
end Go.Proofs.YthgnbpdjncbkfaaGreat
