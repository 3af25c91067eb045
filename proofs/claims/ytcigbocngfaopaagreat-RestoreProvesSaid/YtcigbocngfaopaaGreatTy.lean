import Derived.Test.YtcigbocngfaopaaGreatSlV
set_option linter.unusedVariables false
namespace Go.Proofs.YtcigbocngfaopaaGreat
open Go.SL
structure Ag where
 L : List Int
 At : Int
 deriving Inhabited
def q70 (x : Ag) : List Pd := [.s (x.L.map pI), .v (.int .i64 x.At)]
structure Af where
 Kind : Int
 A : Int
 B : Int
 deriving Inhabited
def q49 (x : Af) : List Pd := [.v (.int .i64 x.Kind), .v (.int .i64 x.A), .v (.int .i64 x.B)]
structure A9 where
 Rating : Int
 Least : Int
 Start : Int
 deriving Inhabited
def q98 (x : A9) : List Pd := [.v (.int .i64 x.Rating), .v (.int .i64 x.Least), .v (.int .i64 x.Start)]
structure A3 where
 Load : Int
 Least : Int
 Bn : Int
 Thruster : Int
 Needs : List Int
 deriving Inhabited
def q90 (x : A3) : List Pd := [.v (.int .i64 x.Load), .v (.int .i64 x.Least), .v (.int .i64 x.Bn), .v (.int .i64 x.Thruster), .s (x.Needs.map pI)]
structure Aa where
 Ao : Int
 Ad : List Af
 Ac : List A9
 Ai : List A3
 Phase : Int
 Ar : Int
 deriving Inhabited
def q29 (x : Aa) : List Pd := [.v (.int .i64 x.Ao), .s (x.Ad.map q49), .s (x.Ac.map q98), .s (x.Ai.map q90), .v (.int .i64 x.Phase), .v (.int .i64 x.Ar)]
structure Ae where
 State : Int
 Since : Int
 Ar : Int
 Phase : Int
 deriving Inhabited
def q87 (x : Ae) : List Pd := [.v (.int .i64 x.State), .v (.int .i64 x.Since), .v (.int .i64 x.Ar), .v (.int .i64 x.Phase)]
structure Al where
 Kind : Int
 Number : Int
 deriving Inhabited
def q92 (x : Al) : List Pd := [.v (.int .i64 x.Kind), .v (.int .i64 x.Number)]
structure Ab where
 Ah : List Bool
 Ac : List Ae
 As : List Int
 Ak : List Al
 deriving Inhabited
def q34 (x : Ab) : List Pd := [.s (x.Ah.map pB), .s (x.Ac.map q87), .s (x.As.map pI), .s (x.Ak.map q92)]
structure An where
 Kind : Int
 Unit : Int
 Value : Int
 deriving Inhabited
def q47 (x : An) : List Pd := [.v (.int .i64 x.Kind), .v (.int .i64 x.Unit), .v (.int .i64 x.Value)]
structure Aj where
 Ao : List Int
 Ac : List Int
 Ai : List Int
 deriving Inhabited
def q62 (x : Aj) : List Pd := [.s (x.Ao.map pI), .s (x.Ac.map pI), .s (x.Ai.map pI)]
structure A2 where
 Am : Aa
 Ap : Ab
 acts : List An
 deriving Inhabited
def A1m (x : A2) : List Pd := [.v (.int .i64 x.Am.Ao), .s (x.Am.Ad.map q49), .s (x.Am.Ac.map q98), .s (x.Am.Ai.map q90), .v (.int .i64 x.Am.Phase), .v (.int .i64 x.Am.Ar), .s (x.Ap.Ah.map pB), .s (x.Ap.Ac.map q87), .s (x.Ap.As.map pI), .s (x.Ap.Ak.map q92), .s (x.acts.map q47)]
structure Av where
 Am : Aa
 Ap : Ab
 goal : List Bool
 acts : List An
 deriving Inhabited
def q80 (x : Av) : List Pd := [.v (.int .i64 x.Am.Ao), .s (x.Am.Ad.map q49), .s (x.Am.Ac.map q98), .s (x.Am.Ai.map q90), .v (.int .i64 x.Am.Phase), .v (.int .i64 x.Am.Ar), .s (x.Ap.Ah.map pB), .s (x.Ap.Ac.map q87), .s (x.Ap.As.map pI), .s (x.Ap.Ak.map q92), .s (x.goal.map pB), .s (x.acts.map q47)]
structure Az where
 Am : Aa
 Ap : Ab
 time : Int
 deriving Inhabited
def A1n (x : Az) : List Pd := [.v (.int .i64 x.Am.Ao), .s (x.Am.Ad.map q49), .s (x.Am.Ac.map q98), .s (x.Am.Ai.map q90), .v (.int .i64 x.Am.Phase), .v (.int .i64 x.Am.Ar), .s (x.Ap.Ah.map pB), .s (x.Ap.Ac.map q87), .s (x.Ap.As.map pI), .s (x.Ap.Ak.map q92), .v (.int .i64 x.time)]
def d70 (x : Ag) : List D := [DS pI x.L, I x.At]
def d49 (x : Af) : List D := [I x.Kind, I x.A, I x.B]
def d98 (x : A9) : List D := [I x.Rating, I x.Least, I x.Start]
def d90 (x : A3) : List D := [I x.Load, I x.Least, I x.Bn, I x.Thruster, DS pI x.Needs]
def d29 (x : Aa) : List D := [I x.Ao, DS q49 x.Ad, DS q98 x.Ac, DS q90 x.Ai, I x.Phase, I x.Ar]
def d87 (x : Ae) : List D := [I x.State, I x.Since, I x.Ar, I x.Phase]
def d92 (x : Al) : List D := [I x.Kind, I x.Number]
def d34 (x : Ab) : List D := [DS pB x.Ah, DS q87 x.Ac, DS pI x.As, DS q92 x.Ak]
def d47 (x : An) : List D := [I x.Kind, I x.Unit, I x.Value]
def d62 (x : Aj) : List D := [DS pI x.Ao, DS pI x.Ac, DS pI x.Ai]
def A1o (x : A2) : List D := [I x.Am.Ao, DS q49 x.Am.Ad, DS q98 x.Am.Ac, DS q90 x.Am.Ai, I x.Am.Phase, I x.Am.Ar, DS pB x.Ap.Ah, DS q87 x.Ap.Ac, DS pI x.Ap.As, DS q92 x.Ap.Ak, DS q47 x.acts]
def d80 (x : Av) : List D := [I x.Am.Ao, DS q49 x.Am.Ad, DS q98 x.Am.Ac, DS q90 x.Am.Ai, I x.Am.Phase, I x.Am.Ar, DS pB x.Ap.Ah, DS q87 x.Ap.Ac, DS pI x.Ap.As, DS q92 x.Ap.Ak, DS pB x.goal, DS q47 x.acts]
def A1p (x : Az) : List D := [I x.Am.Ao, DS q49 x.Am.Ad, DS q98 x.Am.Ac, DS q90 x.Am.Ai, I x.Am.Phase, I x.Am.Ar, DS pB x.Ap.Ah, DS q87 x.Ap.Ac, DS pI x.Ap.As, DS q92 x.Ap.Ak, I x.time]
end Go.Proofs.YtcigbocngfaopaaGreat
