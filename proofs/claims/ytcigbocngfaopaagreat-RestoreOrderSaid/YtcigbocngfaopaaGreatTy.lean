import Derived.Test.YtcigbocngfaopaaGreatSlV
set_option linter.unusedVariables false
namespace Go.Proofs.YtcigbocngfaopaaGreat
open Go.SL
structure Ap where
 L:List Int
 At:Int
 deriving Inhabited
def q70 (x:Ap):List Pd:=[.s (x.L.map pI),.v (.int .i64 x.At)]
structure Ag where
 Kind:Int
 A:Int
 B:Int
 deriving Inhabited
def q49 (x:Ag):List Pd:=[.v (.int .i64 x.Kind),.v (.int .i64 x.A),.v (.int .i64 x.B)]
structure Bc where
 Rating:Int
 Least:Int
 Start:Int
 deriving Inhabited
def q98 (x:Bc):List Pd:=[.v (.int .i64 x.Rating),.v (.int .i64 x.Least),.v (.int .i64 x.Start)]
structure A3 where
 Load:Int
 Least:Int
 Bl:Int
 Thruster:Int
 Needs:List Int
 deriving Inhabited
def q90 (x:A3):List Pd:=[.v (.int .i64 x.Load),.v (.int .i64 x.Least),.v (.int .i64 x.Bl),.v (.int .i64 x.Thruster),.s (x.Needs.map pI)]
structure Aa where
 Am:Int
 Ad:List Ag
 Ac:List Bc
 Af:List A3
 Phase:Int
 Au:Int
 deriving Inhabited
def q29 (x:Aa):List Pd:=[.v (.int .i64 x.Am),.s (x.Ad.map q49),.s (x.Ac.map q98),.s (x.Af.map q90),.v (.int .i64 x.Phase),.v (.int .i64 x.Au)]
structure Ai where
 State:Int
 Since:Int
 Au:Int
 Phase:Int
 deriving Inhabited
def q87 (x:Ai):List Pd:=[.v (.int .i64 x.State),.v (.int .i64 x.Since),.v (.int .i64 x.Au),.v (.int .i64 x.Phase)]
structure As where
 Kind:Int
 Number:Int
 deriving Inhabited
def q92 (x:As):List Pd:=[.v (.int .i64 x.Kind),.v (.int .i64 x.Number)]
structure Ab where
 Ae:List Bool
 Ac:List Ai
 Al:List Int
 Ah:List As
 deriving Inhabited
def q34 (x:Ab):List Pd:=[.s (x.Ae.map pB),.s (x.Ac.map q87),.s (x.Al.map pI),.s (x.Ah.map q92)]
structure Ak where
 Kind:Int
 Unit:Int
 Value:Int
 deriving Inhabited
def q47 (x:Ak):List Pd:=[.v (.int .i64 x.Kind),.v (.int .i64 x.Unit),.v (.int .i64 x.Value)]
structure Aj where
 Am:List Int
 Ac:List Int
 Af:List Int
 deriving Inhabited
def q62 (x:Aj):List Pd:=[.s (x.Am.map pI),.s (x.Ac.map pI),.s (x.Af.map pI)]
structure Ax where
 An:Aa
 Ao:Ab
 acts:List Ak
 deriving Inhabited
def A8g (x:Ax):List Pd:=[.v (.int .i64 x.An.Am),.s (x.An.Ad.map q49),.s (x.An.Ac.map q98),.s (x.An.Af.map q90),.v (.int .i64 x.An.Phase),.v (.int .i64 x.An.Au),.s (x.Ao.Ae.map pB),.s (x.Ao.Ac.map q87),.s (x.Ao.Al.map pI),.s (x.Ao.Ah.map q92),.s (x.acts.map q47)]
structure Ay where
 An:Aa
 Ao:Ab
 goal:List Bool
 acts:List Ak
 deriving Inhabited
def q80 (x:Ay):List Pd:=[.v (.int .i64 x.An.Am),.s (x.An.Ad.map q49),.s (x.An.Ac.map q98),.s (x.An.Af.map q90),.v (.int .i64 x.An.Phase),.v (.int .i64 x.An.Au),.s (x.Ao.Ae.map pB),.s (x.Ao.Ac.map q87),.s (x.Ao.Al.map pI),.s (x.Ao.Ah.map q92),.s (x.goal.map pB),.s (x.acts.map q47)]
structure A0 where
 An:Aa
 Ao:Ab
 time:Int
 deriving Inhabited
def A8h (x:A0):List Pd:=[.v (.int .i64 x.An.Am),.s (x.An.Ad.map q49),.s (x.An.Ac.map q98),.s (x.An.Af.map q90),.v (.int .i64 x.An.Phase),.v (.int .i64 x.An.Au),.s (x.Ao.Ae.map pB),.s (x.Ao.Ac.map q87),.s (x.Ao.Al.map pI),.s (x.Ao.Ah.map q92),.v (.int .i64 x.time)]
def d70 (x:Ap):List D:=[DS pI x.L,I x.At]
def d49 (x:Ag):List D:=[I x.Kind,I x.A,I x.B]
def d98 (x:Bc):List D:=[I x.Rating,I x.Least,I x.Start]
def d90 (x:A3):List D:=[I x.Load,I x.Least,I x.Bl,I x.Thruster,DS pI x.Needs]
def d29 (x:Aa):List D:=[I x.Am,DS q49 x.Ad,DS q98 x.Ac,DS q90 x.Af,I x.Phase,I x.Au]
def d87 (x:Ai):List D:=[I x.State,I x.Since,I x.Au,I x.Phase]
def d92 (x:As):List D:=[I x.Kind,I x.Number]
def d34 (x:Ab):List D:=[DS pB x.Ae,DS q87 x.Ac,DS pI x.Al,DS q92 x.Ah]
def d47 (x:Ak):List D:=[I x.Kind,I x.Unit,I x.Value]
def d62 (x:Aj):List D:=[DS pI x.Am,DS pI x.Ac,DS pI x.Af]
def A8i (x:Ax):List D:=[I x.An.Am,DS q49 x.An.Ad,DS q98 x.An.Ac,DS q90 x.An.Af,I x.An.Phase,I x.An.Au,DS pB x.Ao.Ae,DS q87 x.Ao.Ac,DS pI x.Ao.Al,DS q92 x.Ao.Ah,DS q47 x.acts]
def d80 (x:Ay):List D:=[I x.An.Am,DS q49 x.An.Ad,DS q98 x.An.Ac,DS q90 x.An.Af,I x.An.Phase,I x.An.Au,DS pB x.Ao.Ae,DS q87 x.Ao.Ac,DS pI x.Ao.Al,DS q92 x.Ao.Ah,DS pB x.goal,DS q47 x.acts]
def A8j (x:A0):List D:=[I x.An.Am,DS q49 x.An.Ad,DS q98 x.An.Ac,DS q90 x.An.Af,I x.An.Phase,I x.An.Au,DS pB x.Ao.Ae,DS q87 x.Ao.Ac,DS pI x.Ao.Al,DS q92 x.Ao.Ah,I x.time]
end Go.Proofs.YtcigbocngfaopaaGreat
