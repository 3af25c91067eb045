import Derived.Test.YtpdbkiafikdgpaaGreatDoorSlV
set_option linter.unusedVariables false
namespace Go.Proofs.YtpdbkiafikdgpaaGreatDoor
open Go.SL
structure Aj where
 Kind:Int
 A:Int
 B:Int
 deriving Inhabited
def q70 (x:Aj):List Pd:=[.v (.int .i64 x.Kind),.v (.int .i64 x.A),.v (.int .i64 x.B)]
structure Bg where
 Rating:Int
 Least:Int
 Start:Int
 deriving Inhabited
def q72 (x:Bg):List Pd:=[.v (.int .i64 x.Rating),.v (.int .i64 x.Least),.v (.int .i64 x.Start)]
structure A5 where
 Load:Int
 Least:Int
 Bl:Int
 Thruster:Int
 Needs:List Int
 deriving Inhabited
def q81 (x:A5):List Pd:=[.v (.int .i64 x.Load),.v (.int .i64 x.Least),.v (.int .i64 x.Bl),.v (.int .i64 x.Thruster),.s (x.Needs.map pI)]
structure Aa where
 An:Int
 Ad:List Aj
 Ac:List Bg
 Ae:List A5
 Phase:Int
 Ap:Int
 deriving Inhabited
def q30 (x:Aa):List Pd:=[.v (.int .i64 x.An),.s (x.Ad.map q70),.s (x.Ac.map q72),.s (x.Ae.map q81),.v (.int .i64 x.Phase),.v (.int .i64 x.Ap)]
structure A2 where
 Start:Int
 Stop:Int
 Delay:Int
 deriving Inhabited
def q33 (x:A2):List Pd:=[.v (.int .i64 x.Start),.v (.int .i64 x.Stop),.v (.int .i64 x.Delay)]
structure Af where
 State:Int
 Since:Int
 Ap:Int
 Phase:Int
 deriving Inhabited
def q93 (x:Af):List Pd:=[.v (.int .i64 x.State),.v (.int .i64 x.Since),.v (.int .i64 x.Ap),.v (.int .i64 x.Phase)]
structure Al where
 Kind:Int
 Number:Int
 deriving Inhabited
def q96 (x:Al):List Pd:=[.v (.int .i64 x.Kind),.v (.int .i64 x.Number)]
structure Ab where
 Ag:List Bool
 Ac:List Af
 Aq:List Int
 Ao:List Al
 deriving Inhabited
def q39 (x:Ab):List Pd:=[.s (x.Ag.map pB),.s (x.Ac.map q93),.s (x.Aq.map pI),.s (x.Ao.map q96)]
structure Aw where
 High:Int
 Low:Int
 deriving Inhabited
def q84 (x:Aw):List Pd:=[.v (.int .i64 x.High),.v (.int .i64 x.Low)]
structure Am where
 Kind:Int
 Unit:Int
 Value:Int
 deriving Inhabited
def q63 (x:Am):List Pd:=[.v (.int .i64 x.Kind),.v (.int .i64 x.Unit),.v (.int .i64 x.Value)]
structure A6 where
 Time:Int
 Act:Am
 Err:Int
 deriving Inhabited
def q65 (x:A6):List Pd:=[.v (.int .i64 x.Time),.v (.int .i64 x.Act.Kind),.v (.int .i64 x.Act.Unit),.v (.int .i64 x.Act.Value),.v (.int .i64 x.Err)]
structure As where
 Time:Int
 Power:Ab
 A7:List Aw
 Bc:List A6
 deriving Inhabited
def q43 (x:As):List Pd:=[.v (.int .i64 x.Time),.s (x.Power.Ag.map pB),.s (x.Power.Ac.map q93),.s (x.Power.Aq.map pI),.s (x.Power.Ao.map q96),.s (x.A7.map q84),.s (x.Bc.map q65)]
structure Ai where
 An:List Int
 Ac:List Int
 Ae:List Int
 deriving Inhabited
def Bd (x:Ai):List Pd:=[.s (x.An.map pI),.s (x.Ac.map pI),.s (x.Ae.map pI)]
structure A3 where
 A0:As
 Ak:Aa
 events:List A6
 states:List Ab
 deriving Inhabited
def A8s (x:A3):List Pd:=[.v (.int .i64 x.A0.Time),.s (x.A0.Power.Ag.map pB),.s (x.A0.Power.Ac.map q93),.s (x.A0.Power.Aq.map pI),.s (x.A0.Power.Ao.map q96),.s (x.A0.A7.map q84),.s (x.A0.Bc.map q65),.v (.int .i64 x.Ak.An),.s (x.Ak.Ad.map q70),.s (x.Ak.Ac.map q72),.s (x.Ak.Ae.map q81),.v (.int .i64 x.Ak.Phase),.v (.int .i64 x.Ak.Ap),.s (x.events.map q65),.s (x.states.map q39)]
structure A1 where
 Ak:Aa
 Au:Ab
 time:Int
 deriving Inhabited
def A8r (x:A1):List Pd:=[.v (.int .i64 x.Ak.An),.s (x.Ak.Ad.map q70),.s (x.Ak.Ac.map q72),.s (x.Ak.Ae.map q81),.v (.int .i64 x.Ak.Phase),.v (.int .i64 x.Ak.Ap),.s (x.Au.Ag.map pB),.s (x.Au.Ac.map q93),.s (x.Au.Aq.map pI),.s (x.Au.Ao.map q96),.v (.int .i64 x.time)]
structure Ay where
 Ak:Aa
 Au:Ab
 acts:List Am
 deriving Inhabited
def A8q (x:Ay):List Pd:=[.v (.int .i64 x.Ak.An),.s (x.Ak.Ad.map q70),.s (x.Ak.Ac.map q72),.s (x.Ak.Ae.map q81),.v (.int .i64 x.Ak.Phase),.v (.int .i64 x.Ak.Ap),.s (x.Au.Ag.map pB),.s (x.Au.Ac.map q93),.s (x.Au.Aq.map pI),.s (x.Au.Ao.map q96),.s (x.acts.map q63)]
structure Ah where
 L:List Int
 At:Int
 deriving Inhabited
def q77 (x:Ah):List Pd:=[.s (x.L.map pI),.v (.int .i64 x.At)]
def d70 (x:Aj):List D:=[I x.Kind,I x.A,I x.B]
def d72 (x:Bg):List D:=[I x.Rating,I x.Least,I x.Start]
def d81 (x:A5):List D:=[I x.Load,I x.Least,I x.Bl,I x.Thruster,DS pI x.Needs]
def d30 (x:Aa):List D:=[I x.An,DS q70 x.Ad,DS q72 x.Ac,DS q81 x.Ae,I x.Phase,I x.Ap]
def d33 (x:A2):List D:=[I x.Start,I x.Stop,I x.Delay]
def d93 (x:Af):List D:=[I x.State,I x.Since,I x.Ap,I x.Phase]
def d96 (x:Al):List D:=[I x.Kind,I x.Number]
def d39 (x:Ab):List D:=[DS pB x.Ag,DS q93 x.Ac,DS pI x.Aq,DS q96 x.Ao]
def d84 (x:Aw):List D:=[I x.High,I x.Low]
def d63 (x:Am):List D:=[I x.Kind,I x.Unit,I x.Value]
def d65 (x:A6):List D:=[I x.Time,I x.Act.Kind,I x.Act.Unit,I x.Act.Value,I x.Err]
def d43 (x:As):List D:=[I x.Time,DS pB x.Power.Ag,DS q93 x.Power.Ac,DS pI x.Power.Aq,DS q96 x.Power.Ao,DS q84 x.A7,DS q65 x.Bc]
def H4 (x:Ai):List D:=[DS pI x.An,DS pI x.Ac,DS pI x.Ae]
def A8v (x:A3):List D:=[I x.A0.Time,DS pB x.A0.Power.Ag,DS q93 x.A0.Power.Ac,DS pI x.A0.Power.Aq,DS q96 x.A0.Power.Ao,DS q84 x.A0.A7,DS q65 x.A0.Bc,I x.Ak.An,DS q70 x.Ak.Ad,DS q72 x.Ak.Ac,DS q81 x.Ak.Ae,I x.Ak.Phase,I x.Ak.Ap,DS q65 x.events,DS q39 x.states]
def A8u (x:A1):List D:=[I x.Ak.An,DS q70 x.Ak.Ad,DS q72 x.Ak.Ac,DS q81 x.Ak.Ae,I x.Ak.Phase,I x.Ak.Ap,DS pB x.Au.Ag,DS q93 x.Au.Ac,DS pI x.Au.Aq,DS q96 x.Au.Ao,I x.time]
def A8t (x:Ay):List D:=[I x.Ak.An,DS q70 x.Ak.Ad,DS q72 x.Ak.Ac,DS q81 x.Ak.Ae,I x.Ak.Phase,I x.Ak.Ap,DS pB x.Au.Ag,DS q93 x.Au.Ac,DS pI x.Au.Aq,DS q96 x.Au.Ao,DS q63 x.acts]
def d77 (x:Ah):List D:=[DS pI x.L,I x.At]
end Go.Proofs.YtpdbkiafikdgpaaGreatDoor
