import Derived.Test.YtpdbkiafikdgpaaGreatDoorSlV
set_option linter.unusedVariables false
namespace Go.Proofs.YtpdbkiafikdgpaaGreatDoor
open Go.SL
structure Ai where
 Kind:Int
 A:Int
 B:Int
 deriving Inhabited
def q70 (x:Ai):List Pd:=[.v (.int .i64 x.Kind),.v (.int .i64 x.A),.v (.int .i64 x.B)]
structure Bh where
 Rating:Int
 Least:Int
 Start:Int
 deriving Inhabited
def q72 (x:Bh):List Pd:=[.v (.int .i64 x.Rating),.v (.int .i64 x.Least),.v (.int .i64 x.Start)]
structure A7 where
 Load:Int
 Least:Int
 Bm:Int
 Thruster:Int
 Needs:List Int
 deriving Inhabited
def q81 (x:A7):List Pd:=[.v (.int .i64 x.Load),.v (.int .i64 x.Least),.v (.int .i64 x.Bm),.v (.int .i64 x.Thruster),.s (x.Needs.map pI)]
structure Aa where
 An:Int
 Ad:List Ai
 Ac:List Bh
 Ae:List A7
 Phase:Int
 Aq:Int
 deriving Inhabited
def q30 (x:Aa):List Pd:=[.v (.int .i64 x.An),.s (x.Ad.map q70),.s (x.Ac.map q72),.s (x.Ae.map q81),.v (.int .i64 x.Phase),.v (.int .i64 x.Aq)]
structure A5 where
 Start:Int
 Stop:Int
 Delay:Int
 deriving Inhabited
def q33 (x:A5):List Pd:=[.v (.int .i64 x.Start),.v (.int .i64 x.Stop),.v (.int .i64 x.Delay)]
structure Af where
 State:Int
 Since:Int
 Aq:Int
 Phase:Int
 deriving Inhabited
def q93 (x:Af):List Pd:=[.v (.int .i64 x.State),.v (.int .i64 x.Since),.v (.int .i64 x.Aq),.v (.int .i64 x.Phase)]
structure Ak where
 Kind:Int
 Number:Int
 deriving Inhabited
def q96 (x:Ak):List Pd:=[.v (.int .i64 x.Kind),.v (.int .i64 x.Number)]
structure Ab where
 Ag:List Bool
 Ac:List Af
 Ap:List Int
 Am:List Ak
 deriving Inhabited
def q39 (x:Ab):List Pd:=[.s (x.Ag.map pB),.s (x.Ac.map q93),.s (x.Ap.map pI),.s (x.Am.map q96)]
structure Av where
 High:Int
 Low:Int
 deriving Inhabited
def q84 (x:Av):List Pd:=[.v (.int .i64 x.High),.v (.int .i64 x.Low)]
structure Ao where
 Kind:Int
 Unit:Int
 Value:Int
 deriving Inhabited
def q63 (x:Ao):List Pd:=[.v (.int .i64 x.Kind),.v (.int .i64 x.Unit),.v (.int .i64 x.Value)]
structure A6 where
 Time:Int
 Act:Ao
 Err:Int
 deriving Inhabited
def q65 (x:A6):List Pd:=[.v (.int .i64 x.Time),.v (.int .i64 x.Act.Kind),.v (.int .i64 x.Act.Unit),.v (.int .i64 x.Act.Value),.v (.int .i64 x.Err)]
structure Ar where
 Time:Int
 Power:Ab
 A2:List Av
 A8:List A6
 deriving Inhabited
def q43 (x:Ar):List Pd:=[.v (.int .i64 x.Time),.s (x.Power.Ag.map pB),.s (x.Power.Ac.map q93),.s (x.Power.Ap.map pI),.s (x.Power.Am.map q96),.s (x.A2.map q84),.s (x.A8.map q65)]
structure Ah where
 An:List Int
 Ac:List Int
 Ae:List Int
 deriving Inhabited
def Bg (x:Ah):List Pd:=[.s (x.An.map pI),.s (x.Ac.map pI),.s (x.Ae.map pI)]
structure A4 where
 A0:Ar
 Al:Aa
 events:List A6
 states:List Ab
 deriving Inhabited
def A_f (x:A4):List Pd:=[.v (.int .i64 x.A0.Time),.s (x.A0.Power.Ag.map pB),.s (x.A0.Power.Ac.map q93),.s (x.A0.Power.Ap.map pI),.s (x.A0.Power.Am.map q96),.s (x.A0.A2.map q84),.s (x.A0.A8.map q65),.v (.int .i64 x.Al.An),.s (x.Al.Ad.map q70),.s (x.Al.Ac.map q72),.s (x.Al.Ae.map q81),.v (.int .i64 x.Al.Phase),.v (.int .i64 x.Al.Aq),.s (x.events.map q65),.s (x.states.map q39)]
structure A1 where
 Al:Aa
 Au:Ab
 time:Int
 deriving Inhabited
def A_e (x:A1):List Pd:=[.v (.int .i64 x.Al.An),.s (x.Al.Ad.map q70),.s (x.Al.Ac.map q72),.s (x.Al.Ae.map q81),.v (.int .i64 x.Al.Phase),.v (.int .i64 x.Al.Aq),.s (x.Au.Ag.map pB),.s (x.Au.Ac.map q93),.s (x.Au.Ap.map pI),.s (x.Au.Am.map q96),.v (.int .i64 x.time)]
structure Ay where
 Al:Aa
 Au:Ab
 acts:List Ao
 deriving Inhabited
def A_d (x:Ay):List Pd:=[.v (.int .i64 x.Al.An),.s (x.Al.Ad.map q70),.s (x.Al.Ac.map q72),.s (x.Al.Ae.map q81),.v (.int .i64 x.Al.Phase),.v (.int .i64 x.Al.Aq),.s (x.Au.Ag.map pB),.s (x.Au.Ac.map q93),.s (x.Au.Ap.map pI),.s (x.Au.Am.map q96),.s (x.acts.map q63)]
structure Aj where
 L:List Int
 At:Int
 deriving Inhabited
def q77 (x:Aj):List Pd:=[.s (x.L.map pI),.v (.int .i64 x.At)]
def d70 (x:Ai):List D:=[I x.Kind,I x.A,I x.B]
def d72 (x:Bh):List D:=[I x.Rating,I x.Least,I x.Start]
def d81 (x:A7):List D:=[I x.Load,I x.Least,I x.Bm,I x.Thruster,DS pI x.Needs]
def d30 (x:Aa):List D:=[I x.An,DS q70 x.Ad,DS q72 x.Ac,DS q81 x.Ae,I x.Phase,I x.Aq]
def d33 (x:A5):List D:=[I x.Start,I x.Stop,I x.Delay]
def d93 (x:Af):List D:=[I x.State,I x.Since,I x.Aq,I x.Phase]
def d96 (x:Ak):List D:=[I x.Kind,I x.Number]
def d39 (x:Ab):List D:=[DS pB x.Ag,DS q93 x.Ac,DS pI x.Ap,DS q96 x.Am]
def d84 (x:Av):List D:=[I x.High,I x.Low]
def d63 (x:Ao):List D:=[I x.Kind,I x.Unit,I x.Value]
def d65 (x:A6):List D:=[I x.Time,I x.Act.Kind,I x.Act.Unit,I x.Act.Value,I x.Err]
def d43 (x:Ar):List D:=[I x.Time,DS pB x.Power.Ag,DS q93 x.Power.Ac,DS pI x.Power.Ap,DS q96 x.Power.Am,DS q84 x.A2,DS q65 x.A8]
def H9 (x:Ah):List D:=[DS pI x.An,DS pI x.Ac,DS pI x.Ae]
def A_i (x:A4):List D:=[I x.A0.Time,DS pB x.A0.Power.Ag,DS q93 x.A0.Power.Ac,DS pI x.A0.Power.Ap,DS q96 x.A0.Power.Am,DS q84 x.A0.A2,DS q65 x.A0.A8,I x.Al.An,DS q70 x.Al.Ad,DS q72 x.Al.Ac,DS q81 x.Al.Ae,I x.Al.Phase,I x.Al.Aq,DS q65 x.events,DS q39 x.states]
def A_h (x:A1):List D:=[I x.Al.An,DS q70 x.Al.Ad,DS q72 x.Al.Ac,DS q81 x.Al.Ae,I x.Al.Phase,I x.Al.Aq,DS pB x.Au.Ag,DS q93 x.Au.Ac,DS pI x.Au.Ap,DS q96 x.Au.Am,I x.time]
def A_g (x:Ay):List D:=[I x.Al.An,DS q70 x.Al.Ad,DS q72 x.Al.Ac,DS q81 x.Al.Ae,I x.Al.Phase,I x.Al.Aq,DS pB x.Au.Ag,DS q93 x.Au.Ac,DS pI x.Au.Ap,DS q96 x.Au.Am,DS q63 x.acts]
def d77 (x:Aj):List D:=[DS pI x.L,I x.At]
end Go.Proofs.YtpdbkiafikdgpaaGreatDoor
