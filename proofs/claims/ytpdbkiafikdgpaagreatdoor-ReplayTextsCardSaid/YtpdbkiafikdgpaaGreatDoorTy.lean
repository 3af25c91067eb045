import Derived.Test.YtpdbkiafikdgpaaGreatDoorSlV
set_option linter.unusedVariables false
namespace Go.Proofs.YtpdbkiafikdgpaaGreatDoor
open Go.SL
structure Af where
 Kind:Int
 A:Int
 B:Int
 deriving Inhabited
def q70 (x:Af):List Pd:=[.v (.int .i64 x.Kind),.v (.int .i64 x.A),.v (.int .i64 x.B)]
structure A8 where
 Rating:Int
 Least:Int
 Start:Int
 deriving Inhabited
def q72 (x:A8):List Pd:=[.v (.int .i64 x.Rating),.v (.int .i64 x.Least),.v (.int .i64 x.Start)]
structure A1 where
 Load:Int
 Least:Int
 By:Int
 Thruster:Int
 Needs:List Int
 deriving Inhabited
def q81 (x:A1):List Pd:=[.v (.int .i64 x.Load),.v (.int .i64 x.Least),.v (.int .i64 x.By),.v (.int .i64 x.Thruster),.s (x.Needs.map pI)]
structure Aa where
 Ap:Int
 Ag:List Af
 Ac:List A8
 Ah:List A1
 Phase:Int
 An:Int
 deriving Inhabited
def q30 (x:Aa):List Pd:=[.v (.int .i64 x.Ap),.s (x.Ag.map q70),.s (x.Ac.map q72),.s (x.Ah.map q81),.v (.int .i64 x.Phase),.v (.int .i64 x.An)]
structure Bd where
 Start:Int
 Stop:Int
 Delay:Int
 deriving Inhabited
def q33 (x:Bd):List Pd:=[.v (.int .i64 x.Start),.v (.int .i64 x.Stop),.v (.int .i64 x.Delay)]
structure Ae where
 State:Int
 Since:Int
 An:Int
 Phase:Int
 deriving Inhabited
def q93 (x:Ae):List Pd:=[.v (.int .i64 x.State),.v (.int .i64 x.Since),.v (.int .i64 x.An),.v (.int .i64 x.Phase)]
structure Aq where
 Kind:Int
 Number:Int
 deriving Inhabited
def q96 (x:Aq):List Pd:=[.v (.int .i64 x.Kind),.v (.int .i64 x.Number)]
structure Ab where
 Am:List Bool
 Ac:List Ae
 Aw:List Int
 As:List Aq
 deriving Inhabited
def q39 (x:Ab):List Pd:=[.s (x.Am.map pB),.s (x.Ac.map q93),.s (x.Aw.map pI),.s (x.As.map q96)]
structure Ar where
 High:Int
 Low:Int
 deriving Inhabited
def q84 (x:Ar):List Pd:=[.v (.int .i64 x.High),.v (.int .i64 x.Low)]
structure A0 where
 Kind:Int
 Unit:Int
 Value:Int
 deriving Inhabited
def q63 (x:A0):List Pd:=[.v (.int .i64 x.Kind),.v (.int .i64 x.Unit),.v (.int .i64 x.Value)]
structure A3 where
 Time:Int
 Act:A0
 Err:Int
 deriving Inhabited
def q65 (x:A3):List Pd:=[.v (.int .i64 x.Time),.v (.int .i64 x.Act.Kind),.v (.int .i64 x.Act.Unit),.v (.int .i64 x.Act.Value),.v (.int .i64 x.Err)]
structure Al where
 Time:Int
 Power:Ab
 Av:List Ar
 A7:List A3
 deriving Inhabited
def q43 (x:Al):List Pd:=[.v (.int .i64 x.Time),.s (x.Power.Am.map pB),.s (x.Power.Ac.map q93),.s (x.Power.Aw.map pI),.s (x.Power.As.map q96),.s (x.Av.map q84),.s (x.A7.map q65)]
structure Ai where
 Ap:List Int
 Ac:List Int
 Ah:List Int
 deriving Inhabited
def Bh (x:Ai):List Pd:=[.s (x.Ap.map pI),.s (x.Ac.map pI),.s (x.Ah.map pI)]
structure Ay where
 Ao:Al
 Aj:Aa
 events:List A3
 states:List Ab
 deriving Inhabited
def Ass (x:Ay):List Pd:=[.v (.int .i64 x.Ao.Time),.s (x.Ao.Power.Am.map pB),.s (x.Ao.Power.Ac.map q93),.s (x.Ao.Power.Aw.map pI),.s (x.Ao.Power.As.map q96),.s (x.Ao.Av.map q84),.s (x.Ao.A7.map q65),.v (.int .i64 x.Aj.Ap),.s (x.Aj.Ag.map q70),.s (x.Aj.Ac.map q72),.s (x.Aj.Ah.map q81),.v (.int .i64 x.Aj.Phase),.v (.int .i64 x.Aj.An),.s (x.events.map q65),.s (x.states.map q39)]
structure A_ where
 Aj:Aa
 Az:Ab
 time:Int
 deriving Inhabited
def Asr (x:A_):List Pd:=[.v (.int .i64 x.Aj.Ap),.s (x.Aj.Ag.map q70),.s (x.Aj.Ac.map q72),.s (x.Aj.Ah.map q81),.v (.int .i64 x.Aj.Phase),.v (.int .i64 x.Aj.An),.s (x.Az.Am.map pB),.s (x.Az.Ac.map q93),.s (x.Az.Aw.map pI),.s (x.Az.As.map q96),.v (.int .i64 x.time)]
structure Ax where
 Aj:Aa
 Az:Ab
 acts:List A0
 deriving Inhabited
def Asq (x:Ax):List Pd:=[.v (.int .i64 x.Aj.Ap),.s (x.Aj.Ag.map q70),.s (x.Aj.Ac.map q72),.s (x.Aj.Ah.map q81),.v (.int .i64 x.Aj.Phase),.v (.int .i64 x.Aj.An),.s (x.Az.Am.map pB),.s (x.Az.Ac.map q93),.s (x.Az.Aw.map pI),.s (x.Az.As.map q96),.s (x.acts.map q63)]
structure Ad where
 L:List Int
 At:Int
 deriving Inhabited
def q77 (x:Ad):List Pd:=[.s (x.L.map pI),.v (.int .i64 x.At)]
def d70 (x:Af):List D:=[I x.Kind,I x.A,I x.B]
def d72 (x:A8):List D:=[I x.Rating,I x.Least,I x.Start]
def d81 (x:A1):List D:=[I x.Load,I x.Least,I x.By,I x.Thruster,DS pI x.Needs]
def d30 (x:Aa):List D:=[I x.Ap,DS q70 x.Ag,DS q72 x.Ac,DS q81 x.Ah,I x.Phase,I x.An]
def d33 (x:Bd):List D:=[I x.Start,I x.Stop,I x.Delay]
def d93 (x:Ae):List D:=[I x.State,I x.Since,I x.An,I x.Phase]
def d96 (x:Aq):List D:=[I x.Kind,I x.Number]
def d39 (x:Ab):List D:=[DS pB x.Am,DS q93 x.Ac,DS pI x.Aw,DS q96 x.As]
def d84 (x:Ar):List D:=[I x.High,I x.Low]
def d63 (x:A0):List D:=[I x.Kind,I x.Unit,I x.Value]
def d65 (x:A3):List D:=[I x.Time,I x.Act.Kind,I x.Act.Unit,I x.Act.Value,I x.Err]
def d43 (x:Al):List D:=[I x.Time,DS pB x.Power.Am,DS q93 x.Power.Ac,DS pI x.Power.Aw,DS q96 x.Power.As,DS q84 x.Av,DS q65 x.A7]
def Kf (x:Ai):List D:=[DS pI x.Ap,DS pI x.Ac,DS pI x.Ah]
def Asy (x:Ay):List D:=[I x.Ao.Time,DS pB x.Ao.Power.Am,DS q93 x.Ao.Power.Ac,DS pI x.Ao.Power.Aw,DS q96 x.Ao.Power.As,DS q84 x.Ao.Av,DS q65 x.Ao.A7,I x.Aj.Ap,DS q70 x.Aj.Ag,DS q72 x.Aj.Ac,DS q81 x.Aj.Ah,I x.Aj.Phase,I x.Aj.An,DS q65 x.events,DS q39 x.states]
def Asx (x:A_):List D:=[I x.Aj.Ap,DS q70 x.Aj.Ag,DS q72 x.Aj.Ac,DS q81 x.Aj.Ah,I x.Aj.Phase,I x.Aj.An,DS pB x.Az.Am,DS q93 x.Az.Ac,DS pI x.Az.Aw,DS q96 x.Az.As,I x.time]
def Asw (x:Ax):List D:=[I x.Aj.Ap,DS q70 x.Aj.Ag,DS q72 x.Aj.Ac,DS q81 x.Aj.Ah,I x.Aj.Phase,I x.Aj.An,DS pB x.Az.Am,DS q93 x.Az.Ac,DS pI x.Az.Aw,DS q96 x.Az.As,DS q63 x.acts]
def d77 (x:Ad):List D:=[DS pI x.L,I x.At]
end Go.Proofs.YtpdbkiafikdgpaaGreatDoor
