import Derived.Test.YtkcebipolafapaaGreatSlV
set_option linter.unusedVariables false
namespace Go.Proofs.YtkcebipolafapaaGreat
open Go.SL
def eH:Nat->Nat->Nat->fc
|0,_,_=>[]
|f+1,i,n=>bif Nat.beq (n%2) 1 then i::eH f (i+1) (n/2) else eH f (i+1) (n/2)
def eG(n:Nat):fc:=eH 20 0 n
abbrev eB{a b:Type}(x:a):Option (Ctl a b):=some (.next x)
abbrev eC{a b:Type}(x:b):Option (Ctl a b):=some (.ret x)
abbrev eF{a b:Type}(x:a):Option (Ctl a b):=some (.brk x)
abbrev eu(a b:Type):=Option (Ctl a b)
structure dU where
 Kind:Int
 A:Int
 B:Int
 deriving Inhabited
def q141(x:dU):List Pd:=[.v (.int .i64 x.Kind),.v (.int .i64 x.A),.v (.int .i64 x.B)]
structure eh where
 Rating:Int
 Least:Int
 Start:Int
 deriving Inhabited
def q143(x:eh):List Pd:=[.v (.int .i64 x.Rating),.v (.int .i64 x.Least),.v (.int .i64 x.Start)]
structure dV where
 Load:Int
 Least:Int
 Preference:Int
 Thruster:Int
 Needs:fb
 deriving Inhabited
def q81(x:dV):List Pd:=[.v (.int .i64 x.Load),.v (.int .i64 x.Least),.v (.int .i64 x.Preference),.v (.int .i64 x.Thruster),.s (x.Needs.map pI)]
structure c_ where
 Buses:Int
 Breakers:List dU
 Sources:List eh
 Consumers:List dV
 Phase:Int
 Frequency:Int
 deriving Inhabited
def q27(x:c_):List Pd:=[.v (.int .i64 x.Buses),.s (x.Breakers.map q141),.s (x.Sources.map q143),.s (x.Consumers.map q81),.v (.int .i64 x.Phase),.v (.int .i64 x.Frequency)]
structure eo where
 Start:Int
 Stop:Int
 Delay:Int
 deriving Inhabited
def q29(x:eo):List Pd:=[.v (.int .i64 x.Start),.v (.int .i64 x.Stop),.v (.int .i64 x.Delay)]
structure ee where
 State:Int
 Since:Int
 Frequency:Int
 Phase:Int
 deriving Inhabited
def q96(x:ee):List Pd:=[.v (.int .i64 x.State),.v (.int .i64 x.Since),.v (.int .i64 x.Frequency),.v (.int .i64 x.Phase)]
structure dX where
 Kind:Int
 Number:Int
 deriving Inhabited
def q99(x:dX):List Pd:=[.v (.int .i64 x.Kind),.v (.int .i64 x.Number)]
structure dZ where
 Closed:fe
 Sources:List ee
 Limits:fb
 Broken:List dX
 deriving Inhabited
def q34(x:dZ):List Pd:=[.s (x.Closed.map pB),.s (x.Sources.map q96),.s (x.Limits.map pI),.s (x.Broken.map q99)]
structure d_ where
 High:Int
 Low:Int
 deriving Inhabited
def q107(x:d_):List Pd:=[.v (.int .i64 x.High),.v (.int .i64 x.Low)]
structure a_ where
 Kind:Int
 Unit:Int
 Value:Int
 deriving Inhabited
def q72(x:a_):List Pd:=[.v (.int .i64 x.Kind),.v (.int .i64 x.Unit),.v (.int .i64 x.Value)]
structure dW where
 Time:Int
 Act:a_
 Err:Int
 deriving Inhabited
def q129(x:dW):List Pd:=[.v (.int .i64 x.Time),.v (.int .i64 x.Act.Kind),.v (.int .i64 x.Act.Unit),.v (.int .i64 x.Act.Value),.v (.int .i64 x.Err)]
structure dY where
 Time:Int
 Power:dZ
 Rosters:List d_
 Events:List dW
 deriving Inhabited
def q38(x:dY):List Pd:=[.v (.int .i64 x.Time),.s (x.Power.Closed.map pB),.s (x.Power.Sources.map q96),.s (x.Power.Limits.map pI),.s (x.Power.Broken.map q99),.s (x.Rosters.map q107),.s (x.Events.map q129)]
structure b_ where
 From:Int
 To:Int
 deriving Inhabited
def q146(x:b_):List Pd:=[.v (.int .i64 x.From),.v (.int .i64 x.To)]
structure eq where
 Kind:Int
 Station:Int
 Max:Int
 Rate:Int
 Cost:Int
 Forbidden:List b_
 deriving Inhabited
def q84(x:eq):List Pd:=[.v (.int .i64 x.Kind),.v (.int .i64 x.Station),.v (.int .i64 x.Max),.v (.int .i64 x.Rate),.v (.int .i64 x.Cost),.s (x.Forbidden.map q146)]
structure ef where
 Bow:Int
 Stern:Int
 Thrusters:List eq
 deriving Inhabited
def q42(x:ef):List Pd:=[.v (.int .i64 x.Bow),.v (.int .i64 x.Stern),.s (x.Thrusters.map q84)]
structure Ax where
 Aj:dY
 Af:c_
 events:List dW
 states:List dZ
 deriving Inhabited
structure Ae where
 Buses:fb
 Sources:fb
 Consumers:fb
 deriving Inhabited
def A2(x:Ae):List Pd:=[.s (x.Buses.map pI),.s (x.Sources.map pI),.s (x.Consumers.map pI)]
structure Ar where
 Af:c_
 Ai:dZ
 time:Int
 deriving Inhabited
structure Ao where
 Af:c_
 Ai:dZ
 acts:List a_
 deriving Inhabited
structure E6 where
 X:Int
 Y:Int
 deriving Inhabited
structure Ab where
 L:fb
 At:Int
 deriving Inhabited
def uE(x:dU):List D:=[I x.Kind,I x.A,I x.B]
def A09(x:eh):List D:=[I x.Rating,I x.Least,I x.Start]
def d81(x:dV):List D:=[I x.Load,I x.Least,I x.Preference,I x.Thruster,DS pI x.Needs]
def d27(x:c_):List D:=[I x.Buses,DS q141 x.Breakers,DS q143 x.Sources,DS q81 x.Consumers,I x.Phase,I x.Frequency]
def d29(x:eo):List D:=[I x.Start,I x.Stop,I x.Delay]
def d96(x:ee):List D:=[I x.State,I x.Since,I x.Frequency,I x.Phase]
def d99(x:dX):List D:=[I x.Kind,I x.Number]
def d34(x:dZ):List D:=[DS pB x.Closed,DS q96 x.Sources,DS pI x.Limits,DS q99 x.Broken]
def Acx(x:d_):List D:=[I x.High,I x.Low]
def d72(x:a_):List D:=[I x.Kind,I x.Unit,I x.Value]
def d38(x:dY):List D:=[I x.Time,DS pB x.Power.Closed,DS q96 x.Power.Sources,DS pI x.Power.Limits,DS q99 x.Power.Broken,DS q107 x.Rosters,DS q129 x.Events]
def uD(x:b_):List D:=[I x.From,I x.To]
def d84(x:eq):List D:=[I x.Kind,I x.Station,I x.Max,I x.Rate,I x.Cost,DS q146 x.Forbidden]
def d42(x:ef):List D:=[I x.Bow,I x.Stern,DS q84 x.Thrusters]
def Nu(x:Ae):List D:=[DS pI x.Buses,DS pI x.Sources,DS pI x.Consumers]
def Aj7(x:E6):List D:=[I x.X,I x.Y]
def d89(x:Ab):List D:=[DS pI x.L,I x.At]
end Go.Proofs.YtkcebipolafapaaGreat
