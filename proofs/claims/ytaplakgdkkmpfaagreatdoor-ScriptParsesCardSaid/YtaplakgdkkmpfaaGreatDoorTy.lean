import Derived.Test.YtaplakgdkkmpfaaGreatDoorSlV
set_option linter.unusedVariables false
namespace Go.Proofs.YtaplakgdkkmpfaaGreatDoor
open Go.SL
structure Aa where
 Kind:Int
 Numbers:List Int
 deriving Inhabited
def q26 (x:Aa):List Pd:=[.v (.int .i64 x.Kind),.s (x.Numbers.map pI)]
structure As where
 word:ByteArray
 numbers:Int
 say:Nat
 deriving Inhabited
def q76 (x:As):List Pd:=[.v (.string x.word),.v (.int .i64 x.numbers),.v (.func (.func x.say) #[] #[])]
structure Ac where
 From:Int
 Speed:Int
 deriving Inhabited
def q53 (x:Ac):List Pd:=[.v (.int .i64 x.From),.v (.int .i64 x.Speed)]
structure Af where
 Wind:Ac
 Current:Ac
 Wave:Ac
 deriving Inhabited
def q55 (x:Af):List Pd:=[.v (.int .i64 x.Wind.From),.v (.int .i64 x.Wind.Speed),.v (.int .i64 x.Current.From),.v (.int .i64 x.Current.Speed),.v (.int .i64 x.Wave.From),.v (.int .i64 x.Wave.Speed)]
structure Ib where
 Time:Int
 X:Int
 Y:Int
 Error:Int
 deriving Inhabited
def q93 (x:Ib):List Pd:=[.v (.int .i64 x.Time),.v (.int .i64 x.X),.v (.int .i64 x.Y),.v (.int .i64 x.Error)]
structure Ax where
 Reference:Int
 Fix:Ib
 deriving Inhabited
def q95 (x:Ax):List Pd:=[.v (.int .i64 x.Reference),.v (.int .i64 x.Fix.Time),.v (.int .i64 x.Fix.X),.v (.int .i64 x.Fix.Y),.v (.int .i64 x.Fix.Error)]
structure C5 where
 Kind:Int
 Unit:Int
 Value:Int
 deriving Inhabited
def q87 (x:C5):List Pd:=[.v (.int .i64 x.Kind),.v (.int .i64 x.Unit),.v (.int .i64 x.Value)]
structure Jc where
 Kind:Int
 Number:Int
 deriving Inhabited
def q89 (x:Jc):List Pd:=[.v (.int .i64 x.Kind),.v (.int .i64 x.Number)]
structure B9 where
 Time:Int
 Kind:Int
 Part:Jc
 deriving Inhabited
def q91 (x:B9):List Pd:=[.v (.int .i64 x.Time),.v (.int .i64 x.Kind),.v (.int .i64 x.Part.Kind),.v (.int .i64 x.Part.Number)]
structure Ai where
 Weather:Af
 Heading:Int
 Sights:List Ax
 Acts:List C5
 Faults:List B9
 Request:Int
 Seen:List Int
 deriving Inhabited
def q60 (x:Ai):List Pd:=[.v (.int .i64 x.Weather.Wind.From),.v (.int .i64 x.Weather.Wind.Speed),.v (.int .i64 x.Weather.Current.From),.v (.int .i64 x.Weather.Current.Speed),.v (.int .i64 x.Weather.Wave.From),.v (.int .i64 x.Weather.Wave.Speed),.v (.int .i64 x.Heading),.s (x.Sights.map q95),.s (x.Acts.map q87),.s (x.Faults.map q91),.v (.int .i64 x.Request),.s (x.Seen.map pI)]
structure Ab where
 time:Int
 weather:Af
 heading:Int
 next:Ai
 out:List Ai
 deriving Inhabited
def q85 (x:Ab):List Pd:=[.v (.int .i64 x.time),.v (.int .i64 x.weather.Wind.From),.v (.int .i64 x.weather.Wind.Speed),.v (.int .i64 x.weather.Current.From),.v (.int .i64 x.weather.Current.Speed),.v (.int .i64 x.weather.Wave.From),.v (.int .i64 x.weather.Wave.Speed),.v (.int .i64 x.heading),.v (.int .i64 x.next.Weather.Wind.From),.v (.int .i64 x.next.Weather.Wind.Speed),.v (.int .i64 x.next.Weather.Current.From),.v (.int .i64 x.next.Weather.Current.Speed),.v (.int .i64 x.next.Weather.Wave.From),.v (.int .i64 x.next.Weather.Wave.Speed),.v (.int .i64 x.next.Heading),.s (x.next.Sights.map q95),.s (x.next.Acts.map q87),.s (x.next.Faults.map q91),.v (.int .i64 x.next.Request),.s (x.next.Seen.map pI),.s (x.out.map q60)]
structure Ad where
 L:List Int
 At:Int
 deriving Inhabited
def q62 (x:Ad):List Pd:=[.s (x.L.map pI),.v (.int .i64 x.At)]
structure E2 where
 e0:ByteArray
 e1:ByteArray
 e2:ByteArray
 e3:ByteArray
 e4:ByteArray
 e5:ByteArray
 e6:ByteArray
 e7:ByteArray
 deriving Inhabited
def zG (x:E2):List Pd:=[.v (.string x.e0),.v (.string x.e1),.v (.string x.e2),.v (.string x.e3),.v (.string x.e4),.v (.string x.e5),.v (.string x.e6),.v (.string x.e7)]
structure Ih where
 e0:Int
 e1:Int
 e2:Int
 e3:Int
 e4:Int
 e5:Int
 e6:Int
 e7:Int
 deriving Inhabited
def q80 (x:Ih):List Pd:=[.v (.int .i64 x.e0),.v (.int .i64 x.e1),.v (.int .i64 x.e2),.v (.int .i64 x.e3),.v (.int .i64 x.e4),.v (.int .i64 x.e5),.v (.int .i64 x.e6),.v (.int .i64 x.e7)]
def d26 (x:Aa):List D:=[I x.Kind,DS pI x.Numbers]
def d76 (x:As):List D:=[.p (.v (.string x.word)),I x.numbers,.p (.v (.func (.func x.say) #[] #[]))]
def d53 (x:Ac):List D:=[I x.From,I x.Speed]
def d55 (x:Af):List D:=[I x.Wind.From,I x.Wind.Speed,I x.Current.From,I x.Current.Speed,I x.Wave.From,I x.Wave.Speed]
def d93 (x:Ib):List D:=[I x.Time,I x.X,I x.Y,I x.Error]
def d95 (x:Ax):List D:=[I x.Reference,I x.Fix.Time,I x.Fix.X,I x.Fix.Y,I x.Fix.Error]
def d87 (x:C5):List D:=[I x.Kind,I x.Unit,I x.Value]
def d89 (x:Jc):List D:=[I x.Kind,I x.Number]
def d91 (x:B9):List D:=[I x.Time,I x.Kind,I x.Part.Kind,I x.Part.Number]
def d60 (x:Ai):List D:=[I x.Weather.Wind.From,I x.Weather.Wind.Speed,I x.Weather.Current.From,I x.Weather.Current.Speed,I x.Weather.Wave.From,I x.Weather.Wave.Speed,I x.Heading,DS q95 x.Sights,DS q87 x.Acts,DS q91 x.Faults,I x.Request,DS pI x.Seen]
def d85 (x:Ab):List D:=[I x.time,I x.weather.Wind.From,I x.weather.Wind.Speed,I x.weather.Current.From,I x.weather.Current.Speed,I x.weather.Wave.From,I x.weather.Wave.Speed,I x.heading,I x.next.Weather.Wind.From,I x.next.Weather.Wind.Speed,I x.next.Weather.Current.From,I x.next.Weather.Current.Speed,I x.next.Weather.Wave.From,I x.next.Weather.Wave.Speed,I x.next.Heading,DS q95 x.next.Sights,DS q87 x.next.Acts,DS q91 x.next.Faults,I x.next.Request,DS pI x.next.Seen,DS q60 x.out]
def d62 (x:Ad):List D:=[DS pI x.L,I x.At]
def uI (x:E2):List D:=[.p (.v (.string x.e0)),.p (.v (.string x.e1)),.p (.v (.string x.e2)),.p (.v (.string x.e3)),.p (.v (.string x.e4)),.p (.v (.string x.e5)),.p (.v (.string x.e6)),.p (.v (.string x.e7))]
def d80 (x:Ih):List D:=[I x.e0,I x.e1,I x.e2,I x.e3,I x.e4,I x.e5,I x.e6,I x.e7]
end Go.Proofs.YtaplakgdkkmpfaaGreatDoor
