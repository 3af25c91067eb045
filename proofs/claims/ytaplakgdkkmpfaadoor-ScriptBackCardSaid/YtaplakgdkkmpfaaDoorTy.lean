import Derived.Test.YtaplakgdkkmpfaaDoorSlV
set_option linter.unusedVariables false
namespace Go.Proofs.YtaplakgdkkmpfaaDoor
open Go.SL
structure Aa where
 Kind:Int
 Numbers:List Int
 deriving Inhabited
def q36 (x:Aa):List Pd:=[.v (.int .i64 x.Kind),.s (x.Numbers.map pI)]
structure Ao where
 word:ByteArray
 numbers:Int
 say:Nat
 deriving Inhabited
def q82 (x:Ao):List Pd:=[.v (.string x.word),.v (.int .i64 x.numbers),.v (.func (.func x.say) #[] #[])]
structure Ac where
 From:Int
 Speed:Int
 deriving Inhabited
def q43 (x:Ac):List Pd:=[.v (.int .i64 x.From),.v (.int .i64 x.Speed)]
structure Af where
 Wind:Ac
 Current:Ac
 Wave:Ac
 deriving Inhabited
def q45 (x:Af):List Pd:=[.v (.int .i64 x.Wind.From),.v (.int .i64 x.Wind.Speed),.v (.int .i64 x.Current.From),.v (.int .i64 x.Current.Speed),.v (.int .i64 x.Wave.From),.v (.int .i64 x.Wave.Speed)]
structure G4 where
 Time:Int
 X:Int
 Y:Int
 Error:Int
 deriving Inhabited
def q86 (x:G4):List Pd:=[.v (.int .i64 x.Time),.v (.int .i64 x.X),.v (.int .i64 x.Y),.v (.int .i64 x.Error)]
structure As where
 Reference:Int
 Fix:G4
 deriving Inhabited
def q88 (x:As):List Pd:=[.v (.int .i64 x.Reference),.v (.int .i64 x.Fix.Time),.v (.int .i64 x.Fix.X),.v (.int .i64 x.Fix.Y),.v (.int .i64 x.Fix.Error)]
structure Cu where
 Kind:Int
 Unit:Int
 Value:Int
 deriving Inhabited
def q90 (x:Cu):List Pd:=[.v (.int .i64 x.Kind),.v (.int .i64 x.Unit),.v (.int .i64 x.Value)]
structure Hs where
 Kind:Int
 Number:Int
 deriving Inhabited
def q92 (x:Hs):List Pd:=[.v (.int .i64 x.Kind),.v (.int .i64 x.Number)]
structure Bw where
 Time:Int
 Kind:Int
 Part:Hs
 deriving Inhabited
def q94 (x:Bw):List Pd:=[.v (.int .i64 x.Time),.v (.int .i64 x.Kind),.v (.int .i64 x.Part.Kind),.v (.int .i64 x.Part.Number)]
structure Ah where
 Weather:Af
 Heading:Int
 Sights:List As
 Acts:List Cu
 Faults:List Bw
 Request:Int
 Seen:List Int
 deriving Inhabited
def q50 (x:Ah):List Pd:=[.v (.int .i64 x.Weather.Wind.From),.v (.int .i64 x.Weather.Wind.Speed),.v (.int .i64 x.Weather.Current.From),.v (.int .i64 x.Weather.Current.Speed),.v (.int .i64 x.Weather.Wave.From),.v (.int .i64 x.Weather.Wave.Speed),.v (.int .i64 x.Heading),.s (x.Sights.map q88),.s (x.Acts.map q90),.s (x.Faults.map q94),.v (.int .i64 x.Request),.s (x.Seen.map pI)]
structure Ab where
 time:Int
 weather:Af
 heading:Int
 next:Ah
 out:List Ah
 deriving Inhabited
def q79 (x:Ab):List Pd:=[.v (.int .i64 x.time),.v (.int .i64 x.weather.Wind.From),.v (.int .i64 x.weather.Wind.Speed),.v (.int .i64 x.weather.Current.From),.v (.int .i64 x.weather.Current.Speed),.v (.int .i64 x.weather.Wave.From),.v (.int .i64 x.weather.Wave.Speed),.v (.int .i64 x.heading),.v (.int .i64 x.next.Weather.Wind.From),.v (.int .i64 x.next.Weather.Wind.Speed),.v (.int .i64 x.next.Weather.Current.From),.v (.int .i64 x.next.Weather.Current.Speed),.v (.int .i64 x.next.Weather.Wave.From),.v (.int .i64 x.next.Weather.Wave.Speed),.v (.int .i64 x.next.Heading),.s (x.next.Sights.map q88),.s (x.next.Acts.map q90),.s (x.next.Faults.map q94),.v (.int .i64 x.next.Request),.s (x.next.Seen.map pI),.s (x.out.map q50)]
structure Ad where
 L:List Int
 At:Int
 deriving Inhabited
def q53 (x:Ad):List Pd:=[.s (x.L.map pI),.v (.int .i64 x.At)]
def d36 (x:Aa):List D:=[I x.Kind,DS pI x.Numbers]
def d82 (x:Ao):List D:=[.p (.v (.string x.word)),I x.numbers,.p (.v (.func (.func x.say) #[] #[]))]
def d43 (x:Ac):List D:=[I x.From,I x.Speed]
def d45 (x:Af):List D:=[I x.Wind.From,I x.Wind.Speed,I x.Current.From,I x.Current.Speed,I x.Wave.From,I x.Wave.Speed]
def d86 (x:G4):List D:=[I x.Time,I x.X,I x.Y,I x.Error]
def d88 (x:As):List D:=[I x.Reference,I x.Fix.Time,I x.Fix.X,I x.Fix.Y,I x.Fix.Error]
def d90 (x:Cu):List D:=[I x.Kind,I x.Unit,I x.Value]
def d92 (x:Hs):List D:=[I x.Kind,I x.Number]
def d94 (x:Bw):List D:=[I x.Time,I x.Kind,I x.Part.Kind,I x.Part.Number]
def d50 (x:Ah):List D:=[I x.Weather.Wind.From,I x.Weather.Wind.Speed,I x.Weather.Current.From,I x.Weather.Current.Speed,I x.Weather.Wave.From,I x.Weather.Wave.Speed,I x.Heading,DS q88 x.Sights,DS q90 x.Acts,DS q94 x.Faults,I x.Request,DS pI x.Seen]
def d79 (x:Ab):List D:=[I x.time,I x.weather.Wind.From,I x.weather.Wind.Speed,I x.weather.Current.From,I x.weather.Current.Speed,I x.weather.Wave.From,I x.weather.Wave.Speed,I x.heading,I x.next.Weather.Wind.From,I x.next.Weather.Wind.Speed,I x.next.Weather.Current.From,I x.next.Weather.Current.Speed,I x.next.Weather.Wave.From,I x.next.Weather.Wave.Speed,I x.next.Heading,DS q88 x.next.Sights,DS q90 x.next.Acts,DS q94 x.next.Faults,I x.next.Request,DS pI x.next.Seen,DS q50 x.out]
def d53 (x:Ad):List D:=[DS pI x.L,I x.At]
end Go.Proofs.YtaplakgdkkmpfaaDoor
