import Derived.Test.YtakbldjmgfcipaaDoorSlV
set_option linter.unusedVariables false
namespace Go.Proofs.YtakbldjmgfcipaaDoor
open Go.SL
structure api_Point where
  X : Int
  Y : Int
  deriving Inhabited
def api_Point.ps (x : api_Point) : List Pd := [.v (.int .i64 x.X), .v (.int .i64 x.Y)]
structure api_Circle where
  Place : api_Point
  Yellow : Int
  Red : Int
  deriving Inhabited
def api_Circle.ps (x : api_Circle) : List Pd := [.v (.int .i64 x.Place.X), .v (.int .i64 x.Place.Y), .v (.int .i64 x.Yellow), .v (.int .i64 x.Red)]
structure api_Operation where
  Name : ByteArray
  Class : Int
  Circle : api_Circle
  Drift : Int
  deriving Inhabited
def api_Operation.ps (x : api_Operation) : List Pd := [.v (.string x.Name), .v (.int .i64 x.Class), .v (.int .i64 x.Circle.Place.X), .v (.int .i64 x.Circle.Place.Y), .v (.int .i64 x.Circle.Yellow), .v (.int .i64 x.Circle.Red), .v (.int .i64 x.Drift)]
structure dynposmake_Src where
  L : List Int
  At : Int
  deriving Inhabited
def dynposmake_Src.ps (x : dynposmake_Src) : List Pd := [.s (x.L.map pI), .v (.int .i64 x.At)]
end Go.Proofs.YtakbldjmgfcipaaDoor
