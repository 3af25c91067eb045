import Derived.Test.YtakbldjmgfcipaaSlV
set_option linter.unusedVariables false
namespace Go.Proofs.Ytakbldjmgfcipaa
open Go.SL
structure api_Point where
  X : Int
  Y : Int
  deriving Inhabited
def api_Point.ps (x : api_Point) : List Pd := [.v (.int .i64 x.X), .v (.int .i64 x.Y)]
structure api_Circle where
  Place : api_Point
  Yellow : Int
  Red : Int
  deriving Inhabited
def api_Circle.ps (x : api_Circle) : List Pd := [.v (.int .i64 x.Place.X), .v (.int .i64 x.Place.Y), .v (.int .i64 x.Yellow), .v (.int .i64 x.Red)]
structure api_Estimate where
  Point : api_Point
  Bound : Int
  Time : Int
  State : Int
  deriving Inhabited
def api_Estimate.ps (x : api_Estimate) : List Pd := [.v (.int .i64 x.Point.X), .v (.int .i64 x.Point.Y), .v (.int .i64 x.Bound), .v (.int .i64 x.Time), .v (.int .i64 x.State)]
structure dynposmake_Src where
  L : List Int
  At : Int
  deriving Inhabited
def dynposmake_Src.ps (x : dynposmake_Src) : List Pd := [.s (x.L.map pI), .v (.int .i64 x.At)]
end Go.Proofs.Ytakbldjmgfcipaa
