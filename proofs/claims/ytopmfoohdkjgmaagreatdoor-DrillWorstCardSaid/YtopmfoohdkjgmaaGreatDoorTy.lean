import Derived.Test.YtopmfoohdkjgmaaGreatDoorSlV
set_option linter.unusedVariables false
namespace Go.Proofs.YtopmfoohdkjgmaaGreatDoor
open Go.SL
structure dynposmake_Src where
  L : List Int
  At : Int
  deriving Inhabited
def q105 (x : dynposmake_Src) : List Pd := [.s (x.L.map pI), .v (.int .i64 x.At)]
def d105 (x : dynposmake_Src) : List D := [DS pI x.L, I x.At]
end Go.Proofs.YtopmfoohdkjgmaaGreatDoor
