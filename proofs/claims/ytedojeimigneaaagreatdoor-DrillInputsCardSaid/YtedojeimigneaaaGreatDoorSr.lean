import Derived.Test.YtedojeimigneaaaGreatDoorSq13
import Derived.Test.YtedojeimigneaaaGreatDoorMo
set_option linter.unusedVariables false
namespace Go.Proofs.YtedojeimigneaaaGreatDoor
open Go.SL
theorem k4(r:Bool)(h:F4=some r):CallOk Tryz.prog 4 [] [] (.d (Bo r)) []:=by cases h;exact A3c.2
theorem e4:Dl Tryz.prog 4:=A3c.1
end Go.Proofs.YtedojeimigneaaaGreatDoor
