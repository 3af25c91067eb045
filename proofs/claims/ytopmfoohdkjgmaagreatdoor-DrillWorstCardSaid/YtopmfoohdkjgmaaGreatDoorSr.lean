import Derived.Test.YtopmfoohdkjgmaaGreatDoorSq5
import Derived.Test.YtopmfoohdkjgmaaGreatDoorMo
set_option linter.unusedVariables false
namespace Go.Proofs.YtopmfoohdkjgmaaGreatDoor
open Go.SL
theorem k4 (r : Bool) (h : F4 = some r) : CallOk Tryz.prog 4 [] [] (.d (Bo r)) [] := by cases h; exact y844.2
theorem e4 : Enters Tryz.prog 4 := y844.1
end Go.Proofs.YtopmfoohdkjgmaaGreatDoor
