import Derived.Test.YtedojeimigneaaaGreatDoorSlW
import Derived.LaidLaws
namespace Go.SL
open Go.ChangeShapes Go.WideShapes Go.ChangeAt Go.RowKit
section
variable{P:Program}{W:World}
end
end Go.SL
