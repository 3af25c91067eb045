import Derived.Test.YtedojeimigneaaaGreatDoorSq12
set_option linter.unusedVariables false
namespace Go.Proofs.YtedojeimigneaaaGreatDoor
open Go Go.SL
def Bdd:Ens:=[(false,E1),(false,E8),(false,E75),(false,Avq),(false,Avl)]
def b37:Ens:=[(false,Bfc),(false,A7p)]
theorem z37:Ci Tryz.prog b37:=Bq (k:=Bdd) (by kernel_rfl) C1 Ce (lend:=exL) ⟨y1,y8,y75,A9i,A9d,trivial⟩ (by kernel_rfl)
theorem A3c:A7p.ok Tryz.prog:=z37.2.1
end Go.Proofs.YtedojeimigneaaaGreatDoor
