import Derived.Test.YtedojeimigneaaaGreatDoorSq11
set_option linter.unusedVariables false
namespace Go.Proofs.YtedojeimigneaaaGreatDoor
open Go Go.SL
def Bdg:Ens:=[(false,E5),(false,E77),(false,E78),(false,Amu),(false,Avt),(false,Ams)]
def b34:Ens:=[(false,Avo),(false,Avn)]
theorem z34:Ci Tryz.prog b34:=Bq (k:=Bdg) (by kernel_rfl) C1 Ce (lend:=exL) ⟨y5,y77,y78,A3f,A9l,A3d,trivial⟩ (by kernel_rfl)
theorem A9g:Avo.ok Tryz.prog:=z34.1
theorem A9f:Avn.ok Tryz.prog:=z34.2.1
def Bdf:Ens:=[(false,Amt)]
def b35:Ens:=[(false,Avm)]
theorem z35:Ci Tryz.prog b35:=Bq (k:=Bdf) (by kernel_rfl) C1 Ce (lend:=exL) ⟨A3e,trivial⟩ (by kernel_rfl)
theorem A9e:Avm.ok Tryz.prog:=z35.1
def Bde:Ens:=[(false,E5),(false,E6),(false,E67),(false,E72),(false,E76),(false,E77),(false,E78),(false,E81),(false,E82),(false,E83),(false,E84),(false,E95),(false,E96),(false,E97),(false,E99),(false,Avv),(false,Avp),(false,Ams),(false,Avo),(false,Avn),(false,Avm)]
def b36:Ens:=[(false,Avl)]
theorem z36:Ci Tryz.prog b36:=Bq (k:=Bde) (by kernel_rfl) C1 Ce (lend:=exL) ⟨y5,y6,y67,y72,y76,y77,y78,y81,y82,y83,y84,y95,y96,y97,y99,A9n,A9h,A3d,A9g,A9f,A9e,trivial⟩ (by kernel_rfl)
theorem A9d:Avl.ok Tryz.prog:=z36.1
end Go.Proofs.YtedojeimigneaaaGreatDoor
