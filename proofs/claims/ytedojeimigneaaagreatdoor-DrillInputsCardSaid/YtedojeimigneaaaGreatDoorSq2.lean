import Derived.Test.YtedojeimigneaaaGreatDoorSq1
set_option linter.unusedVariables false
namespace Go.Proofs.YtedojeimigneaaaGreatDoor
open Go Go.SL
def kk5:Ens:=[(false,E4),(false,E38)]
def b5:Ens:=[(false,E39),(false,E40),(false,E41),(false,E42),(false,E43),(false,E44),(false,E45),(false,E46),(false,E47),(false,E48)]
theorem z5:Ci Tryz.prog b5:=Bq (k:=kk5) (by kernel_rfl) C1 Ce (lend:=exL) ⟨y4,y38,trivial⟩ (by kernel_rfl)
theorem y39:E39.ok Tryz.prog:=z5.1
theorem y40:E40.ok Tryz.prog:=z5.2.1
theorem y41:E41.ok Tryz.prog:=z5.2.2.1
theorem y42:E42.ok Tryz.prog:=z5.2.2.2.1
theorem y43:E43.ok Tryz.prog:=z5.2.2.2.2.1
theorem y44:E44.ok Tryz.prog:=z5.2.2.2.2.2.1
theorem y45:E45.ok Tryz.prog:=z5.2.2.2.2.2.2.1
theorem y46:E46.ok Tryz.prog:=z5.2.2.2.2.2.2.2.1
theorem y47:E47.ok Tryz.prog:=z5.2.2.2.2.2.2.2.2.1
theorem y48:E48.ok Tryz.prog:=z5.2.2.2.2.2.2.2.2.2.1
def kk6:Ens:=[(false,E4),(false,E48)]
def b6:Ens:=[(false,E49),(false,E50),(false,E51),(false,E52),(false,E53),(false,E54),(false,E55),(false,E56),(false,E57),(false,E58),(false,E59),(false,E60),(false,E61),(false,E62),(false,E63)]
theorem z6:Ci Tryz.prog b6:=Bq (k:=kk6) (by kernel_rfl) C1 Ce (lend:=exL) ⟨y4,y48,trivial⟩ (by kernel_rfl)
theorem y49:E49.ok Tryz.prog:=z6.1
theorem y50:E50.ok Tryz.prog:=z6.2.1
theorem y51:E51.ok Tryz.prog:=z6.2.2.1
theorem y52:E52.ok Tryz.prog:=z6.2.2.2.1
theorem y53:E53.ok Tryz.prog:=z6.2.2.2.2.1
theorem y54:E54.ok Tryz.prog:=z6.2.2.2.2.2.1
theorem y55:E55.ok Tryz.prog:=z6.2.2.2.2.2.2.1
theorem y56:E56.ok Tryz.prog:=z6.2.2.2.2.2.2.2.1
theorem y57:E57.ok Tryz.prog:=z6.2.2.2.2.2.2.2.2.1
theorem y58:E58.ok Tryz.prog:=z6.2.2.2.2.2.2.2.2.2.1
theorem y59:E59.ok Tryz.prog:=z6.2.2.2.2.2.2.2.2.2.2.1
theorem y60:E60.ok Tryz.prog:=z6.2.2.2.2.2.2.2.2.2.2.2.1
theorem y61:E61.ok Tryz.prog:=z6.2.2.2.2.2.2.2.2.2.2.2.2.1
theorem y62:E62.ok Tryz.prog:=z6.2.2.2.2.2.2.2.2.2.2.2.2.2.1
theorem y63:E63.ok Tryz.prog:=z6.2.2.2.2.2.2.2.2.2.2.2.2.2.2.1
end Go.Proofs.YtedojeimigneaaaGreatDoor
