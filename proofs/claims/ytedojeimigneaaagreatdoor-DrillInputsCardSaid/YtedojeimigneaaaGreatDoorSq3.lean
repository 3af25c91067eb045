import Derived.Test.YtedojeimigneaaaGreatDoorSq2
set_option linter.unusedVariables false
namespace Go.Proofs.YtedojeimigneaaaGreatDoor
open Go Go.SL
def kk7:Ens:=[(false,E4),(false,E14),(false,E33),(false,E37),(false,E38),(false,E40),(false,E42),(false,E46),(false,E47),(false,E48),(false,E49),(false,E50),(false,E51),(false,E52),(false,E53),(false,E54),(false,E55),(false,E58),(false,E62),(false,E63)]
def b7:Ens:=[(false,E64),(false,E65)]
theorem z7:Ci Tryz.prog b7:=Bq (k:=kk7) (by kernel_rfl) C1 Ce (lend:=exL) ⟨y4,y14,y33,y37,y38,y40,y42,y46,y47,y48,y49,y50,y51,y52,y53,y54,y55,y58,y62,y63,trivial⟩ (by kernel_rfl)
theorem y64:E64.ok Tryz.prog:=z7.1
theorem y65:E65.ok Tryz.prog:=z7.2.1
def kk8:Ens:=[(false,E4),(false,E48),(false,E50),(false,E54),(false,E56),(false,E57),(false,E59),(false,E60),(false,E61)]
def b8:Ens:=[(false,E66),(false,E67),(false,E68),(false,E69),(false,E70),(false,E71),(false,E72)]
theorem z8:Ci Tryz.prog b8:=Bq (k:=kk8) (by kernel_rfl) C1 Ce (lend:=exL) ⟨y4,y48,y50,y54,y56,y57,y59,y60,y61,trivial⟩ (by kernel_rfl)
theorem y66:E66.ok Tryz.prog:=z8.1
theorem y67:E67.ok Tryz.prog:=z8.2.1
theorem y68:E68.ok Tryz.prog:=z8.2.2.1
theorem y69:E69.ok Tryz.prog:=z8.2.2.2.1
theorem y70:E70.ok Tryz.prog:=z8.2.2.2.2.1
theorem y71:E71.ok Tryz.prog:=z8.2.2.2.2.2.1
theorem y72:E72.ok Tryz.prog:=z8.2.2.2.2.2.2.1
def kk9:Ens:=[(false,E56),(false,E58),(false,E62),(false,E67),(false,E72)]
def b9:Ens:=[(false,E73)]
theorem z9:Ci Tryz.prog b9:=Bq (k:=kk9) (by kernel_rfl) C1 Ce (lend:=exL) ⟨y56,y58,y62,y67,y72,trivial⟩ (by kernel_rfl)
theorem y73:E73.ok Tryz.prog:=z9.1
end Go.Proofs.YtedojeimigneaaaGreatDoor
