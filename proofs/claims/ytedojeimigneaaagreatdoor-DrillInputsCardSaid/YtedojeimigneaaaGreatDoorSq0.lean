import Derived.Test.YtedojeimigneaaaGreatDoorSqD
set_option linter.unusedVariables false
namespace Go.Proofs.YtedojeimigneaaaGreatDoor
open Go Go.SL
def kk0:Ens:=[]
def b0:Ens:=[(false,E0),(false,E1),(false,E2),(false,E3),(false,E4),(false,E5),(false,E6),(false,E7),(false,E8),(false,E9),(false,E10),(false,E11)]
theorem z0:Ci Tryz.prog b0:=Bq (k:=kk0) (by kernel_rfl) C1 Ce (lend:=exL) trivial (by kernel_rfl)
theorem y1:E1.ok Tryz.prog:=z0.2.1
theorem y2:E2.ok Tryz.prog:=z0.2.2.1
theorem y3:E3.ok Tryz.prog:=z0.2.2.2.1
theorem y4:E4.ok Tryz.prog:=z0.2.2.2.2.1
theorem y5:E5.ok Tryz.prog:=z0.2.2.2.2.2.1
theorem y6:E6.ok Tryz.prog:=z0.2.2.2.2.2.2.1
theorem y7:E7.ok Tryz.prog:=z0.2.2.2.2.2.2.2.1
theorem y8:E8.ok Tryz.prog:=z0.2.2.2.2.2.2.2.2.1
theorem y9:E9.ok Tryz.prog:=z0.2.2.2.2.2.2.2.2.2.1
theorem y10:E10.ok Tryz.prog:=z0.2.2.2.2.2.2.2.2.2.2.1
theorem y11:E11.ok Tryz.prog:=z0.2.2.2.2.2.2.2.2.2.2.2.1
def kk1:Ens:=[(false,E4),(false,E9),(false,E10),(false,E11)]
def b1:Ens:=[(false,E12),(false,E13),(false,E14),(false,E15),(false,E16),(false,E17),(false,E18),(false,E19),(false,E20)]
theorem z1:Ci Tryz.prog b1:=Bq (k:=kk1) (by kernel_rfl) C1 Ce (lend:=exL) ⟨y4,y9,y10,y11,trivial⟩ (by kernel_rfl)
theorem y14:E14.ok Tryz.prog:=z1.2.2.1
theorem y15:E15.ok Tryz.prog:=z1.2.2.2.1
theorem y16:E16.ok Tryz.prog:=z1.2.2.2.2.1
theorem y17:E17.ok Tryz.prog:=z1.2.2.2.2.2.1
theorem y18:E18.ok Tryz.prog:=z1.2.2.2.2.2.2.1
theorem y19:E19.ok Tryz.prog:=z1.2.2.2.2.2.2.2.1
theorem y20:E20.ok Tryz.prog:=z1.2.2.2.2.2.2.2.2.1
end Go.Proofs.YtedojeimigneaaaGreatDoor
