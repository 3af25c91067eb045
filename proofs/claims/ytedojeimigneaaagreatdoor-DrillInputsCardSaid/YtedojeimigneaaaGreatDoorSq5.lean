import Derived.Test.YtedojeimigneaaaGreatDoorSq4
set_option linter.unusedVariables false
namespace Go.Proofs.YtedojeimigneaaaGreatDoor
open Go Go.SL
def Bd2:Ens:=[(false,E7),(false,E67),(false,E72),(false,E76),(false,E79)]
def b12:Ens:=[(false,E80),(false,E81),(false,E82),(false,E83),(false,E84),(false,E85)]
theorem z12:Ci Tryz.prog b12:=Bq (k:=Bd2) (by kernel_rfl) C1 Ce (lend:=exL) ⟨y7,y67,y72,y76,y79,trivial⟩ (by kernel_rfl)
theorem y80:E80.ok Tryz.prog:=z12.1
theorem y81:E81.ok Tryz.prog:=z12.2.1
theorem y82:E82.ok Tryz.prog:=z12.2.2.1
theorem y83:E83.ok Tryz.prog:=z12.2.2.2.1
theorem y84:E84.ok Tryz.prog:=z12.2.2.2.2.1
theorem y85:E85.ok Tryz.prog:=z12.2.2.2.2.2.1
def Bd1:Ens:=[]
def b13:Ens:=[(false,E86),(false,E87),(false,E88),(false,E89),(false,E90),(false,E91)]
theorem z13:Ci Tryz.prog b13:=Bq (k:=Bd1) (by kernel_rfl) C1 Ce (lend:=exL) trivial (by kernel_rfl)
theorem y86:E86.ok Tryz.prog:=z13.1
theorem y87:E87.ok Tryz.prog:=z13.2.1
theorem y88:E88.ok Tryz.prog:=z13.2.2.1
theorem y89:E89.ok Tryz.prog:=z13.2.2.2.1
theorem y90:E90.ok Tryz.prog:=z13.2.2.2.2.1
theorem y91:E91.ok Tryz.prog:=z13.2.2.2.2.2.1
def Bd0:Ens:=[(false,E2),(false,E3),(false,E5),(false,E86),(false,E87),(false,E88),(false,E89),(false,E90),(false,E91)]
def b14:Ens:=[(false,E92),(false,E93),(false,E94),(false,E95),(false,E96),(false,E97),(false,E98)]
theorem z14:Ci Tryz.prog b14:=Bq (k:=Bd0) (by kernel_rfl) C1 Ce (lend:=exL) ⟨y2,y3,y5,y86,y87,y88,y89,y90,y91,trivial⟩ (by kernel_rfl)
theorem y92:E92.ok Tryz.prog:=z14.1
theorem y93:E93.ok Tryz.prog:=z14.2.1
theorem y95:E95.ok Tryz.prog:=z14.2.2.2.1
theorem y96:E96.ok Tryz.prog:=z14.2.2.2.2.1
theorem y97:E97.ok Tryz.prog:=z14.2.2.2.2.2.1
theorem y98:E98.ok Tryz.prog:=z14.2.2.2.2.2.2.1
end Go.Proofs.YtedojeimigneaaaGreatDoor
