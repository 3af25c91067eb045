import Derived.Test.YtedojeimigneaaaGreatDoorSq10
set_option linter.unusedVariables false
namespace Go.Proofs.YtedojeimigneaaaGreatDoor
open Go Go.SL
def Bdj:Ens:=[]
def b31:Ens:=[(false,Avr)]
theorem z31:Ci Tryz.prog b31:=Bq (k:=Bdj) (by kernel_rfl) C1 Ce (lend:=exL) trivial (by kernel_rfl)
theorem A9j:Avr.ok Tryz.prog:=z31.1
def Bdi:Ens:=[(false,E5),(false,E6),(false,E67),(false,E76),(false,E80),(false,E85),(false,E93),(false,Avu),(false,Avs),(false,Avr)]
def b32:Ens:=[(false,Avq),(false,Amt)]
theorem z32:Ci Tryz.prog b32:=Bq (k:=Bdi) (by kernel_rfl) C1 Ce (lend:=exL) ⟨y5,y6,y67,y76,y80,y85,y93,A9m,A9k,A9j,trivial⟩ (by kernel_rfl)
theorem A9i:Avq.ok Tryz.prog:=z32.1
theorem A3e:Amt.ok Tryz.prog:=z32.2.1
def Bdh:Ens:=[(false,E7),(false,E77),(false,E78),(false,E87),(false,E88),(false,E89),(false,E90),(false,E91),(false,Amt)]
def b33:Ens:=[(false,Avp),(false,Ams)]
theorem z33:Ci Tryz.prog b33:=Bq (k:=Bdh) (by kernel_rfl) C1 Ce (lend:=exL) ⟨y7,y77,y78,y87,y88,y89,y90,y91,A3e,trivial⟩ (by kernel_rfl)
theorem A9h:Avp.ok Tryz.prog:=z33.1
theorem A3d:Ams.ok Tryz.prog:=z33.2.1
end Go.Proofs.YtedojeimigneaaaGreatDoor
