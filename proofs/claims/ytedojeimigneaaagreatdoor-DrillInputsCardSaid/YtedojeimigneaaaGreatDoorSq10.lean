import Derived.Test.YtedojeimigneaaaGreatDoorSq9
set_option linter.unusedVariables false
namespace Go.Proofs.YtedojeimigneaaaGreatDoor
open Go Go.SL
def Bdm:Ens:=[(false,Avy),(false,Avx)]
def b28:Ens:=[(false,Amv)]
theorem z28:Ci Tryz.prog b28:=Bq (k:=Bdm) (by kernel_rfl) C1 Ce (lend:=exL) ⟨A9q,A9p,trivial⟩ (by kernel_rfl)
theorem A3g:Amv.ok Tryz.prog:=z28.1
def Bdl:Ens:=[(false,E3),(false,E67),(false,E68),(false,E69),(false,E70),(false,E71),(false,E76),(false,E77),(false,E78),(false,E95),(false,E96),(false,E97),(false,E98),(false,E99),(false,Am1),(false,Am0),(false,Amz),(false,Amy),(false,Amx),(false,Amw),(false,Amv)]
def b29:Ens:=[(false,Avw),(false,Avv),(false,Avu),(false,Amu)]
theorem z29:Ci Tryz.prog b29:=Bq (k:=Bdl) (by kernel_rfl) C1 Ce (lend:=exL) ⟨y3,y67,y68,y69,y70,y71,y76,y77,y78,y95,y96,y97,y98,y99,A3m,A3l,A3k,A3j,A3i,A3h,A3g,trivial⟩ (by kernel_rfl)
theorem A9o:Avw.ok Tryz.prog:=z29.1
theorem A9n:Avv.ok Tryz.prog:=z29.2.1
theorem A9m:Avu.ok Tryz.prog:=z29.2.2.1
theorem A3f:Amu.ok Tryz.prog:=z29.2.2.2.1
def Bdk:Ens:=[(false,E3),(false,E5),(false,E77),(false,E78),(false,E92),(false,E97),(false,Am1),(false,Am0),(false,Amz),(false,Amy),(false,Amx),(false,Amw),(false,Amv),(false,Avw),(false,Amu)]
def b30:Ens:=[(false,Avt),(false,Bfd),(false,Avs)]
theorem z30:Ci Tryz.prog b30:=Bq (k:=Bdk) (by kernel_rfl) C1 Ce (lend:=exL) ⟨y3,y5,y77,y78,y92,y97,A3m,A3l,A3k,A3j,A3i,A3h,A3g,A9o,A3f,trivial⟩ (by kernel_rfl)
theorem A9l:Avt.ok Tryz.prog:=z30.1
theorem A9k:Avs.ok Tryz.prog:=z30.2.2.1
end Go.Proofs.YtedojeimigneaaaGreatDoor
