import Derived.Test.YtedojeimigneaaaGreatDoorSq0
set_option linter.unusedVariables false
namespace Go.Proofs.YtedojeimigneaaaGreatDoor
open Go Go.SL
def kk2:Ens:=[(false,E4),(false,E15),(false,E17),(false,E20)]
def b2:Ens:=[(false,E21),(false,E22)]
theorem z2:Ci Tryz.prog b2:=Bq (k:=kk2) (by kernel_rfl) C1 Ce (lend:=exL) ⟨y4,y15,y17,y20,trivial⟩ (by kernel_rfl)
theorem y21:E21.ok Tryz.prog:=z2.1
theorem y22:E22.ok Tryz.prog:=z2.2.1
def kk3:Ens:=[(false,E4),(false,E22)]
def b3:Ens:=[(false,E23),(false,E24),(false,E25),(false,E26),(false,E27),(false,E28),(false,E29),(false,E30)]
theorem z3:Ci Tryz.prog b3:=Bq (k:=kk3) (by kernel_rfl) C1 Ce (lend:=exL) ⟨y4,y22,trivial⟩ (by kernel_rfl)
theorem y23:E23.ok Tryz.prog:=z3.1
theorem y24:E24.ok Tryz.prog:=z3.2.1
theorem y25:E25.ok Tryz.prog:=z3.2.2.1
theorem y26:E26.ok Tryz.prog:=z3.2.2.2.1
theorem y27:E27.ok Tryz.prog:=z3.2.2.2.2.1
theorem y28:E28.ok Tryz.prog:=z3.2.2.2.2.2.1
theorem y29:E29.ok Tryz.prog:=z3.2.2.2.2.2.2.1
theorem y30:E30.ok Tryz.prog:=z3.2.2.2.2.2.2.2.1
def kk4:Ens:=[(false,E4),(false,E24),(false,E25),(false,E26),(false,E27),(false,E28),(false,E29),(false,E30)]
def b4:Ens:=[(false,E31),(false,E32),(false,E33),(false,E34),(false,E35),(false,E36),(false,E37),(false,E38)]
theorem z4:Ci Tryz.prog b4:=Bq (k:=kk4) (by kernel_rfl) C1 Ce (lend:=exL) ⟨y4,y24,y25,y26,y27,y28,y29,y30,trivial⟩ (by kernel_rfl)
theorem y31:E31.ok Tryz.prog:=z4.1
theorem y32:E32.ok Tryz.prog:=z4.2.1
theorem y33:E33.ok Tryz.prog:=z4.2.2.1
theorem y34:E34.ok Tryz.prog:=z4.2.2.2.1
theorem y35:E35.ok Tryz.prog:=z4.2.2.2.2.1
theorem y36:E36.ok Tryz.prog:=z4.2.2.2.2.2.1
theorem y37:E37.ok Tryz.prog:=z4.2.2.2.2.2.2.1
theorem y38:E38.ok Tryz.prog:=z4.2.2.2.2.2.2.2.1
end Go.Proofs.YtedojeimigneaaaGreatDoor
