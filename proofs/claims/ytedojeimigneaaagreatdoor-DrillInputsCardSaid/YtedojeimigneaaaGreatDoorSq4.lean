import Derived.Test.YtedojeimigneaaaGreatDoorSq3
set_option linter.unusedVariables false
namespace Go.Proofs.YtedojeimigneaaaGreatDoor
open Go Go.SL
def Bd4:Ens:=[(false,E9),(false,E20),(false,E22),(false,E23),(false,E25),(false,E26),(false,E27),(false,E28),(false,E29),(false,E30),(false,E31),(false,E33),(false,E34),(false,E35),(false,E36),(false,E37),(false,E38),(false,E40),(false,E41),(false,E43),(false,E44),(false,E45),(false,E65),(false,E66),(false,E73)]
def b10:Ens:=[(false,E74)]
theorem z10:Ci Tryz.prog b10:=Bq (k:=Bd4) (by kernel_rfl) C1 Ce (lend:=exL) ⟨y9,y20,y22,y23,y25,y26,y27,y28,y29,y30,y31,y33,y34,y35,y36,y37,y38,y40,y41,y43,y44,y45,y65,y66,y73,trivial⟩ (by kernel_rfl)
theorem y74:E74.ok Tryz.prog:=z10.1
def Bd3:Ens:=[(false,E4),(false,E7),(false,E9),(false,E15),(false,E16),(false,E17),(false,E18),(false,E19),(false,E21),(false,E32),(false,E39),(false,E64),(false,E67),(false,E68),(false,E69),(false,E70),(false,E71),(false,E74)]
def b11:Ens:=[(false,E75),(false,E76),(false,E77),(false,E78),(false,E79)]
theorem z11:Ci Tryz.prog b11:=Bq (k:=Bd3) (by kernel_rfl) C1 Ce (lend:=exL) ⟨y4,y7,y9,y15,y16,y17,y18,y19,y21,y32,y39,y64,y67,y68,y69,y70,y71,y74,trivial⟩ (by kernel_rfl)
theorem y75:E75.ok Tryz.prog:=z11.1
theorem y76:E76.ok Tryz.prog:=z11.2.1
theorem y77:E77.ok Tryz.prog:=z11.2.2.1
theorem y78:E78.ok Tryz.prog:=z11.2.2.2.1
theorem y79:E79.ok Tryz.prog:=z11.2.2.2.2.1
end Go.Proofs.YtedojeimigneaaaGreatDoor
