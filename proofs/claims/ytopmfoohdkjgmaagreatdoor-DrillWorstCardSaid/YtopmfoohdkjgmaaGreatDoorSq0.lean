/-
  What the law's own test does, carried out by reckoning.
-/
import Derived.Test.YtopmfoohdkjgmaaGreatDoorSqD
set_option linter.unusedVariables false
namespace Go.Proofs.YtopmfoohdkjgmaaGreatDoor
open Go Go.SL
def kk0 : Ens := []
def b0 : Ens := [(false, E0), (false, E1), (false, E2), (false, E3), (false, E4), (false, E5), (false, E6), (false, E7), (false, E8), (false, E9), (false, E10), (false, E11)]
theorem z0 : EnsOk Tryz.prog b0 := exAll_ok (k := kk0) (by kernel_rfl) exHok exIhok (lend := exL) trivial (by kernel_rfl)
theorem y0 : E0.ok Tryz.prog := z0.1
theorem y1 : E1.ok Tryz.prog := z0.2.1
theorem y2 : E2.ok Tryz.prog := z0.2.2.1
theorem y3 : E3.ok Tryz.prog := z0.2.2.2.1
theorem y4 : E4.ok Tryz.prog := z0.2.2.2.2.1
theorem y5 : E5.ok Tryz.prog := z0.2.2.2.2.2.1
theorem y6 : E6.ok Tryz.prog := z0.2.2.2.2.2.2.1
theorem y7 : E7.ok Tryz.prog := z0.2.2.2.2.2.2.2.1
theorem y8 : E8.ok Tryz.prog := z0.2.2.2.2.2.2.2.2.1
theorem y9 : E9.ok Tryz.prog := z0.2.2.2.2.2.2.2.2.2.1
theorem y10 : E10.ok Tryz.prog := z0.2.2.2.2.2.2.2.2.2.2.1
theorem y11 : E11.ok Tryz.prog := z0.2.2.2.2.2.2.2.2.2.2.2.1
def kk1 : Ens := [(false, E11)]
def b1 : Ens := [(false, E12), (false, E13), (false, E14), (false, E15)]
theorem z1 : EnsOk Tryz.prog b1 := exAll_ok (k := kk1) (by kernel_rfl) exHok exIhok (lend := exL) ⟨y11, trivial⟩ (by kernel_rfl)
theorem y12 : E12.ok Tryz.prog := z1.1
theorem y13 : E13.ok Tryz.prog := z1.2.1
theorem y14 : E14.ok Tryz.prog := z1.2.2.1
theorem y15 : E15.ok Tryz.prog := z1.2.2.2.1
def kk2 : Ens := []
def b2 : Ens := [(false, E16), (false, E17), (false, E18), (false, E19), (false, E20), (false, E21), (false, E22), (false, E23), (false, E24), (false, E25), (false, E26)]
theorem z2 : EnsOk Tryz.prog b2 := exAll_ok (k := kk2) (by kernel_rfl) exHok exIhok (lend := exL) trivial (by kernel_rfl)
theorem y16 : E16.ok Tryz.prog := z2.1
theorem y17 : E17.ok Tryz.prog := z2.2.1
theorem y18 : E18.ok Tryz.prog := z2.2.2.1
theorem y19 : E19.ok Tryz.prog := z2.2.2.2.1
theorem y20 : E20.ok Tryz.prog := z2.2.2.2.2.1
theorem y21 : E21.ok Tryz.prog := z2.2.2.2.2.2.1
theorem y22 : E22.ok Tryz.prog := z2.2.2.2.2.2.2.1
theorem y23 : E23.ok Tryz.prog := z2.2.2.2.2.2.2.2.1
theorem y24 : E24.ok Tryz.prog := z2.2.2.2.2.2.2.2.2.1
theorem y25 : E25.ok Tryz.prog := z2.2.2.2.2.2.2.2.2.2.1
theorem y26 : E26.ok Tryz.prog := z2.2.2.2.2.2.2.2.2.2.2.1
def kk3 : Ens := [(false, E15), (false, E17), (false, E24), (false, E25), (false, E26)]
def b3 : Ens := [(false, E27), (false, E28), (false, E29), (false, E30), (false, E31), (false, E32), (false, E33), (false, E34), (false, E35), (false, E36), (false, E37), (false, E38)]
theorem z3 : EnsOk Tryz.prog b3 := exAll_ok (k := kk3) (by kernel_rfl) exHok exIhok (lend := exL) ⟨y15, y17, y24, y25, y26, trivial⟩ (by kernel_rfl)
theorem y27 : E27.ok Tryz.prog := z3.1
theorem y28 : E28.ok Tryz.prog := z3.2.1
theorem y29 : E29.ok Tryz.prog := z3.2.2.1
theorem y30 : E30.ok Tryz.prog := z3.2.2.2.1
theorem y31 : E31.ok Tryz.prog := z3.2.2.2.2.1
theorem y32 : E32.ok Tryz.prog := z3.2.2.2.2.2.1
theorem y33 : E33.ok Tryz.prog := z3.2.2.2.2.2.2.1
theorem y34 : E34.ok Tryz.prog := z3.2.2.2.2.2.2.2.1
theorem y35 : E35.ok Tryz.prog := z3.2.2.2.2.2.2.2.2.1
theorem y36 : E36.ok Tryz.prog := z3.2.2.2.2.2.2.2.2.2.1
theorem y37 : E37.ok Tryz.prog := z3.2.2.2.2.2.2.2.2.2.2.1
theorem y38 : E38.ok Tryz.prog := z3.2.2.2.2.2.2.2.2.2.2.2.1
def kk4 : Ens := []
def b4 : Ens := [(false, E39), (false, E40), (false, E41), (false, E42), (false, E43), (false, E44), (false, E45)]
theorem z4 : EnsOk Tryz.prog b4 := exAll_ok (k := kk4) (by kernel_rfl) exHok exIhok (lend := exL) trivial (by kernel_rfl)
theorem y39 : E39.ok Tryz.prog := z4.1
theorem y40 : E40.ok Tryz.prog := z4.2.1
theorem y41 : E41.ok Tryz.prog := z4.2.2.1
theorem y42 : E42.ok Tryz.prog := z4.2.2.2.1
theorem y43 : E43.ok Tryz.prog := z4.2.2.2.2.1
theorem y44 : E44.ok Tryz.prog := z4.2.2.2.2.2.1
theorem y45 : E45.ok Tryz.prog := z4.2.2.2.2.2.2.1
def kk5 : Ens := [(false, E24), (false, E44), (false, E45)]
def b5 : Ens := [(false, E46), (false, E47), (false, E48), (false, E49), (false, E50), (false, E51)]
theorem z5 : EnsOk Tryz.prog b5 := exAll_ok (k := kk5) (by kernel_rfl) exHok exIhok (lend := exL) ⟨y24, y44, y45, trivial⟩ (by kernel_rfl)
theorem y46 : E46.ok Tryz.prog := z5.1
theorem y47 : E47.ok Tryz.prog := z5.2.1
theorem y48 : E48.ok Tryz.prog := z5.2.2.1
theorem y49 : E49.ok Tryz.prog := z5.2.2.2.1
theorem y50 : E50.ok Tryz.prog := z5.2.2.2.2.1
theorem y51 : E51.ok Tryz.prog := z5.2.2.2.2.2.1
def kk6 : Ens := [(false, E24), (false, E48), (false, E49), (false, E50), (false, E51)]
def b6 : Ens := [(false, E52), (false, E53), (false, E54), (false, E55), (false, E56), (false, E57), (false, E58)]
theorem z6 : EnsOk Tryz.prog b6 := exAll_ok (k := kk6) (by kernel_rfl) exHok exIhok (lend := exL) ⟨y24, y48, y49, y50, y51, trivial⟩ (by kernel_rfl)
theorem y52 : E52.ok Tryz.prog := z6.1
theorem y53 : E53.ok Tryz.prog := z6.2.1
theorem y54 : E54.ok Tryz.prog := z6.2.2.1
theorem y55 : E55.ok Tryz.prog := z6.2.2.2.1
theorem y56 : E56.ok Tryz.prog := z6.2.2.2.2.1
theorem y57 : E57.ok Tryz.prog := z6.2.2.2.2.2.1
theorem y58 : E58.ok Tryz.prog := z6.2.2.2.2.2.2.1
def kk7 : Ens := [(false, E48), (false, E51), (false, E52), (false, E53), (false, E54), (false, E56), (false, E58)]
def b7 : Ens := [(false, E59), (false, E60), (false, E61), (false, E62), (false, E63)]
theorem z7 : EnsOk Tryz.prog b7 := exAll_ok (k := kk7) (by kernel_rfl) exHok exIhok (lend := exL) ⟨y48, y51, y52, y53, y54, y56, y58, trivial⟩ (by kernel_rfl)
theorem y59 : E59.ok Tryz.prog := z7.1
theorem y60 : E60.ok Tryz.prog := z7.2.1
theorem y61 : E61.ok Tryz.prog := z7.2.2.1
theorem y62 : E62.ok Tryz.prog := z7.2.2.2.1
theorem y63 : E63.ok Tryz.prog := z7.2.2.2.2.1
end Go.Proofs.YtopmfoohdkjgmaaGreatDoor
set_option linter.unusedVariables false
namespace Go.Proofs.YtopmfoohdkjgmaaGreatDoor
open Go Go.SL
def kk8 : Ens := [(false, E48)]
def b8 : Ens := [(false, E64), (false, E65), (false, E66), (false, E67), (false, E68), (false, E69)]
theorem z8 : EnsOk Tryz.prog b8 := exAll_ok (k := kk8) (by kernel_rfl) exHok exIhok (lend := exL) ⟨y48, trivial⟩ (by kernel_rfl)
theorem y64 : E64.ok Tryz.prog := z8.1
theorem y65 : E65.ok Tryz.prog := z8.2.1
theorem y66 : E66.ok Tryz.prog := z8.2.2.1
theorem y67 : E67.ok Tryz.prog := z8.2.2.2.1
theorem y68 : E68.ok Tryz.prog := z8.2.2.2.2.1
theorem y69 : E69.ok Tryz.prog := z8.2.2.2.2.2.1
def kk9 : Ens := [(false, E24)]
def b9 : Ens := [(false, E70), (false, E71), (false, E72), (false, E73), (false, E74), (false, E75)]
theorem z9 : EnsOk Tryz.prog b9 := exAll_ok (k := kk9) (by kernel_rfl) exHok exIhok (lend := exL) ⟨y24, trivial⟩ (by kernel_rfl)
theorem y70 : E70.ok Tryz.prog := z9.1
theorem y71 : E71.ok Tryz.prog := z9.2.1
theorem y72 : E72.ok Tryz.prog := z9.2.2.1
theorem y73 : E73.ok Tryz.prog := z9.2.2.2.1
theorem y74 : E74.ok Tryz.prog := z9.2.2.2.2.1
theorem y75 : E75.ok Tryz.prog := z9.2.2.2.2.2.1
def kk10 : Ens := []
def b10 : Ens := [(false, E76), (false, E77), (false, E78), (false, E79), (false, E80), (false, E81)]
theorem z10 : EnsOk Tryz.prog b10 := exAll_ok (k := kk10) (by kernel_rfl) exHok exIhok (lend := exL) trivial (by kernel_rfl)
theorem y76 : E76.ok Tryz.prog := z10.1
theorem y77 : E77.ok Tryz.prog := z10.2.1
theorem y78 : E78.ok Tryz.prog := z10.2.2.1
theorem y79 : E79.ok Tryz.prog := z10.2.2.2.1
theorem y80 : E80.ok Tryz.prog := z10.2.2.2.2.1
theorem y81 : E81.ok Tryz.prog := z10.2.2.2.2.2.1
def kk11 : Ens := [(false, E60), (false, E65), (false, E75), (false, E76), (false, E77), (false, E78), (false, E79), (false, E80), (false, E81)]
def b11 : Ens := [(false, E82), (false, E83), (false, E84), (false, E85), (false, E86), (false, E87)]
theorem z11 : EnsOk Tryz.prog b11 := exAll_ok (k := kk11) (by kernel_rfl) exHok exIhok (lend := exL) ⟨y60, y65, y75, y76, y77, y78, y79, y80, y81, trivial⟩ (by kernel_rfl)
theorem y82 : E82.ok Tryz.prog := z11.1
theorem y83 : E83.ok Tryz.prog := z11.2.1
theorem y84 : E84.ok Tryz.prog := z11.2.2.1
theorem y85 : E85.ok Tryz.prog := z11.2.2.2.1
theorem y86 : E86.ok Tryz.prog := z11.2.2.2.2.1
theorem y87 : E87.ok Tryz.prog := z11.2.2.2.2.2.1
def kk12 : Ens := [(false, E24), (false, E86), (false, E87)]
def b12 : Ens := [(false, E88), (false, E89), (false, E90), (false, E91), (false, E92), (false, E93)]
theorem z12 : EnsOk Tryz.prog b12 := exAll_ok (k := kk12) (by kernel_rfl) exHok exIhok (lend := exL) ⟨y24, y86, y87, trivial⟩ (by kernel_rfl)
theorem y88 : E88.ok Tryz.prog := z12.1
theorem y89 : E89.ok Tryz.prog := z12.2.1
theorem y90 : E90.ok Tryz.prog := z12.2.2.1
theorem y91 : E91.ok Tryz.prog := z12.2.2.2.1
theorem y92 : E92.ok Tryz.prog := z12.2.2.2.2.1
theorem y93 : E93.ok Tryz.prog := z12.2.2.2.2.2.1
def kk13 : Ens := [(false, E90), (false, E91), (false, E92), (false, E93)]
def b13 : Ens := [(false, E94), (false, E95), (false, E96), (false, E97), (false, E98), (false, E99), (false, E100)]
theorem z13 : EnsOk Tryz.prog b13 := exAll_ok (k := kk13) (by kernel_rfl) exHok exIhok (lend := exL) ⟨y90, y91, y92, y93, trivial⟩ (by kernel_rfl)
theorem y94 : E94.ok Tryz.prog := z13.1
theorem y95 : E95.ok Tryz.prog := z13.2.1
theorem y96 : E96.ok Tryz.prog := z13.2.2.1
theorem y97 : E97.ok Tryz.prog := z13.2.2.2.1
theorem y98 : E98.ok Tryz.prog := z13.2.2.2.2.1
theorem y99 : E99.ok Tryz.prog := z13.2.2.2.2.2.1
theorem y100 : E100.ok Tryz.prog := z13.2.2.2.2.2.2.1
def kk14 : Ens := [(false, E24)]
def b14 : Ens := [(false, E101), (false, E102), (false, E103), (false, E104), (false, E105), (false, E106), (false, E107)]
theorem z14 : EnsOk Tryz.prog b14 := exAll_ok (k := kk14) (by kernel_rfl) exHok exIhok (lend := exL) ⟨y24, trivial⟩ (by kernel_rfl)
theorem y101 : E101.ok Tryz.prog := z14.1
theorem y102 : E102.ok Tryz.prog := z14.2.1
theorem y103 : E103.ok Tryz.prog := z14.2.2.1
theorem y104 : E104.ok Tryz.prog := z14.2.2.2.1
theorem y105 : E105.ok Tryz.prog := z14.2.2.2.2.1
theorem y106 : E106.ok Tryz.prog := z14.2.2.2.2.2.1
theorem y107 : E107.ok Tryz.prog := z14.2.2.2.2.2.2.1
def kk15 : Ens := [(false, E105), (false, E106), (false, E107)]
def b15 : Ens := [(false, E108), (false, E109), (false, E110), (false, E111), (false, E112), (false, E113), (false, E114)]
theorem z15 : EnsOk Tryz.prog b15 := exAll_ok (k := kk15) (by kernel_rfl) exHok exIhok (lend := exL) ⟨y105, y106, y107, trivial⟩ (by kernel_rfl)
theorem y108 : E108.ok Tryz.prog := z15.1
theorem y109 : E109.ok Tryz.prog := z15.2.1
theorem y110 : E110.ok Tryz.prog := z15.2.2.1
theorem y111 : E111.ok Tryz.prog := z15.2.2.2.1
theorem y112 : E112.ok Tryz.prog := z15.2.2.2.2.1
theorem y113 : E113.ok Tryz.prog := z15.2.2.2.2.2.1
theorem y114 : E114.ok Tryz.prog := z15.2.2.2.2.2.2.1
end Go.Proofs.YtopmfoohdkjgmaaGreatDoor
