/-
  What the law's own test does, carried out by reckoning.
-/
import Derived.Test.YtopmfoohdkjgmaaGreatDoorSq0
set_option linter.unusedVariables false
namespace Go.Proofs.YtopmfoohdkjgmaaGreatDoor
open Go Go.SL
def kk16 : Ens := [(false, E85), (false, E99), (false, E100), (false, E114)]
def b16 : Ens := [(false, E115), (false, E116), (false, E117), (false, E118), (false, E119), (false, E120)]
theorem z16 : EnsOk Tryz.prog b16 := exAll_ok (k := kk16) (by kernel_rfl) exHok exIhok (lend := exL) ⟨y85, y99, y100, y114, trivial⟩ (by kernel_rfl)
theorem y115 : E115.ok Tryz.prog := z16.1
theorem y116 : E116.ok Tryz.prog := z16.2.1
theorem y117 : E117.ok Tryz.prog := z16.2.2.1
theorem y118 : E118.ok Tryz.prog := z16.2.2.2.1
theorem y119 : E119.ok Tryz.prog := z16.2.2.2.2.1
theorem y120 : E120.ok Tryz.prog := z16.2.2.2.2.2.1
def kk17 : Ens := [(false, E24), (false, E117), (false, E118), (false, E119), (false, E120)]
def b17 : Ens := [(false, E121), (false, E122), (false, E123), (false, E124), (false, E125), (false, E126), (false, E127)]
theorem z17 : EnsOk Tryz.prog b17 := exAll_ok (k := kk17) (by kernel_rfl) exHok exIhok (lend := exL) ⟨y24, y117, y118, y119, y120, trivial⟩ (by kernel_rfl)
theorem y121 : E121.ok Tryz.prog := z17.1
theorem y122 : E122.ok Tryz.prog := z17.2.1
theorem y123 : E123.ok Tryz.prog := z17.2.2.1
theorem y124 : E124.ok Tryz.prog := z17.2.2.2.1
theorem y125 : E125.ok Tryz.prog := z17.2.2.2.2.1
theorem y126 : E126.ok Tryz.prog := z17.2.2.2.2.2.1
theorem y127 : E127.ok Tryz.prog := z17.2.2.2.2.2.2.1
def kk18 : Ens := [(false, E24), (false, E57), (false, E116), (false, E121), (false, E122), (false, E123), (false, E124), (false, E125), (false, E126), (false, E127)]
def b18 : Ens := [(false, E128), (false, E129), (false, E130), (false, E131), (false, E132), (false, E133), (false, E134), (false, E135), (false, E136), (false, E137)]
theorem z18 : EnsOk Tryz.prog b18 := exAll_ok (k := kk18) (by kernel_rfl) exHok exIhok (lend := exL) ⟨y24, y57, y116, y121, y122, y123, y124, y125, y126, y127, trivial⟩ (by kernel_rfl)
theorem y128 : E128.ok Tryz.prog := z18.1
theorem y129 : E129.ok Tryz.prog := z18.2.1
theorem y130 : E130.ok Tryz.prog := z18.2.2.1
theorem y131 : E131.ok Tryz.prog := z18.2.2.2.1
theorem y132 : E132.ok Tryz.prog := z18.2.2.2.2.1
theorem y133 : E133.ok Tryz.prog := z18.2.2.2.2.2.1
theorem y134 : E134.ok Tryz.prog := z18.2.2.2.2.2.2.1
theorem y135 : E135.ok Tryz.prog := z18.2.2.2.2.2.2.2.1
theorem y136 : E136.ok Tryz.prog := z18.2.2.2.2.2.2.2.2.1
theorem y137 : E137.ok Tryz.prog := z18.2.2.2.2.2.2.2.2.2.1
def kk19 : Ens := [(false, E24), (false, E137)]
def b19 : Ens := [(false, E138), (false, E139), (false, E140), (false, E141), (false, E142), (false, E143), (false, E144), (false, E145)]
theorem z19 : EnsOk Tryz.prog b19 := exAll_ok (k := kk19) (by kernel_rfl) exHok exIhok (lend := exL) ⟨y24, y137, trivial⟩ (by kernel_rfl)
theorem y138 : E138.ok Tryz.prog := z19.1
theorem y139 : E139.ok Tryz.prog := z19.2.1
theorem y140 : E140.ok Tryz.prog := z19.2.2.1
theorem y141 : E141.ok Tryz.prog := z19.2.2.2.1
theorem y142 : E142.ok Tryz.prog := z19.2.2.2.2.1
theorem y143 : E143.ok Tryz.prog := z19.2.2.2.2.2.1
theorem y144 : E144.ok Tryz.prog := z19.2.2.2.2.2.2.1
theorem y145 : E145.ok Tryz.prog := z19.2.2.2.2.2.2.2.1
def kk20 : Ens := [(false, E141), (false, E142), (false, E145)]
def b20 : Ens := [(false, E146), (false, E147), (false, E148), (false, E149), (false, E150), (false, E151), (false, E152), (false, E153), (false, E154), (false, E155)]
theorem z20 : EnsOk Tryz.prog b20 := exAll_ok (k := kk20) (by kernel_rfl) exHok exIhok (lend := exL) ⟨y141, y142, y145, trivial⟩ (by kernel_rfl)
theorem y146 : E146.ok Tryz.prog := z20.1
theorem y147 : E147.ok Tryz.prog := z20.2.1
theorem y148 : E148.ok Tryz.prog := z20.2.2.1
theorem y149 : E149.ok Tryz.prog := z20.2.2.2.1
theorem y150 : E150.ok Tryz.prog := z20.2.2.2.2.1
theorem y151 : E151.ok Tryz.prog := z20.2.2.2.2.2.1
theorem y152 : E152.ok Tryz.prog := z20.2.2.2.2.2.2.1
theorem y153 : E153.ok Tryz.prog := z20.2.2.2.2.2.2.2.1
theorem y154 : E154.ok Tryz.prog := z20.2.2.2.2.2.2.2.2.1
theorem y155 : E155.ok Tryz.prog := z20.2.2.2.2.2.2.2.2.2.1
def kk21 : Ens := [(false, E24), (false, E155)]
def b21 : Ens := [(false, E156), (false, E157), (false, E158), (false, E159), (false, E160), (false, E161), (false, E162), (false, E163)]
theorem z21 : EnsOk Tryz.prog b21 := exAll_ok (k := kk21) (by kernel_rfl) exHok exIhok (lend := exL) ⟨y24, y155, trivial⟩ (by kernel_rfl)
theorem y156 : E156.ok Tryz.prog := z21.1
theorem y157 : E157.ok Tryz.prog := z21.2.1
theorem y158 : E158.ok Tryz.prog := z21.2.2.1
theorem y159 : E159.ok Tryz.prog := z21.2.2.2.1
theorem y160 : E160.ok Tryz.prog := z21.2.2.2.2.1
theorem y161 : E161.ok Tryz.prog := z21.2.2.2.2.2.1
theorem y162 : E162.ok Tryz.prog := z21.2.2.2.2.2.2.1
theorem y163 : E163.ok Tryz.prog := z21.2.2.2.2.2.2.2.1
def kk22 : Ens := [(false, E159), (false, E160), (false, E163)]
def b22 : Ens := [(false, E164), (false, E165), (false, E166), (false, E167), (false, E168), (false, E169), (false, E170), (false, E171), (false, E172), (false, E173), (false, E174)]
theorem z22 : EnsOk Tryz.prog b22 := exAll_ok (k := kk22) (by kernel_rfl) exHok exIhok (lend := exL) ⟨y159, y160, y163, trivial⟩ (by kernel_rfl)
theorem y164 : E164.ok Tryz.prog := z22.1
theorem y165 : E165.ok Tryz.prog := z22.2.1
theorem y166 : E166.ok Tryz.prog := z22.2.2.1
theorem y167 : E167.ok Tryz.prog := z22.2.2.2.1
theorem y168 : E168.ok Tryz.prog := z22.2.2.2.2.1
theorem y169 : E169.ok Tryz.prog := z22.2.2.2.2.2.1
theorem y170 : E170.ok Tryz.prog := z22.2.2.2.2.2.2.1
theorem y171 : E171.ok Tryz.prog := z22.2.2.2.2.2.2.2.1
theorem y172 : E172.ok Tryz.prog := z22.2.2.2.2.2.2.2.2.1
theorem y173 : E173.ok Tryz.prog := z22.2.2.2.2.2.2.2.2.2.1
theorem y174 : E174.ok Tryz.prog := z22.2.2.2.2.2.2.2.2.2.2.1
def kk23 : Ens := [(false, E24), (false, E174)]
def b23 : Ens := [(false, E175), (false, E176), (false, E177), (false, E178), (false, E179), (false, E180), (false, E181), (false, E182)]
theorem z23 : EnsOk Tryz.prog b23 := exAll_ok (k := kk23) (by kernel_rfl) exHok exIhok (lend := exL) ⟨y24, y174, trivial⟩ (by kernel_rfl)
theorem y175 : E175.ok Tryz.prog := z23.1
theorem y176 : E176.ok Tryz.prog := z23.2.1
theorem y177 : E177.ok Tryz.prog := z23.2.2.1
theorem y178 : E178.ok Tryz.prog := z23.2.2.2.1
theorem y179 : E179.ok Tryz.prog := z23.2.2.2.2.1
theorem y180 : E180.ok Tryz.prog := z23.2.2.2.2.2.1
theorem y181 : E181.ok Tryz.prog := z23.2.2.2.2.2.2.1
theorem y182 : E182.ok Tryz.prog := z23.2.2.2.2.2.2.2.1
end Go.Proofs.YtopmfoohdkjgmaaGreatDoor
set_option linter.unusedVariables false
namespace Go.Proofs.YtopmfoohdkjgmaaGreatDoor
open Go Go.SL
def kk24 : Ens := [(false, E178), (false, E179), (false, E182)]
def b24 : Ens := [(false, E183), (false, E184), (false, E185), (false, E186), (false, E187), (false, E188), (false, E189), (false, E190), (false, E191), (false, E192)]
theorem z24 : EnsOk Tryz.prog b24 := exAll_ok (k := kk24) (by kernel_rfl) exHok exIhok (lend := exL) ⟨y178, y179, y182, trivial⟩ (by kernel_rfl)
theorem y183 : E183.ok Tryz.prog := z24.1
theorem y184 : E184.ok Tryz.prog := z24.2.1
theorem y185 : E185.ok Tryz.prog := z24.2.2.1
theorem y186 : E186.ok Tryz.prog := z24.2.2.2.1
theorem y187 : E187.ok Tryz.prog := z24.2.2.2.2.1
theorem y188 : E188.ok Tryz.prog := z24.2.2.2.2.2.1
theorem y189 : E189.ok Tryz.prog := z24.2.2.2.2.2.2.1
theorem y190 : E190.ok Tryz.prog := z24.2.2.2.2.2.2.2.1
theorem y191 : E191.ok Tryz.prog := z24.2.2.2.2.2.2.2.2.1
theorem y192 : E192.ok Tryz.prog := z24.2.2.2.2.2.2.2.2.2.1
def kk25 : Ens := [(false, E121), (false, E128), (false, E129), (false, E132), (false, E134), (false, E135), (false, E136), (false, E143), (false, E144), (false, E152), (false, E153), (false, E154), (false, E161), (false, E162), (false, E171), (false, E172), (false, E173), (false, E180), (false, E181), (false, E190), (false, E191), (false, E192)]
def b25 : Ens := [(false, E193)]
theorem z25 : EnsOk Tryz.prog b25 := exAll_ok (k := kk25) (by kernel_rfl) exHok exIhok (lend := exL) ⟨y121, y128, y129, y132, y134, y135, y136, y143, y144, y152, y153, y154, y161, y162, y171, y172, y173, y180, y181, y190, y191, y192, trivial⟩ (by kernel_rfl)
theorem y193 : E193.ok Tryz.prog := z25.1
def kk26 : Ens := [(false, E48), (false, E60), (false, E62), (false, E63), (false, E64), (false, E68), (false, E69), (false, E70), (false, E75), (false, E84), (false, E105), (false, E107), (false, E108), (false, E109), (false, E110), (false, E111), (false, E112), (false, E115), (false, E133), (false, E193)]
def b26 : Ens := [(false, E194), (false, E195), (false, E196), (false, E197), (false, E198)]
theorem z26 : EnsOk Tryz.prog b26 := exAll_ok (k := kk26) (by kernel_rfl) exHok exIhok (lend := exL) ⟨y48, y60, y62, y63, y64, y68, y69, y70, y75, y84, y105, y107, y108, y109, y110, y111, y112, y115, y133, y193, trivial⟩ (by kernel_rfl)
theorem y194 : E194.ok Tryz.prog := z26.1
theorem y195 : E195.ok Tryz.prog := z26.2.1
theorem y196 : E196.ok Tryz.prog := z26.2.2.1
theorem y197 : E197.ok Tryz.prog := z26.2.2.2.1
theorem y198 : E198.ok Tryz.prog := z26.2.2.2.2.1
def kk27 : Ens := [(false, E90), (false, E98), (false, E105), (false, E113), (false, E121), (false, E123), (false, E124), (false, E125), (false, E126), (false, E127), (false, E128), (false, E198)]
def b27 : Ens := [(false, E199), (false, E200), (false, E201), (false, E202), (false, E203)]
theorem z27 : EnsOk Tryz.prog b27 := exAll_ok (k := kk27) (by kernel_rfl) exHok exIhok (lend := exL) ⟨y90, y98, y105, y113, y121, y123, y124, y125, y126, y127, y128, y198, trivial⟩ (by kernel_rfl)
theorem y199 : E199.ok Tryz.prog := z27.1
theorem y200 : E200.ok Tryz.prog := z27.2.1
theorem y201 : E201.ok Tryz.prog := z27.2.2.1
theorem y202 : E202.ok Tryz.prog := z27.2.2.2.1
theorem y203 : E203.ok Tryz.prog := z27.2.2.2.2.1
def kk28 : Ens := [(false, E105), (false, E121), (false, E128), (false, E129), (false, E141), (false, E142), (false, E146), (false, E147), (false, E148), (false, E149), (false, E150), (false, E201), (false, E203)]
def b28 : Ens := [(false, E204), (false, E205), (false, E206), (false, E207)]
theorem z28 : EnsOk Tryz.prog b28 := exAll_ok (k := kk28) (by kernel_rfl) exHok exIhok (lend := exL) ⟨y105, y121, y128, y129, y141, y142, y146, y147, y148, y149, y150, y201, y203, trivial⟩ (by kernel_rfl)
theorem y204 : E204.ok Tryz.prog := z28.1
theorem y205 : E205.ok Tryz.prog := z28.2.1
theorem y206 : E206.ok Tryz.prog := z28.2.2.1
theorem y207 : E207.ok Tryz.prog := z28.2.2.2.1
def kk29 : Ens := [(false, E121), (false, E141), (false, E143), (false, E152), (false, E159), (false, E160), (false, E164), (false, E165), (false, E166), (false, E167), (false, E168), (false, E205), (false, E207)]
def b29 : Ens := [(false, E208), (false, E209), (false, E210), (false, E211), (false, E212)]
theorem z29 : EnsOk Tryz.prog b29 := exAll_ok (k := kk29) (by kernel_rfl) exHok exIhok (lend := exL) ⟨y121, y141, y143, y152, y159, y160, y164, y165, y166, y167, y168, y205, y207, trivial⟩ (by kernel_rfl)
theorem y208 : E208.ok Tryz.prog := z29.1
theorem y209 : E209.ok Tryz.prog := z29.2.1
theorem y210 : E210.ok Tryz.prog := z29.2.2.1
theorem y211 : E211.ok Tryz.prog := z29.2.2.2.1
theorem y212 : E212.ok Tryz.prog := z29.2.2.2.2.1
def kk30 : Ens := [(false, E159), (false, E161), (false, E170), (false, E178), (false, E179), (false, E180), (false, E183), (false, E184), (false, E185), (false, E186), (false, E187), (false, E188), (false, E189)]
def b30 : Ens := [(false, E213), (false, E214), (false, E215), (false, E216), (false, E217)]
theorem z30 : EnsOk Tryz.prog b30 := exAll_ok (k := kk30) (by kernel_rfl) exHok exIhok (lend := exL) ⟨y159, y161, y170, y178, y179, y180, y183, y184, y185, y186, y187, y188, y189, trivial⟩ (by kernel_rfl)
theorem y213 : E213.ok Tryz.prog := z30.1
theorem y214 : E214.ok Tryz.prog := z30.2.1
theorem y215 : E215.ok Tryz.prog := z30.2.2.1
theorem y216 : E216.ok Tryz.prog := z30.2.2.2.1
theorem y217 : E217.ok Tryz.prog := z30.2.2.2.2.1
def kk31 : Ens := [(false, E24)]
def b31 : Ens := [(false, E218), (false, E219), (false, E220), (false, E221), (false, E222), (false, E223), (false, E224)]
theorem z31 : EnsOk Tryz.prog b31 := exAll_ok (k := kk31) (by kernel_rfl) exHok exIhok (lend := exL) ⟨y24, trivial⟩ (by kernel_rfl)
theorem y218 : E218.ok Tryz.prog := z31.1
theorem y219 : E219.ok Tryz.prog := z31.2.1
theorem y220 : E220.ok Tryz.prog := z31.2.2.1
theorem y221 : E221.ok Tryz.prog := z31.2.2.2.1
theorem y222 : E222.ok Tryz.prog := z31.2.2.2.2.1
theorem y223 : E223.ok Tryz.prog := z31.2.2.2.2.2.1
theorem y224 : E224.ok Tryz.prog := z31.2.2.2.2.2.2.1
end Go.Proofs.YtopmfoohdkjgmaaGreatDoor
