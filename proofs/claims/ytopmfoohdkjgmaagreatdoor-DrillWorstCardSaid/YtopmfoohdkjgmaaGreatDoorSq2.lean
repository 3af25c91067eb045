/-
  What the law's own test does, carried out by reckoning.
-/
import Derived.Test.YtopmfoohdkjgmaaGreatDoorSq1
set_option linter.unusedVariables false
namespace Go.Proofs.YtopmfoohdkjgmaaGreatDoor
open Go Go.SL
def kk32 : Ens := [(false, E178), (false, E217), (false, E222), (false, E223), (false, E224)]
def b32 : Ens := [(false, E225), (false, E226), (false, E227), (false, E228), (false, E229), (false, E230), (false, E231), (false, E232)]
theorem z32 : EnsOk Tryz.prog b32 := exAll_ok (k := kk32) (by kernel_rfl) exHok exIhok (lend := exL) ⟨y178, y217, y222, y223, y224, trivial⟩ (by kernel_rfl)
theorem y225 : E225.ok Tryz.prog := z32.1
theorem y226 : E226.ok Tryz.prog := z32.2.1
theorem y227 : E227.ok Tryz.prog := z32.2.2.1
theorem y228 : E228.ok Tryz.prog := z32.2.2.2.1
theorem y229 : E229.ok Tryz.prog := z32.2.2.2.2.1
theorem y230 : E230.ok Tryz.prog := z32.2.2.2.2.2.1
theorem y231 : E231.ok Tryz.prog := z32.2.2.2.2.2.2.1
theorem y232 : E232.ok Tryz.prog := z32.2.2.2.2.2.2.2.1
def kk33 : Ens := [(false, E34), (false, E35), (false, E38), (false, E39), (false, E41), (false, E43), (false, E48), (false, E194), (false, E195), (false, E196), (false, E200), (false, E204), (false, E208), (false, E212), (false, E216), (false, E222), (false, E224), (false, E225), (false, E226), (false, E227), (false, E228), (false, E229), (false, E230), (false, E232)]
def b33 : Ens := [(false, E233), (false, E234), (false, E235), (false, E236), (false, E237)]
theorem z33 : EnsOk Tryz.prog b33 := exAll_ok (k := kk33) (by kernel_rfl) exHok exIhok (lend := exL) ⟨y34, y35, y38, y39, y41, y43, y48, y194, y195, y196, y200, y204, y208, y212, y216, y222, y224, y225, y226, y227, y228, y229, y230, y232, trivial⟩ (by kernel_rfl)
theorem y233 : E233.ok Tryz.prog := z33.1
theorem y234 : E234.ok Tryz.prog := z33.2.1
theorem y235 : E235.ok Tryz.prog := z33.2.2.1
theorem y236 : E236.ok Tryz.prog := z33.2.2.2.1
theorem y237 : E237.ok Tryz.prog := z33.2.2.2.2.1
def kk34 : Ens := [(false, E29), (false, E40), (false, E222), (false, E237)]
def b34 : Ens := [(false, E238), (false, E239), (false, E240), (false, E241), (false, E242), (false, E243)]
theorem z34 : EnsOk Tryz.prog b34 := exAll_ok (k := kk34) (by kernel_rfl) exHok exIhok (lend := exL) ⟨y29, y40, y222, y237, trivial⟩ (by kernel_rfl)
theorem y238 : E238.ok Tryz.prog := z34.1
theorem y239 : E239.ok Tryz.prog := z34.2.1
theorem y240 : E240.ok Tryz.prog := z34.2.2.1
theorem y241 : E241.ok Tryz.prog := z34.2.2.2.1
theorem y242 : E242.ok Tryz.prog := z34.2.2.2.2.1
theorem y243 : E243.ok Tryz.prog := z34.2.2.2.2.2.1
def kk35 : Ens := [(false, E34), (false, E237), (false, E240), (false, E241), (false, E242), (false, E243)]
def b35 : Ens := [(false, E244), (false, E245), (false, E246), (false, E247), (false, E248), (false, E249)]
theorem z35 : EnsOk Tryz.prog b35 := exAll_ok (k := kk35) (by kernel_rfl) exHok exIhok (lend := exL) ⟨y34, y237, y240, y241, y242, y243, trivial⟩ (by kernel_rfl)
theorem y244 : E244.ok Tryz.prog := z35.1
theorem y245 : E245.ok Tryz.prog := z35.2.1
theorem y246 : E246.ok Tryz.prog := z35.2.2.1
theorem y247 : E247.ok Tryz.prog := z35.2.2.2.1
theorem y248 : E248.ok Tryz.prog := z35.2.2.2.2.1
theorem y249 : E249.ok Tryz.prog := z35.2.2.2.2.2.1
def kk36 : Ens := [(false, E222), (false, E237), (false, E247), (false, E248), (false, E249)]
def b36 : Ens := [(false, E250), (false, E251), (false, E252), (false, E253), (false, E254), (false, E255)]
theorem z36 : EnsOk Tryz.prog b36 := exAll_ok (k := kk36) (by kernel_rfl) exHok exIhok (lend := exL) ⟨y222, y237, y247, y248, y249, trivial⟩ (by kernel_rfl)
theorem y250 : E250.ok Tryz.prog := z36.1
theorem y251 : E251.ok Tryz.prog := z36.2.1
theorem y252 : E252.ok Tryz.prog := z36.2.2.1
theorem y253 : E253.ok Tryz.prog := z36.2.2.2.1
theorem y254 : E254.ok Tryz.prog := z36.2.2.2.2.1
theorem y255 : E255.ok Tryz.prog := z36.2.2.2.2.2.1
def kk37 : Ens := [(false, E27), (false, E37), (false, E222), (false, E231), (false, E237), (false, E240), (false, E246), (false, E251), (false, E255)]
def b37 : Ens := [(false, E256), (false, E257), (false, E258), (false, E259), (false, E260), (false, E261)]
theorem z37 : EnsOk Tryz.prog b37 := exAll_ok (k := kk37) (by kernel_rfl) exHok exIhok (lend := exL) ⟨y27, y37, y222, y231, y237, y240, y246, y251, y255, trivial⟩ (by kernel_rfl)
theorem y256 : E256.ok Tryz.prog := z37.1
theorem y257 : E257.ok Tryz.prog := z37.2.1
theorem y258 : E258.ok Tryz.prog := z37.2.2.1
theorem y259 : E259.ok Tryz.prog := z37.2.2.2.1
theorem y260 : E260.ok Tryz.prog := z37.2.2.2.2.1
theorem y261 : E261.ok Tryz.prog := z37.2.2.2.2.2.1
def kk38 : Ens := []
def b38 : Ens := [(false, E262), (false, E263), (false, E264), (false, E265), (false, E266), (false, E267), (false, E268), (false, E269), (false, E270), (false, E271), (false, E272), (false, E273), (false, E274), (false, E275), (false, E276)]
theorem z38 : EnsOk Tryz.prog b38 := exAll_ok (k := kk38) (by kernel_rfl) exHok exIhok (lend := exL) trivial (by kernel_rfl)
theorem y262 : E262.ok Tryz.prog := z38.1
theorem y263 : E263.ok Tryz.prog := z38.2.1
theorem y264 : E264.ok Tryz.prog := z38.2.2.1
theorem y265 : E265.ok Tryz.prog := z38.2.2.2.1
theorem y266 : E266.ok Tryz.prog := z38.2.2.2.2.1
theorem y267 : E267.ok Tryz.prog := z38.2.2.2.2.2.1
theorem y268 : E268.ok Tryz.prog := z38.2.2.2.2.2.2.1
theorem y269 : E269.ok Tryz.prog := z38.2.2.2.2.2.2.2.1
theorem y270 : E270.ok Tryz.prog := z38.2.2.2.2.2.2.2.2.1
theorem y271 : E271.ok Tryz.prog := z38.2.2.2.2.2.2.2.2.2.1
theorem y272 : E272.ok Tryz.prog := z38.2.2.2.2.2.2.2.2.2.2.1
theorem y273 : E273.ok Tryz.prog := z38.2.2.2.2.2.2.2.2.2.2.2.1
theorem y274 : E274.ok Tryz.prog := z38.2.2.2.2.2.2.2.2.2.2.2.2.1
theorem y275 : E275.ok Tryz.prog := z38.2.2.2.2.2.2.2.2.2.2.2.2.2.1
theorem y276 : E276.ok Tryz.prog := z38.2.2.2.2.2.2.2.2.2.2.2.2.2.2.1
def kk39 : Ens := [(false, E270)]
def b39 : Ens := [(false, E277), (false, E278), (false, E279), (false, E280), (false, E281), (false, E282), (false, E283), (false, E284), (false, E285)]
theorem z39 : EnsOk Tryz.prog b39 := exAll_ok (k := kk39) (by kernel_rfl) exHok exIhok (lend := exL) ⟨y270, trivial⟩ (by kernel_rfl)
theorem y277 : E277.ok Tryz.prog := z39.1
theorem y278 : E278.ok Tryz.prog := z39.2.1
theorem y279 : E279.ok Tryz.prog := z39.2.2.1
theorem y280 : E280.ok Tryz.prog := z39.2.2.2.1
theorem y281 : E281.ok Tryz.prog := z39.2.2.2.2.1
theorem y282 : E282.ok Tryz.prog := z39.2.2.2.2.2.1
theorem y283 : E283.ok Tryz.prog := z39.2.2.2.2.2.2.1
theorem y284 : E284.ok Tryz.prog := z39.2.2.2.2.2.2.2.1
theorem y285 : E285.ok Tryz.prog := z39.2.2.2.2.2.2.2.2.1
end Go.Proofs.YtopmfoohdkjgmaaGreatDoor
set_option linter.unusedVariables false
namespace Go.Proofs.YtopmfoohdkjgmaaGreatDoor
open Go Go.SL
def kk40 : Ens := [(false, E271), (false, E272), (false, E273), (false, E274), (false, E275), (false, E276), (false, E277), (false, E278), (false, E279), (false, E280), (false, E281), (false, E282), (false, E283), (false, E284), (false, E285)]
def b40 : Ens := [(false, E286), (false, E287), (false, E288), (false, E289), (false, E290), (false, E291), (false, E292), (false, E293), (false, E294), (false, E295), (false, E296), (false, E297), (false, E298), (false, E299), (false, E300), (false, E301)]
theorem z40 : EnsOk Tryz.prog b40 := exAll_ok (k := kk40) (by kernel_rfl) exHok exIhok (lend := exL) ⟨y271, y272, y273, y274, y275, y276, y277, y278, y279, y280, y281, y282, y283, y284, y285, trivial⟩ (by kernel_rfl)
theorem y286 : E286.ok Tryz.prog := z40.1
theorem y287 : E287.ok Tryz.prog := z40.2.1
theorem y288 : E288.ok Tryz.prog := z40.2.2.1
theorem y289 : E289.ok Tryz.prog := z40.2.2.2.1
theorem y290 : E290.ok Tryz.prog := z40.2.2.2.2.1
theorem y291 : E291.ok Tryz.prog := z40.2.2.2.2.2.1
theorem y292 : E292.ok Tryz.prog := z40.2.2.2.2.2.2.1
theorem y293 : E293.ok Tryz.prog := z40.2.2.2.2.2.2.2.1
theorem y294 : E294.ok Tryz.prog := z40.2.2.2.2.2.2.2.2.1
theorem y295 : E295.ok Tryz.prog := z40.2.2.2.2.2.2.2.2.2.1
theorem y296 : E296.ok Tryz.prog := z40.2.2.2.2.2.2.2.2.2.2.1
theorem y297 : E297.ok Tryz.prog := z40.2.2.2.2.2.2.2.2.2.2.2.1
theorem y298 : E298.ok Tryz.prog := z40.2.2.2.2.2.2.2.2.2.2.2.2.1
theorem y299 : E299.ok Tryz.prog := z40.2.2.2.2.2.2.2.2.2.2.2.2.2.1
theorem y300 : E300.ok Tryz.prog := z40.2.2.2.2.2.2.2.2.2.2.2.2.2.2.1
theorem y301 : E301.ok Tryz.prog := z40.2.2.2.2.2.2.2.2.2.2.2.2.2.2.2.1
def kk41 : Ens := []
def b41 : Ens := [(false, E302), (false, E303), (false, E304), (false, E305), (false, E306), (false, E307), (false, E308), (false, E309), (false, E310), (false, E311)]
theorem z41 : EnsOk Tryz.prog b41 := exAll_ok (k := kk41) (by kernel_rfl) exHok exIhok (lend := exL) trivial (by kernel_rfl)
theorem y302 : E302.ok Tryz.prog := z41.1
theorem y303 : E303.ok Tryz.prog := z41.2.1
theorem y304 : E304.ok Tryz.prog := z41.2.2.1
theorem y305 : E305.ok Tryz.prog := z41.2.2.2.1
theorem y306 : E306.ok Tryz.prog := z41.2.2.2.2.1
theorem y307 : E307.ok Tryz.prog := z41.2.2.2.2.2.1
theorem y308 : E308.ok Tryz.prog := z41.2.2.2.2.2.2.1
theorem y309 : E309.ok Tryz.prog := z41.2.2.2.2.2.2.2.1
theorem y310 : E310.ok Tryz.prog := z41.2.2.2.2.2.2.2.2.1
theorem y311 : E311.ok Tryz.prog := z41.2.2.2.2.2.2.2.2.2.1
def kk42 : Ens := [(false, E270), (false, E286), (false, E287), (false, E288), (false, E289), (false, E290), (false, E291), (false, E292), (false, E293), (false, E294), (false, E295), (false, E296), (false, E297), (false, E298), (false, E299), (false, E300), (false, E301), (false, E302), (false, E303), (false, E304), (false, E305), (false, E306), (false, E307), (false, E308), (false, E309), (false, E310), (false, E311)]
def b42 : Ens := [(false, E312), (false, E313), (false, E314), (false, E315)]
theorem z42 : EnsOk Tryz.prog b42 := exAll_ok (k := kk42) (by kernel_rfl) exHok exIhok (lend := exL) ⟨y270, y286, y287, y288, y289, y290, y291, y292, y293, y294, y295, y296, y297, y298, y299, y300, y301, y302, y303, y304, y305, y306, y307, y308, y309, y310, y311, trivial⟩ (by kernel_rfl)
theorem y312 : E312.ok Tryz.prog := z42.1
theorem y313 : E313.ok Tryz.prog := z42.2.1
theorem y314 : E314.ok Tryz.prog := z42.2.2.1
theorem y315 : E315.ok Tryz.prog := z42.2.2.2.1
def kk43 : Ens := [(false, E27), (false, E260), (false, E261), (false, E268), (false, E269), (false, E315)]
def b43 : Ens := [(false, E316), (false, E317), (false, E318), (false, E319), (false, E320), (false, E321), (false, E322)]
theorem z43 : EnsOk Tryz.prog b43 := exAll_ok (k := kk43) (by kernel_rfl) exHok exIhok (lend := exL) ⟨y27, y260, y261, y268, y269, y315, trivial⟩ (by kernel_rfl)
theorem y316 : E316.ok Tryz.prog := z43.1
theorem y317 : E317.ok Tryz.prog := z43.2.1
theorem y318 : E318.ok Tryz.prog := z43.2.2.1
theorem y319 : E319.ok Tryz.prog := z43.2.2.2.1
theorem y320 : E320.ok Tryz.prog := z43.2.2.2.2.1
theorem y321 : E321.ok Tryz.prog := z43.2.2.2.2.2.1
theorem y322 : E322.ok Tryz.prog := z43.2.2.2.2.2.2.1
def kk44 : Ens := [(false, E14), (false, E16), (false, E29), (false, E238), (false, E239), (false, E242)]
def b44 : Ens := [(false, E323), (false, E324), (false, E325), (false, E326), (false, E327), (false, E328)]
theorem z44 : EnsOk Tryz.prog b44 := exAll_ok (k := kk44) (by kernel_rfl) exHok exIhok (lend := exL) ⟨y14, y16, y29, y238, y239, y242, trivial⟩ (by kernel_rfl)
theorem y323 : E323.ok Tryz.prog := z44.1
theorem y324 : E324.ok Tryz.prog := z44.2.1
theorem y325 : E325.ok Tryz.prog := z44.2.2.1
theorem y326 : E326.ok Tryz.prog := z44.2.2.2.1
theorem y327 : E327.ok Tryz.prog := z44.2.2.2.2.1
theorem y328 : E328.ok Tryz.prog := z44.2.2.2.2.2.1
def kk45 : Ens := [(false, E16), (false, E222), (false, E226), (false, E227), (false, E228), (false, E229), (false, E237)]
def b45 : Ens := [(false, E329), (false, E330), (false, E331), (false, E332), (false, E333), (false, E334), (false, E335), (false, E336), (false, E337)]
theorem z45 : EnsOk Tryz.prog b45 := exAll_ok (k := kk45) (by kernel_rfl) exHok exIhok (lend := exL) ⟨y16, y222, y226, y227, y228, y229, y237, trivial⟩ (by kernel_rfl)
theorem y329 : E329.ok Tryz.prog := z45.1
theorem y330 : E330.ok Tryz.prog := z45.2.1
theorem y331 : E331.ok Tryz.prog := z45.2.2.1
theorem y332 : E332.ok Tryz.prog := z45.2.2.2.1
theorem y333 : E333.ok Tryz.prog := z45.2.2.2.2.1
theorem y334 : E334.ok Tryz.prog := z45.2.2.2.2.2.1
theorem y335 : E335.ok Tryz.prog := z45.2.2.2.2.2.2.1
theorem y336 : E336.ok Tryz.prog := z45.2.2.2.2.2.2.2.1
theorem y337 : E337.ok Tryz.prog := z45.2.2.2.2.2.2.2.2.1
def kk46 : Ens := [(false, E16), (false, E328), (false, E329), (false, E337)]
def b46 : Ens := [(false, E338), (false, E339), (false, E340), (false, E341), (false, E342), (false, E343), (false, E344), (false, E345), (false, E346), (false, E347), (false, E348), (false, E349), (false, E350)]
theorem z46 : EnsOk Tryz.prog b46 := exAll_ok (k := kk46) (by kernel_rfl) exHok exIhok (lend := exL) ⟨y16, y328, y329, y337, trivial⟩ (by kernel_rfl)
theorem y338 : E338.ok Tryz.prog := z46.1
theorem y339 : E339.ok Tryz.prog := z46.2.1
theorem y340 : E340.ok Tryz.prog := z46.2.2.1
theorem y341 : E341.ok Tryz.prog := z46.2.2.2.1
theorem y342 : E342.ok Tryz.prog := z46.2.2.2.2.1
theorem y343 : E343.ok Tryz.prog := z46.2.2.2.2.2.1
theorem y344 : E344.ok Tryz.prog := z46.2.2.2.2.2.2.1
theorem y345 : E345.ok Tryz.prog := z46.2.2.2.2.2.2.2.1
theorem y346 : E346.ok Tryz.prog := z46.2.2.2.2.2.2.2.2.1
theorem y347 : E347.ok Tryz.prog := z46.2.2.2.2.2.2.2.2.2.1
theorem y348 : E348.ok Tryz.prog := z46.2.2.2.2.2.2.2.2.2.2.1
theorem y349 : E349.ok Tryz.prog := z46.2.2.2.2.2.2.2.2.2.2.2.1
theorem y350 : E350.ok Tryz.prog := z46.2.2.2.2.2.2.2.2.2.2.2.2.1
def kk47 : Ens := []
def b47 : Ens := [(false, E351), (false, E352), (false, E353), (false, E354), (false, E355), (false, E356), (false, E357), (false, E358), (false, E359), (false, E360), (false, E361), (false, E362), (false, E363), (false, E364), (false, E365), (false, E366), (false, E367), (false, E368), (false, E369), (false, E370)]
theorem z47 : EnsOk Tryz.prog b47 := exAll_ok (k := kk47) (by kernel_rfl) exHok exIhok (lend := exL) trivial (by kernel_rfl)
theorem y351 : E351.ok Tryz.prog := z47.1
theorem y352 : E352.ok Tryz.prog := z47.2.1
theorem y353 : E353.ok Tryz.prog := z47.2.2.1
theorem y354 : E354.ok Tryz.prog := z47.2.2.2.1
theorem y355 : E355.ok Tryz.prog := z47.2.2.2.2.1
theorem y356 : E356.ok Tryz.prog := z47.2.2.2.2.2.1
theorem y357 : E357.ok Tryz.prog := z47.2.2.2.2.2.2.1
theorem y358 : E358.ok Tryz.prog := z47.2.2.2.2.2.2.2.1
theorem y359 : E359.ok Tryz.prog := z47.2.2.2.2.2.2.2.2.1
theorem y360 : E360.ok Tryz.prog := z47.2.2.2.2.2.2.2.2.2.1
theorem y361 : E361.ok Tryz.prog := z47.2.2.2.2.2.2.2.2.2.2.1
theorem y362 : E362.ok Tryz.prog := z47.2.2.2.2.2.2.2.2.2.2.2.1
theorem y363 : E363.ok Tryz.prog := z47.2.2.2.2.2.2.2.2.2.2.2.2.1
theorem y364 : E364.ok Tryz.prog := z47.2.2.2.2.2.2.2.2.2.2.2.2.2.1
theorem y365 : E365.ok Tryz.prog := z47.2.2.2.2.2.2.2.2.2.2.2.2.2.2.1
theorem y366 : E366.ok Tryz.prog := z47.2.2.2.2.2.2.2.2.2.2.2.2.2.2.2.1
theorem y367 : E367.ok Tryz.prog := z47.2.2.2.2.2.2.2.2.2.2.2.2.2.2.2.2.1
theorem y368 : E368.ok Tryz.prog := z47.2.2.2.2.2.2.2.2.2.2.2.2.2.2.2.2.2.1
theorem y369 : E369.ok Tryz.prog := z47.2.2.2.2.2.2.2.2.2.2.2.2.2.2.2.2.2.2.1
theorem y370 : E370.ok Tryz.prog := z47.2.2.2.2.2.2.2.2.2.2.2.2.2.2.2.2.2.2.2.1
end Go.Proofs.YtopmfoohdkjgmaaGreatDoor
