/-
  What the law's own test does, carried out by reckoning.
-/
import Derived.Test.YtopmfoohdkjgmaaGreatDoorSq2
set_option linter.unusedVariables false
namespace Go.Proofs.YtopmfoohdkjgmaaGreatDoor
open Go Go.SL
def kk48 : Ens := []
def b48 : Ens := [(false, E371), (false, E372), (false, E373), (false, E374), (false, E375), (false, E376), (false, E377), (false, E378), (false, E379), (false, E380), (false, E381), (false, E382), (false, E383), (false, E384), (false, E385), (false, E386), (false, E387), (false, E388), (false, E389), (false, E390)]
theorem z48 : EnsOk Tryz.prog b48 := exAll_ok (k := kk48) (by kernel_rfl) exHok exIhok (lend := exL) trivial (by kernel_rfl)
theorem y371 : E371.ok Tryz.prog := z48.1
theorem y372 : E372.ok Tryz.prog := z48.2.1
theorem y373 : E373.ok Tryz.prog := z48.2.2.1
theorem y374 : E374.ok Tryz.prog := z48.2.2.2.1
theorem y375 : E375.ok Tryz.prog := z48.2.2.2.2.1
theorem y376 : E376.ok Tryz.prog := z48.2.2.2.2.2.1
theorem y377 : E377.ok Tryz.prog := z48.2.2.2.2.2.2.1
theorem y378 : E378.ok Tryz.prog := z48.2.2.2.2.2.2.2.1
theorem y379 : E379.ok Tryz.prog := z48.2.2.2.2.2.2.2.2.1
theorem y380 : E380.ok Tryz.prog := z48.2.2.2.2.2.2.2.2.2.1
theorem y381 : E381.ok Tryz.prog := z48.2.2.2.2.2.2.2.2.2.2.1
theorem y382 : E382.ok Tryz.prog := z48.2.2.2.2.2.2.2.2.2.2.2.1
theorem y383 : E383.ok Tryz.prog := z48.2.2.2.2.2.2.2.2.2.2.2.2.1
theorem y384 : E384.ok Tryz.prog := z48.2.2.2.2.2.2.2.2.2.2.2.2.2.1
theorem y385 : E385.ok Tryz.prog := z48.2.2.2.2.2.2.2.2.2.2.2.2.2.2.1
theorem y386 : E386.ok Tryz.prog := z48.2.2.2.2.2.2.2.2.2.2.2.2.2.2.2.1
theorem y387 : E387.ok Tryz.prog := z48.2.2.2.2.2.2.2.2.2.2.2.2.2.2.2.2.1
theorem y388 : E388.ok Tryz.prog := z48.2.2.2.2.2.2.2.2.2.2.2.2.2.2.2.2.2.1
theorem y389 : E389.ok Tryz.prog := z48.2.2.2.2.2.2.2.2.2.2.2.2.2.2.2.2.2.2.1
theorem y390 : E390.ok Tryz.prog := z48.2.2.2.2.2.2.2.2.2.2.2.2.2.2.2.2.2.2.2.1
def kk49 : Ens := []
def b49 : Ens := [(false, E391), (false, E392), (false, E393), (false, E394), (false, E395), (false, E396), (false, E397), (false, E398), (false, E399), (false, E400), (false, E401), (false, E402), (false, E403), (false, E404), (false, E405), (false, E406), (false, E407), (false, E408), (false, E409), (false, E410)]
theorem z49 : EnsOk Tryz.prog b49 := exAll_ok (k := kk49) (by kernel_rfl) exHok exIhok (lend := exL) trivial (by kernel_rfl)
theorem y391 : E391.ok Tryz.prog := z49.1
theorem y392 : E392.ok Tryz.prog := z49.2.1
theorem y393 : E393.ok Tryz.prog := z49.2.2.1
theorem y394 : E394.ok Tryz.prog := z49.2.2.2.1
theorem y395 : E395.ok Tryz.prog := z49.2.2.2.2.1
theorem y396 : E396.ok Tryz.prog := z49.2.2.2.2.2.1
theorem y397 : E397.ok Tryz.prog := z49.2.2.2.2.2.2.1
theorem y398 : E398.ok Tryz.prog := z49.2.2.2.2.2.2.2.1
theorem y399 : E399.ok Tryz.prog := z49.2.2.2.2.2.2.2.2.1
theorem y400 : E400.ok Tryz.prog := z49.2.2.2.2.2.2.2.2.2.1
theorem y401 : E401.ok Tryz.prog := z49.2.2.2.2.2.2.2.2.2.2.1
theorem y402 : E402.ok Tryz.prog := z49.2.2.2.2.2.2.2.2.2.2.2.1
theorem y403 : E403.ok Tryz.prog := z49.2.2.2.2.2.2.2.2.2.2.2.2.1
theorem y404 : E404.ok Tryz.prog := z49.2.2.2.2.2.2.2.2.2.2.2.2.2.1
theorem y405 : E405.ok Tryz.prog := z49.2.2.2.2.2.2.2.2.2.2.2.2.2.2.1
theorem y406 : E406.ok Tryz.prog := z49.2.2.2.2.2.2.2.2.2.2.2.2.2.2.2.1
theorem y407 : E407.ok Tryz.prog := z49.2.2.2.2.2.2.2.2.2.2.2.2.2.2.2.2.1
theorem y408 : E408.ok Tryz.prog := z49.2.2.2.2.2.2.2.2.2.2.2.2.2.2.2.2.2.1
theorem y409 : E409.ok Tryz.prog := z49.2.2.2.2.2.2.2.2.2.2.2.2.2.2.2.2.2.2.1
theorem y410 : E410.ok Tryz.prog := z49.2.2.2.2.2.2.2.2.2.2.2.2.2.2.2.2.2.2.2.1
def kk50 : Ens := []
def b50 : Ens := [(false, E411), (false, E412), (false, E413), (false, E414), (false, E415), (false, E416), (false, E417), (false, E418), (false, E419), (false, E420), (false, E421), (false, E422), (false, E423), (false, E424), (false, E425)]
theorem z50 : EnsOk Tryz.prog b50 := exAll_ok (k := kk50) (by kernel_rfl) exHok exIhok (lend := exL) trivial (by kernel_rfl)
theorem y411 : E411.ok Tryz.prog := z50.1
theorem y412 : E412.ok Tryz.prog := z50.2.1
theorem y413 : E413.ok Tryz.prog := z50.2.2.1
theorem y414 : E414.ok Tryz.prog := z50.2.2.2.1
theorem y415 : E415.ok Tryz.prog := z50.2.2.2.2.1
theorem y416 : E416.ok Tryz.prog := z50.2.2.2.2.2.1
theorem y417 : E417.ok Tryz.prog := z50.2.2.2.2.2.2.1
theorem y418 : E418.ok Tryz.prog := z50.2.2.2.2.2.2.2.1
theorem y419 : E419.ok Tryz.prog := z50.2.2.2.2.2.2.2.2.1
theorem y420 : E420.ok Tryz.prog := z50.2.2.2.2.2.2.2.2.2.1
theorem y421 : E421.ok Tryz.prog := z50.2.2.2.2.2.2.2.2.2.2.1
theorem y422 : E422.ok Tryz.prog := z50.2.2.2.2.2.2.2.2.2.2.2.1
theorem y423 : E423.ok Tryz.prog := z50.2.2.2.2.2.2.2.2.2.2.2.2.1
theorem y424 : E424.ok Tryz.prog := z50.2.2.2.2.2.2.2.2.2.2.2.2.2.1
theorem y425 : E425.ok Tryz.prog := z50.2.2.2.2.2.2.2.2.2.2.2.2.2.2.1
def kk51 : Ens := [(false, E343), (false, E344), (false, E345), (false, E346), (false, E347), (false, E348), (false, E349), (false, E350), (false, E351), (false, E352), (false, E353), (false, E354), (false, E355), (false, E356), (false, E357), (false, E358), (false, E359), (false, E360), (false, E361), (false, E362), (false, E363), (false, E364), (false, E365), (false, E366), (false, E367), (false, E368), (false, E369), (false, E370), (false, E371), (false, E372), (false, E373), (false, E374), (false, E375), (false, E376), (false, E377), (false, E378), (false, E379), (false, E380), (false, E381), (false, E382), (false, E383), (false, E384), (false, E385), (false, E386), (false, E387), (false, E388), (false, E389), (false, E390), (false, E391), (false, E392), (false, E393), (false, E394), (false, E395), (false, E396), (false, E397), (false, E398), (false, E399), (false, E400), (false, E401), (false, E402), (false, E403), (false, E404), (false, E405), (false, E406), (false, E407), (false, E408), (false, E409), (false, E410), (false, E411), (false, E412), (false, E413), (false, E414), (false, E415), (false, E416), (false, E417), (false, E418), (false, E419), (false, E420), (false, E421), (false, E422), (false, E423), (false, E424), (false, E425)]
def b51 : Ens := [(false, E426), (false, E427), (false, E428), (false, E429), (false, E430), (false, E431), (false, E432)]
theorem z51 : EnsOk Tryz.prog b51 := exAll_ok (k := kk51) (by kernel_rfl) exHok exIhok (lend := exL) ⟨y343, y344, y345, y346, y347, y348, y349, y350, y351, y352, y353, y354, y355, y356, y357, y358, y359, y360, y361, y362, y363, y364, y365, y366, y367, y368, y369, y370, y371, y372, y373, y374, y375, y376, y377, y378, y379, y380, y381, y382, y383, y384, y385, y386, y387, y388, y389, y390, y391, y392, y393, y394, y395, y396, y397, y398, y399, y400, y401, y402, y403, y404, y405, y406, y407, y408, y409, y410, y411, y412, y413, y414, y415, y416, y417, y418, y419, y420, y421, y422, y423, y424, y425, trivial⟩ (by kernel_rfl)
theorem y426 : E426.ok Tryz.prog := z51.1
theorem y427 : E427.ok Tryz.prog := z51.2.1
theorem y428 : E428.ok Tryz.prog := z51.2.2.1
theorem y429 : E429.ok Tryz.prog := z51.2.2.2.1
theorem y430 : E430.ok Tryz.prog := z51.2.2.2.2.1
theorem y431 : E431.ok Tryz.prog := z51.2.2.2.2.2.1
theorem y432 : E432.ok Tryz.prog := z51.2.2.2.2.2.2.1
def kk52 : Ens := []
def b52 : Ens := [(false, E433), (false, E434), (false, E435), (false, E436), (false, E437), (false, E438), (false, E439)]
theorem z52 : EnsOk Tryz.prog b52 := exAll_ok (k := kk52) (by kernel_rfl) exHok exIhok (lend := exL) trivial (by kernel_rfl)
theorem y433 : E433.ok Tryz.prog := z52.1
theorem y434 : E434.ok Tryz.prog := z52.2.1
theorem y435 : E435.ok Tryz.prog := z52.2.2.1
theorem y436 : E436.ok Tryz.prog := z52.2.2.2.1
theorem y437 : E437.ok Tryz.prog := z52.2.2.2.2.1
theorem y438 : E438.ok Tryz.prog := z52.2.2.2.2.2.1
theorem y439 : E439.ok Tryz.prog := z52.2.2.2.2.2.2.1
def kk53 : Ens := []
def b53 : Ens := [(false, E440), (false, E441), (false, E442), (false, E443), (false, E444), (false, E445), (false, E446)]
theorem z53 : EnsOk Tryz.prog b53 := exAll_ok (k := kk53) (by kernel_rfl) exHok exIhok (lend := exL) trivial (by kernel_rfl)
theorem y440 : E440.ok Tryz.prog := z53.1
theorem y441 : E441.ok Tryz.prog := z53.2.1
theorem y442 : E442.ok Tryz.prog := z53.2.2.1
theorem y443 : E443.ok Tryz.prog := z53.2.2.2.1
theorem y444 : E444.ok Tryz.prog := z53.2.2.2.2.1
theorem y445 : E445.ok Tryz.prog := z53.2.2.2.2.2.1
theorem y446 : E446.ok Tryz.prog := z53.2.2.2.2.2.2.1
def kk54 : Ens := [(false, E430)]
def b54 : Ens := [(false, E447), (false, E448), (false, E449), (false, E450), (false, E451), (false, E452), (false, E453)]
theorem z54 : EnsOk Tryz.prog b54 := exAll_ok (k := kk54) (by kernel_rfl) exHok exIhok (lend := exL) ⟨y430, trivial⟩ (by kernel_rfl)
theorem y447 : E447.ok Tryz.prog := z54.1
theorem y448 : E448.ok Tryz.prog := z54.2.1
theorem y449 : E449.ok Tryz.prog := z54.2.2.1
theorem y450 : E450.ok Tryz.prog := z54.2.2.2.1
theorem y451 : E451.ok Tryz.prog := z54.2.2.2.2.1
theorem y452 : E452.ok Tryz.prog := z54.2.2.2.2.2.1
theorem y453 : E453.ok Tryz.prog := z54.2.2.2.2.2.2.1
def kk55 : Ens := [(false, E429), (false, E430), (false, E431), (false, E432), (false, E433), (false, E434), (false, E435), (false, E436), (false, E437), (false, E438), (false, E439), (false, E440), (false, E441), (false, E442), (false, E443), (false, E444), (false, E445), (false, E446), (false, E447), (false, E448), (false, E449), (false, E450), (false, E451), (false, E452), (false, E453)]
def b55 : Ens := [(false, E454)]
theorem z55 : EnsOk Tryz.prog b55 := exAll_ok (k := kk55) (by kernel_rfl) exHok exIhok (lend := exL) ⟨y429, y430, y431, y432, y433, y434, y435, y436, y437, y438, y439, y440, y441, y442, y443, y444, y445, y446, y447, y448, y449, y450, y451, y452, y453, trivial⟩ (by kernel_rfl)
theorem y454 : E454.ok Tryz.prog := z55.1
end Go.Proofs.YtopmfoohdkjgmaaGreatDoor
set_option linter.unusedVariables false
namespace Go.Proofs.YtopmfoohdkjgmaaGreatDoor
open Go Go.SL
def kk56 : Ens := []
def b56 : Ens := [(false, E455), (false, E456), (false, E457), (false, E458), (false, E459), (false, E460), (false, E461), (false, E462), (false, E463), (false, E464), (false, E465), (false, E466), (false, E467), (false, E468), (false, E469), (false, E470), (false, E471), (false, E472), (false, E473), (false, E474)]
theorem z56 : EnsOk Tryz.prog b56 := exAll_ok (k := kk56) (by kernel_rfl) exHok exIhok (lend := exL) trivial (by kernel_rfl)
theorem y455 : E455.ok Tryz.prog := z56.1
theorem y456 : E456.ok Tryz.prog := z56.2.1
theorem y457 : E457.ok Tryz.prog := z56.2.2.1
theorem y458 : E458.ok Tryz.prog := z56.2.2.2.1
theorem y459 : E459.ok Tryz.prog := z56.2.2.2.2.1
theorem y460 : E460.ok Tryz.prog := z56.2.2.2.2.2.1
theorem y461 : E461.ok Tryz.prog := z56.2.2.2.2.2.2.1
theorem y462 : E462.ok Tryz.prog := z56.2.2.2.2.2.2.2.1
theorem y463 : E463.ok Tryz.prog := z56.2.2.2.2.2.2.2.2.1
theorem y464 : E464.ok Tryz.prog := z56.2.2.2.2.2.2.2.2.2.1
theorem y465 : E465.ok Tryz.prog := z56.2.2.2.2.2.2.2.2.2.2.1
theorem y466 : E466.ok Tryz.prog := z56.2.2.2.2.2.2.2.2.2.2.2.1
theorem y467 : E467.ok Tryz.prog := z56.2.2.2.2.2.2.2.2.2.2.2.2.1
theorem y468 : E468.ok Tryz.prog := z56.2.2.2.2.2.2.2.2.2.2.2.2.2.1
theorem y469 : E469.ok Tryz.prog := z56.2.2.2.2.2.2.2.2.2.2.2.2.2.2.1
theorem y470 : E470.ok Tryz.prog := z56.2.2.2.2.2.2.2.2.2.2.2.2.2.2.2.1
theorem y471 : E471.ok Tryz.prog := z56.2.2.2.2.2.2.2.2.2.2.2.2.2.2.2.2.1
theorem y472 : E472.ok Tryz.prog := z56.2.2.2.2.2.2.2.2.2.2.2.2.2.2.2.2.2.1
theorem y473 : E473.ok Tryz.prog := z56.2.2.2.2.2.2.2.2.2.2.2.2.2.2.2.2.2.2.1
theorem y474 : E474.ok Tryz.prog := z56.2.2.2.2.2.2.2.2.2.2.2.2.2.2.2.2.2.2.2.1
def kk57 : Ens := []
def b57 : Ens := [(false, E475), (false, E476), (false, E477), (false, E478), (false, E479), (false, E480), (false, E481), (false, E482), (false, E483), (false, E484), (false, E485), (false, E486), (false, E487), (false, E488), (false, E489), (false, E490), (false, E491), (false, E492), (false, E493), (false, E494)]
theorem z57 : EnsOk Tryz.prog b57 := exAll_ok (k := kk57) (by kernel_rfl) exHok exIhok (lend := exL) trivial (by kernel_rfl)
theorem y475 : E475.ok Tryz.prog := z57.1
theorem y476 : E476.ok Tryz.prog := z57.2.1
theorem y477 : E477.ok Tryz.prog := z57.2.2.1
theorem y478 : E478.ok Tryz.prog := z57.2.2.2.1
theorem y479 : E479.ok Tryz.prog := z57.2.2.2.2.1
theorem y480 : E480.ok Tryz.prog := z57.2.2.2.2.2.1
theorem y481 : E481.ok Tryz.prog := z57.2.2.2.2.2.2.1
theorem y482 : E482.ok Tryz.prog := z57.2.2.2.2.2.2.2.1
theorem y483 : E483.ok Tryz.prog := z57.2.2.2.2.2.2.2.2.1
theorem y484 : E484.ok Tryz.prog := z57.2.2.2.2.2.2.2.2.2.1
theorem y485 : E485.ok Tryz.prog := z57.2.2.2.2.2.2.2.2.2.2.1
theorem y486 : E486.ok Tryz.prog := z57.2.2.2.2.2.2.2.2.2.2.2.1
theorem y487 : E487.ok Tryz.prog := z57.2.2.2.2.2.2.2.2.2.2.2.2.1
theorem y488 : E488.ok Tryz.prog := z57.2.2.2.2.2.2.2.2.2.2.2.2.2.1
theorem y489 : E489.ok Tryz.prog := z57.2.2.2.2.2.2.2.2.2.2.2.2.2.2.1
theorem y490 : E490.ok Tryz.prog := z57.2.2.2.2.2.2.2.2.2.2.2.2.2.2.2.1
theorem y491 : E491.ok Tryz.prog := z57.2.2.2.2.2.2.2.2.2.2.2.2.2.2.2.2.1
theorem y492 : E492.ok Tryz.prog := z57.2.2.2.2.2.2.2.2.2.2.2.2.2.2.2.2.2.1
theorem y493 : E493.ok Tryz.prog := z57.2.2.2.2.2.2.2.2.2.2.2.2.2.2.2.2.2.2.1
theorem y494 : E494.ok Tryz.prog := z57.2.2.2.2.2.2.2.2.2.2.2.2.2.2.2.2.2.2.2.1
def kk58 : Ens := []
def b58 : Ens := [(false, E495), (false, E496), (false, E497), (false, E498), (false, E499), (false, E500), (false, E501), (false, E502), (false, E503), (false, E504), (false, E505), (false, E506), (false, E507), (false, E508), (false, E509), (false, E510), (false, E511), (false, E512), (false, E513), (false, E514)]
theorem z58 : EnsOk Tryz.prog b58 := exAll_ok (k := kk58) (by kernel_rfl) exHok exIhok (lend := exL) trivial (by kernel_rfl)
theorem y495 : E495.ok Tryz.prog := z58.1
theorem y496 : E496.ok Tryz.prog := z58.2.1
theorem y497 : E497.ok Tryz.prog := z58.2.2.1
theorem y498 : E498.ok Tryz.prog := z58.2.2.2.1
theorem y499 : E499.ok Tryz.prog := z58.2.2.2.2.1
theorem y500 : E500.ok Tryz.prog := z58.2.2.2.2.2.1
theorem y501 : E501.ok Tryz.prog := z58.2.2.2.2.2.2.1
theorem y502 : E502.ok Tryz.prog := z58.2.2.2.2.2.2.2.1
theorem y503 : E503.ok Tryz.prog := z58.2.2.2.2.2.2.2.2.1
theorem y504 : E504.ok Tryz.prog := z58.2.2.2.2.2.2.2.2.2.1
theorem y505 : E505.ok Tryz.prog := z58.2.2.2.2.2.2.2.2.2.2.1
theorem y506 : E506.ok Tryz.prog := z58.2.2.2.2.2.2.2.2.2.2.2.1
theorem y507 : E507.ok Tryz.prog := z58.2.2.2.2.2.2.2.2.2.2.2.2.1
theorem y508 : E508.ok Tryz.prog := z58.2.2.2.2.2.2.2.2.2.2.2.2.2.1
theorem y509 : E509.ok Tryz.prog := z58.2.2.2.2.2.2.2.2.2.2.2.2.2.2.1
theorem y510 : E510.ok Tryz.prog := z58.2.2.2.2.2.2.2.2.2.2.2.2.2.2.2.1
theorem y511 : E511.ok Tryz.prog := z58.2.2.2.2.2.2.2.2.2.2.2.2.2.2.2.2.1
theorem y512 : E512.ok Tryz.prog := z58.2.2.2.2.2.2.2.2.2.2.2.2.2.2.2.2.2.1
theorem y513 : E513.ok Tryz.prog := z58.2.2.2.2.2.2.2.2.2.2.2.2.2.2.2.2.2.2.1
theorem y514 : E514.ok Tryz.prog := z58.2.2.2.2.2.2.2.2.2.2.2.2.2.2.2.2.2.2.2.1
def kk59 : Ens := []
def b59 : Ens := [(false, E515), (false, E516), (false, E517), (false, E518), (false, E519), (false, E520), (false, E521), (false, E522), (false, E523), (false, E524), (false, E525), (false, E526), (false, E527), (false, E528), (false, E529), (false, E530), (false, E531), (false, E532), (false, E533), (false, E534)]
theorem z59 : EnsOk Tryz.prog b59 := exAll_ok (k := kk59) (by kernel_rfl) exHok exIhok (lend := exL) trivial (by kernel_rfl)
theorem y515 : E515.ok Tryz.prog := z59.1
theorem y516 : E516.ok Tryz.prog := z59.2.1
theorem y517 : E517.ok Tryz.prog := z59.2.2.1
theorem y518 : E518.ok Tryz.prog := z59.2.2.2.1
theorem y519 : E519.ok Tryz.prog := z59.2.2.2.2.1
theorem y520 : E520.ok Tryz.prog := z59.2.2.2.2.2.1
theorem y521 : E521.ok Tryz.prog := z59.2.2.2.2.2.2.1
theorem y522 : E522.ok Tryz.prog := z59.2.2.2.2.2.2.2.1
theorem y523 : E523.ok Tryz.prog := z59.2.2.2.2.2.2.2.2.1
theorem y524 : E524.ok Tryz.prog := z59.2.2.2.2.2.2.2.2.2.1
theorem y525 : E525.ok Tryz.prog := z59.2.2.2.2.2.2.2.2.2.2.1
theorem y526 : E526.ok Tryz.prog := z59.2.2.2.2.2.2.2.2.2.2.2.1
theorem y527 : E527.ok Tryz.prog := z59.2.2.2.2.2.2.2.2.2.2.2.2.1
theorem y528 : E528.ok Tryz.prog := z59.2.2.2.2.2.2.2.2.2.2.2.2.2.1
theorem y529 : E529.ok Tryz.prog := z59.2.2.2.2.2.2.2.2.2.2.2.2.2.2.1
theorem y530 : E530.ok Tryz.prog := z59.2.2.2.2.2.2.2.2.2.2.2.2.2.2.2.1
theorem y531 : E531.ok Tryz.prog := z59.2.2.2.2.2.2.2.2.2.2.2.2.2.2.2.2.1
theorem y532 : E532.ok Tryz.prog := z59.2.2.2.2.2.2.2.2.2.2.2.2.2.2.2.2.2.1
theorem y533 : E533.ok Tryz.prog := z59.2.2.2.2.2.2.2.2.2.2.2.2.2.2.2.2.2.2.1
theorem y534 : E534.ok Tryz.prog := z59.2.2.2.2.2.2.2.2.2.2.2.2.2.2.2.2.2.2.2.1
def kk60 : Ens := [(false, E455), (false, E456), (false, E457), (false, E458), (false, E459), (false, E460), (false, E461), (false, E462), (false, E463), (false, E464), (false, E465), (false, E466), (false, E467), (false, E468), (false, E469), (false, E470), (false, E471), (false, E472), (false, E473), (false, E474), (false, E475), (false, E476), (false, E477), (false, E478), (false, E479), (false, E480), (false, E481), (false, E482), (false, E483), (false, E484), (false, E485), (false, E486), (false, E487), (false, E488), (false, E489), (false, E490), (false, E491), (false, E492), (false, E493), (false, E494), (false, E495), (false, E496), (false, E497), (false, E498), (false, E499), (false, E500), (false, E501), (false, E502), (false, E503), (false, E504), (false, E505), (false, E506), (false, E507), (false, E508), (false, E509), (false, E510), (false, E511), (false, E512), (false, E513), (false, E514), (false, E515), (false, E516), (false, E517), (false, E518), (false, E519), (false, E520), (false, E521), (false, E522), (false, E523), (false, E524), (false, E525), (false, E526), (false, E527), (false, E528), (false, E529), (false, E530), (false, E531), (false, E532), (false, E533), (false, E534)]
def b60 : Ens := [(false, E535), (false, E536), (false, E537), (false, E538), (false, E539), (false, E540), (false, E541)]
theorem z60 : EnsOk Tryz.prog b60 := exAll_ok (k := kk60) (by kernel_rfl) exHok exIhok (lend := exL) ⟨y455, y456, y457, y458, y459, y460, y461, y462, y463, y464, y465, y466, y467, y468, y469, y470, y471, y472, y473, y474, y475, y476, y477, y478, y479, y480, y481, y482, y483, y484, y485, y486, y487, y488, y489, y490, y491, y492, y493, y494, y495, y496, y497, y498, y499, y500, y501, y502, y503, y504, y505, y506, y507, y508, y509, y510, y511, y512, y513, y514, y515, y516, y517, y518, y519, y520, y521, y522, y523, y524, y525, y526, y527, y528, y529, y530, y531, y532, y533, y534, trivial⟩ (by kernel_rfl)
theorem y535 : E535.ok Tryz.prog := z60.1
theorem y536 : E536.ok Tryz.prog := z60.2.1
theorem y537 : E537.ok Tryz.prog := z60.2.2.1
theorem y538 : E538.ok Tryz.prog := z60.2.2.2.1
theorem y539 : E539.ok Tryz.prog := z60.2.2.2.2.1
theorem y540 : E540.ok Tryz.prog := z60.2.2.2.2.2.1
theorem y541 : E541.ok Tryz.prog := z60.2.2.2.2.2.2.1
def kk61 : Ens := []
def b61 : Ens := [(false, E542), (false, E543), (false, E544), (false, E545), (false, E546), (false, E547), (false, E548)]
theorem z61 : EnsOk Tryz.prog b61 := exAll_ok (k := kk61) (by kernel_rfl) exHok exIhok (lend := exL) trivial (by kernel_rfl)
theorem y542 : E542.ok Tryz.prog := z61.1
theorem y543 : E543.ok Tryz.prog := z61.2.1
theorem y544 : E544.ok Tryz.prog := z61.2.2.1
theorem y545 : E545.ok Tryz.prog := z61.2.2.2.1
theorem y546 : E546.ok Tryz.prog := z61.2.2.2.2.1
theorem y547 : E547.ok Tryz.prog := z61.2.2.2.2.2.1
theorem y548 : E548.ok Tryz.prog := z61.2.2.2.2.2.2.1
def kk62 : Ens := []
def b62 : Ens := [(false, E549), (false, E550), (false, E551), (false, E552), (false, E553), (false, E554), (false, E555)]
theorem z62 : EnsOk Tryz.prog b62 := exAll_ok (k := kk62) (by kernel_rfl) exHok exIhok (lend := exL) trivial (by kernel_rfl)
theorem y549 : E549.ok Tryz.prog := z62.1
theorem y550 : E550.ok Tryz.prog := z62.2.1
theorem y551 : E551.ok Tryz.prog := z62.2.2.1
theorem y552 : E552.ok Tryz.prog := z62.2.2.2.1
theorem y553 : E553.ok Tryz.prog := z62.2.2.2.2.1
theorem y554 : E554.ok Tryz.prog := z62.2.2.2.2.2.1
theorem y555 : E555.ok Tryz.prog := z62.2.2.2.2.2.2.1
def kk63 : Ens := [(false, E430)]
def b63 : Ens := [(false, E556), (false, E557), (false, E558), (false, E559), (false, E560), (false, E561), (false, E562)]
theorem z63 : EnsOk Tryz.prog b63 := exAll_ok (k := kk63) (by kernel_rfl) exHok exIhok (lend := exL) ⟨y430, trivial⟩ (by kernel_rfl)
theorem y556 : E556.ok Tryz.prog := z63.1
theorem y557 : E557.ok Tryz.prog := z63.2.1
theorem y558 : E558.ok Tryz.prog := z63.2.2.1
theorem y559 : E559.ok Tryz.prog := z63.2.2.2.1
theorem y560 : E560.ok Tryz.prog := z63.2.2.2.2.1
theorem y561 : E561.ok Tryz.prog := z63.2.2.2.2.2.1
theorem y562 : E562.ok Tryz.prog := z63.2.2.2.2.2.2.1
end Go.Proofs.YtopmfoohdkjgmaaGreatDoor
