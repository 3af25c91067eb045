/-
  What the law's own test does, carried out by reckoning.
-/
import Derived.Test.YtopmfoohdkjgmaaGreatDoorSq3
set_option linter.unusedVariables false
namespace Go.Proofs.YtopmfoohdkjgmaaGreatDoor
open Go Go.SL
def kk64 : Ens := [(false, E430), (false, E432), (false, E452), (false, E541), (false, E542), (false, E543), (false, E544), (false, E545), (false, E546), (false, E547), (false, E548), (false, E549), (false, E550), (false, E551), (false, E552), (false, E553), (false, E554), (false, E555), (false, E556), (false, E557), (false, E558), (false, E559), (false, E560), (false, E561), (false, E562)]
def b64 : Ens := [(false, E563)]
theorem z64 : EnsOk Tryz.prog b64 := exAll_ok (k := kk64) (by kernel_rfl) exHok exIhok (lend := exL) ⟨y430, y432, y452, y541, y542, y543, y544, y545, y546, y547, y548, y549, y550, y551, y552, y553, y554, y555, y556, y557, y558, y559, y560, y561, y562, trivial⟩ (by kernel_rfl)
theorem y563 : E563.ok Tryz.prog := z64.1
def kk65 : Ens := []
def b65 : Ens := [(false, E564), (false, E565), (false, E566), (false, E567), (false, E568), (false, E569), (false, E570), (false, E571), (false, E572), (false, E573), (false, E574), (false, E575), (false, E576), (false, E577), (false, E578), (false, E579), (false, E580), (false, E581), (false, E582)]
theorem z65 : EnsOk Tryz.prog b65 := exAll_ok (k := kk65) (by kernel_rfl) exHok exIhok (lend := exL) trivial (by kernel_rfl)
theorem y564 : E564.ok Tryz.prog := z65.1
theorem y565 : E565.ok Tryz.prog := z65.2.1
theorem y566 : E566.ok Tryz.prog := z65.2.2.1
theorem y567 : E567.ok Tryz.prog := z65.2.2.2.1
theorem y568 : E568.ok Tryz.prog := z65.2.2.2.2.1
theorem y569 : E569.ok Tryz.prog := z65.2.2.2.2.2.1
theorem y570 : E570.ok Tryz.prog := z65.2.2.2.2.2.2.1
theorem y571 : E571.ok Tryz.prog := z65.2.2.2.2.2.2.2.1
theorem y572 : E572.ok Tryz.prog := z65.2.2.2.2.2.2.2.2.1
theorem y573 : E573.ok Tryz.prog := z65.2.2.2.2.2.2.2.2.2.1
theorem y574 : E574.ok Tryz.prog := z65.2.2.2.2.2.2.2.2.2.2.1
theorem y575 : E575.ok Tryz.prog := z65.2.2.2.2.2.2.2.2.2.2.2.1
theorem y576 : E576.ok Tryz.prog := z65.2.2.2.2.2.2.2.2.2.2.2.2.1
theorem y577 : E577.ok Tryz.prog := z65.2.2.2.2.2.2.2.2.2.2.2.2.2.1
theorem y578 : E578.ok Tryz.prog := z65.2.2.2.2.2.2.2.2.2.2.2.2.2.2.1
theorem y579 : E579.ok Tryz.prog := z65.2.2.2.2.2.2.2.2.2.2.2.2.2.2.2.1
theorem y580 : E580.ok Tryz.prog := z65.2.2.2.2.2.2.2.2.2.2.2.2.2.2.2.2.1
theorem y581 : E581.ok Tryz.prog := z65.2.2.2.2.2.2.2.2.2.2.2.2.2.2.2.2.2.1
theorem y582 : E582.ok Tryz.prog := z65.2.2.2.2.2.2.2.2.2.2.2.2.2.2.2.2.2.2.1
def kk66 : Ens := []
def b66 : Ens := [(false, E583), (false, E584), (false, E585), (false, E586), (false, E587), (false, E588), (false, E589), (false, E590), (false, E591), (false, E592), (false, E593), (false, E594), (false, E595), (false, E596), (false, E597), (false, E598), (false, E599), (false, E600), (false, E601)]
theorem z66 : EnsOk Tryz.prog b66 := exAll_ok (k := kk66) (by kernel_rfl) exHok exIhok (lend := exL) trivial (by kernel_rfl)
theorem y583 : E583.ok Tryz.prog := z66.1
theorem y584 : E584.ok Tryz.prog := z66.2.1
theorem y585 : E585.ok Tryz.prog := z66.2.2.1
theorem y586 : E586.ok Tryz.prog := z66.2.2.2.1
theorem y587 : E587.ok Tryz.prog := z66.2.2.2.2.1
theorem y588 : E588.ok Tryz.prog := z66.2.2.2.2.2.1
theorem y589 : E589.ok Tryz.prog := z66.2.2.2.2.2.2.1
theorem y590 : E590.ok Tryz.prog := z66.2.2.2.2.2.2.2.1
theorem y591 : E591.ok Tryz.prog := z66.2.2.2.2.2.2.2.2.1
theorem y592 : E592.ok Tryz.prog := z66.2.2.2.2.2.2.2.2.2.1
theorem y593 : E593.ok Tryz.prog := z66.2.2.2.2.2.2.2.2.2.2.1
theorem y594 : E594.ok Tryz.prog := z66.2.2.2.2.2.2.2.2.2.2.2.1
theorem y595 : E595.ok Tryz.prog := z66.2.2.2.2.2.2.2.2.2.2.2.2.1
theorem y596 : E596.ok Tryz.prog := z66.2.2.2.2.2.2.2.2.2.2.2.2.2.1
theorem y597 : E597.ok Tryz.prog := z66.2.2.2.2.2.2.2.2.2.2.2.2.2.2.1
theorem y598 : E598.ok Tryz.prog := z66.2.2.2.2.2.2.2.2.2.2.2.2.2.2.2.1
theorem y599 : E599.ok Tryz.prog := z66.2.2.2.2.2.2.2.2.2.2.2.2.2.2.2.2.1
theorem y600 : E600.ok Tryz.prog := z66.2.2.2.2.2.2.2.2.2.2.2.2.2.2.2.2.2.1
theorem y601 : E601.ok Tryz.prog := z66.2.2.2.2.2.2.2.2.2.2.2.2.2.2.2.2.2.2.1
def kk67 : Ens := []
def b67 : Ens := [(false, E602), (false, E603), (false, E604), (false, E605), (false, E606), (false, E607), (false, E608), (false, E609), (false, E610), (false, E611), (false, E612), (false, E613), (false, E614), (false, E615), (false, E616), (false, E617), (false, E618), (false, E619), (false, E620)]
theorem z67 : EnsOk Tryz.prog b67 := exAll_ok (k := kk67) (by kernel_rfl) exHok exIhok (lend := exL) trivial (by kernel_rfl)
theorem y602 : E602.ok Tryz.prog := z67.1
theorem y603 : E603.ok Tryz.prog := z67.2.1
theorem y604 : E604.ok Tryz.prog := z67.2.2.1
theorem y605 : E605.ok Tryz.prog := z67.2.2.2.1
theorem y606 : E606.ok Tryz.prog := z67.2.2.2.2.1
theorem y607 : E607.ok Tryz.prog := z67.2.2.2.2.2.1
theorem y608 : E608.ok Tryz.prog := z67.2.2.2.2.2.2.1
theorem y609 : E609.ok Tryz.prog := z67.2.2.2.2.2.2.2.1
theorem y610 : E610.ok Tryz.prog := z67.2.2.2.2.2.2.2.2.1
theorem y611 : E611.ok Tryz.prog := z67.2.2.2.2.2.2.2.2.2.1
theorem y612 : E612.ok Tryz.prog := z67.2.2.2.2.2.2.2.2.2.2.1
theorem y613 : E613.ok Tryz.prog := z67.2.2.2.2.2.2.2.2.2.2.2.1
theorem y614 : E614.ok Tryz.prog := z67.2.2.2.2.2.2.2.2.2.2.2.2.1
theorem y615 : E615.ok Tryz.prog := z67.2.2.2.2.2.2.2.2.2.2.2.2.2.1
theorem y616 : E616.ok Tryz.prog := z67.2.2.2.2.2.2.2.2.2.2.2.2.2.2.1
theorem y617 : E617.ok Tryz.prog := z67.2.2.2.2.2.2.2.2.2.2.2.2.2.2.2.1
theorem y618 : E618.ok Tryz.prog := z67.2.2.2.2.2.2.2.2.2.2.2.2.2.2.2.2.1
theorem y619 : E619.ok Tryz.prog := z67.2.2.2.2.2.2.2.2.2.2.2.2.2.2.2.2.2.1
theorem y620 : E620.ok Tryz.prog := z67.2.2.2.2.2.2.2.2.2.2.2.2.2.2.2.2.2.2.1
def kk68 : Ens := []
def b68 : Ens := [(false, E621), (false, E622), (false, E623), (false, E624), (false, E625), (false, E626), (false, E627), (false, E628), (false, E629), (false, E630), (false, E631), (false, E632), (false, E633), (false, E634), (false, E635), (false, E636), (false, E637), (false, E638), (false, E639)]
theorem z68 : EnsOk Tryz.prog b68 := exAll_ok (k := kk68) (by kernel_rfl) exHok exIhok (lend := exL) trivial (by kernel_rfl)
theorem y621 : E621.ok Tryz.prog := z68.1
theorem y622 : E622.ok Tryz.prog := z68.2.1
theorem y623 : E623.ok Tryz.prog := z68.2.2.1
theorem y624 : E624.ok Tryz.prog := z68.2.2.2.1
theorem y625 : E625.ok Tryz.prog := z68.2.2.2.2.1
theorem y626 : E626.ok Tryz.prog := z68.2.2.2.2.2.1
theorem y627 : E627.ok Tryz.prog := z68.2.2.2.2.2.2.1
theorem y628 : E628.ok Tryz.prog := z68.2.2.2.2.2.2.2.1
theorem y629 : E629.ok Tryz.prog := z68.2.2.2.2.2.2.2.2.1
theorem y630 : E630.ok Tryz.prog := z68.2.2.2.2.2.2.2.2.2.1
theorem y631 : E631.ok Tryz.prog := z68.2.2.2.2.2.2.2.2.2.2.1
theorem y632 : E632.ok Tryz.prog := z68.2.2.2.2.2.2.2.2.2.2.2.1
theorem y633 : E633.ok Tryz.prog := z68.2.2.2.2.2.2.2.2.2.2.2.2.1
theorem y634 : E634.ok Tryz.prog := z68.2.2.2.2.2.2.2.2.2.2.2.2.2.1
theorem y635 : E635.ok Tryz.prog := z68.2.2.2.2.2.2.2.2.2.2.2.2.2.2.1
theorem y636 : E636.ok Tryz.prog := z68.2.2.2.2.2.2.2.2.2.2.2.2.2.2.2.1
theorem y637 : E637.ok Tryz.prog := z68.2.2.2.2.2.2.2.2.2.2.2.2.2.2.2.2.1
theorem y638 : E638.ok Tryz.prog := z68.2.2.2.2.2.2.2.2.2.2.2.2.2.2.2.2.2.1
theorem y639 : E639.ok Tryz.prog := z68.2.2.2.2.2.2.2.2.2.2.2.2.2.2.2.2.2.2.1
def kk69 : Ens := [(false, E564), (false, E565), (false, E566), (false, E567), (false, E568), (false, E569), (false, E570), (false, E571), (false, E572), (false, E573), (false, E574), (false, E575), (false, E576), (false, E577), (false, E578), (false, E579), (false, E580), (false, E581), (false, E582), (false, E583), (false, E584), (false, E585), (false, E586), (false, E587), (false, E588), (false, E589), (false, E590), (false, E591), (false, E592), (false, E593), (false, E594), (false, E595), (false, E596), (false, E597), (false, E598), (false, E599), (false, E600), (false, E601), (false, E602), (false, E603), (false, E604), (false, E605), (false, E606), (false, E607), (false, E608), (false, E609), (false, E610), (false, E611), (false, E612), (false, E613), (false, E614), (false, E615), (false, E616), (false, E617), (false, E618), (false, E619), (false, E620), (false, E621), (false, E622), (false, E623), (false, E624), (false, E625), (false, E626), (false, E627), (false, E628), (false, E629), (false, E630), (false, E631), (false, E632), (false, E633), (false, E634), (false, E635), (false, E636), (false, E637), (false, E638), (false, E639)]
def b69 : Ens := [(false, E640), (false, E641), (false, E642), (false, E643), (false, E644), (false, E645), (false, E646), (false, E647), (false, E648), (false, E649), (false, E650)]
theorem z69 : EnsOk Tryz.prog b69 := exAll_ok (k := kk69) (by kernel_rfl) exHok exIhok (lend := exL) ⟨y564, y565, y566, y567, y568, y569, y570, y571, y572, y573, y574, y575, y576, y577, y578, y579, y580, y581, y582, y583, y584, y585, y586, y587, y588, y589, y590, y591, y592, y593, y594, y595, y596, y597, y598, y599, y600, y601, y602, y603, y604, y605, y606, y607, y608, y609, y610, y611, y612, y613, y614, y615, y616, y617, y618, y619, y620, y621, y622, y623, y624, y625, y626, y627, y628, y629, y630, y631, y632, y633, y634, y635, y636, y637, y638, y639, trivial⟩ (by kernel_rfl)
theorem y640 : E640.ok Tryz.prog := z69.1
theorem y641 : E641.ok Tryz.prog := z69.2.1
theorem y642 : E642.ok Tryz.prog := z69.2.2.1
theorem y643 : E643.ok Tryz.prog := z69.2.2.2.1
theorem y644 : E644.ok Tryz.prog := z69.2.2.2.2.1
theorem y645 : E645.ok Tryz.prog := z69.2.2.2.2.2.1
theorem y646 : E646.ok Tryz.prog := z69.2.2.2.2.2.2.1
theorem y647 : E647.ok Tryz.prog := z69.2.2.2.2.2.2.2.1
theorem y648 : E648.ok Tryz.prog := z69.2.2.2.2.2.2.2.2.1
theorem y649 : E649.ok Tryz.prog := z69.2.2.2.2.2.2.2.2.2.1
theorem y650 : E650.ok Tryz.prog := z69.2.2.2.2.2.2.2.2.2.2.1
def kk70 : Ens := []
def b70 : Ens := [(false, E651), (false, E652), (false, E653), (false, E654), (false, E655), (false, E656), (false, E657), (false, E658), (false, E659), (false, E660), (false, E661), (false, E662), (false, E663), (false, E664), (false, E665), (false, E666), (false, E667), (false, E668), (false, E669)]
theorem z70 : EnsOk Tryz.prog b70 := exAll_ok (k := kk70) (by kernel_rfl) exHok exIhok (lend := exL) trivial (by kernel_rfl)
theorem y651 : E651.ok Tryz.prog := z70.1
theorem y652 : E652.ok Tryz.prog := z70.2.1
theorem y653 : E653.ok Tryz.prog := z70.2.2.1
theorem y654 : E654.ok Tryz.prog := z70.2.2.2.1
theorem y655 : E655.ok Tryz.prog := z70.2.2.2.2.1
theorem y656 : E656.ok Tryz.prog := z70.2.2.2.2.2.1
theorem y657 : E657.ok Tryz.prog := z70.2.2.2.2.2.2.1
theorem y658 : E658.ok Tryz.prog := z70.2.2.2.2.2.2.2.1
theorem y659 : E659.ok Tryz.prog := z70.2.2.2.2.2.2.2.2.1
theorem y660 : E660.ok Tryz.prog := z70.2.2.2.2.2.2.2.2.2.1
theorem y661 : E661.ok Tryz.prog := z70.2.2.2.2.2.2.2.2.2.2.1
theorem y662 : E662.ok Tryz.prog := z70.2.2.2.2.2.2.2.2.2.2.2.1
theorem y663 : E663.ok Tryz.prog := z70.2.2.2.2.2.2.2.2.2.2.2.2.1
theorem y664 : E664.ok Tryz.prog := z70.2.2.2.2.2.2.2.2.2.2.2.2.2.1
theorem y665 : E665.ok Tryz.prog := z70.2.2.2.2.2.2.2.2.2.2.2.2.2.2.1
theorem y666 : E666.ok Tryz.prog := z70.2.2.2.2.2.2.2.2.2.2.2.2.2.2.2.1
theorem y667 : E667.ok Tryz.prog := z70.2.2.2.2.2.2.2.2.2.2.2.2.2.2.2.2.1
theorem y668 : E668.ok Tryz.prog := z70.2.2.2.2.2.2.2.2.2.2.2.2.2.2.2.2.2.1
theorem y669 : E669.ok Tryz.prog := z70.2.2.2.2.2.2.2.2.2.2.2.2.2.2.2.2.2.2.1
def kk71 : Ens := []
def b71 : Ens := [(false, E670), (false, E671), (false, E672), (false, E673), (false, E674), (false, E675), (false, E676), (false, E677), (false, E678), (false, E679), (false, E680), (false, E681), (false, E682), (false, E683), (false, E684), (false, E685), (false, E686), (false, E687), (false, E688)]
theorem z71 : EnsOk Tryz.prog b71 := exAll_ok (k := kk71) (by kernel_rfl) exHok exIhok (lend := exL) trivial (by kernel_rfl)
theorem y670 : E670.ok Tryz.prog := z71.1
theorem y671 : E671.ok Tryz.prog := z71.2.1
theorem y672 : E672.ok Tryz.prog := z71.2.2.1
theorem y673 : E673.ok Tryz.prog := z71.2.2.2.1
theorem y674 : E674.ok Tryz.prog := z71.2.2.2.2.1
theorem y675 : E675.ok Tryz.prog := z71.2.2.2.2.2.1
theorem y676 : E676.ok Tryz.prog := z71.2.2.2.2.2.2.1
theorem y677 : E677.ok Tryz.prog := z71.2.2.2.2.2.2.2.1
theorem y678 : E678.ok Tryz.prog := z71.2.2.2.2.2.2.2.2.1
theorem y679 : E679.ok Tryz.prog := z71.2.2.2.2.2.2.2.2.2.1
theorem y680 : E680.ok Tryz.prog := z71.2.2.2.2.2.2.2.2.2.2.1
theorem y681 : E681.ok Tryz.prog := z71.2.2.2.2.2.2.2.2.2.2.2.1
theorem y682 : E682.ok Tryz.prog := z71.2.2.2.2.2.2.2.2.2.2.2.2.1
theorem y683 : E683.ok Tryz.prog := z71.2.2.2.2.2.2.2.2.2.2.2.2.2.1
theorem y684 : E684.ok Tryz.prog := z71.2.2.2.2.2.2.2.2.2.2.2.2.2.2.1
theorem y685 : E685.ok Tryz.prog := z71.2.2.2.2.2.2.2.2.2.2.2.2.2.2.2.1
theorem y686 : E686.ok Tryz.prog := z71.2.2.2.2.2.2.2.2.2.2.2.2.2.2.2.2.1
theorem y687 : E687.ok Tryz.prog := z71.2.2.2.2.2.2.2.2.2.2.2.2.2.2.2.2.2.1
theorem y688 : E688.ok Tryz.prog := z71.2.2.2.2.2.2.2.2.2.2.2.2.2.2.2.2.2.2.1
end Go.Proofs.YtopmfoohdkjgmaaGreatDoor
set_option linter.unusedVariables false
namespace Go.Proofs.YtopmfoohdkjgmaaGreatDoor
open Go Go.SL
def kk72 : Ens := []
def b72 : Ens := [(false, E689), (false, E690), (false, E691), (false, E692), (false, E693), (false, E694), (false, E695), (false, E696), (false, E697), (false, E698), (false, E699), (false, E700), (false, E701), (false, E702), (false, E703), (false, E704), (false, E705), (false, E706), (false, E707)]
theorem z72 : EnsOk Tryz.prog b72 := exAll_ok (k := kk72) (by kernel_rfl) exHok exIhok (lend := exL) trivial (by kernel_rfl)
theorem y689 : E689.ok Tryz.prog := z72.1
theorem y690 : E690.ok Tryz.prog := z72.2.1
theorem y691 : E691.ok Tryz.prog := z72.2.2.1
theorem y692 : E692.ok Tryz.prog := z72.2.2.2.1
theorem y693 : E693.ok Tryz.prog := z72.2.2.2.2.1
theorem y694 : E694.ok Tryz.prog := z72.2.2.2.2.2.1
theorem y695 : E695.ok Tryz.prog := z72.2.2.2.2.2.2.1
theorem y696 : E696.ok Tryz.prog := z72.2.2.2.2.2.2.2.1
theorem y697 : E697.ok Tryz.prog := z72.2.2.2.2.2.2.2.2.1
theorem y698 : E698.ok Tryz.prog := z72.2.2.2.2.2.2.2.2.2.1
theorem y699 : E699.ok Tryz.prog := z72.2.2.2.2.2.2.2.2.2.2.1
theorem y700 : E700.ok Tryz.prog := z72.2.2.2.2.2.2.2.2.2.2.2.1
theorem y701 : E701.ok Tryz.prog := z72.2.2.2.2.2.2.2.2.2.2.2.2.1
theorem y702 : E702.ok Tryz.prog := z72.2.2.2.2.2.2.2.2.2.2.2.2.2.1
theorem y703 : E703.ok Tryz.prog := z72.2.2.2.2.2.2.2.2.2.2.2.2.2.2.1
theorem y704 : E704.ok Tryz.prog := z72.2.2.2.2.2.2.2.2.2.2.2.2.2.2.2.1
theorem y705 : E705.ok Tryz.prog := z72.2.2.2.2.2.2.2.2.2.2.2.2.2.2.2.2.1
theorem y706 : E706.ok Tryz.prog := z72.2.2.2.2.2.2.2.2.2.2.2.2.2.2.2.2.2.1
theorem y707 : E707.ok Tryz.prog := z72.2.2.2.2.2.2.2.2.2.2.2.2.2.2.2.2.2.2.1
def kk73 : Ens := []
def b73 : Ens := [(false, E708), (false, E709), (false, E710), (false, E711), (false, E712), (false, E713), (false, E714), (false, E715), (false, E716), (false, E717), (false, E718), (false, E719), (false, E720), (false, E721), (false, E722), (false, E723), (false, E724), (false, E725), (false, E726)]
theorem z73 : EnsOk Tryz.prog b73 := exAll_ok (k := kk73) (by kernel_rfl) exHok exIhok (lend := exL) trivial (by kernel_rfl)
theorem y708 : E708.ok Tryz.prog := z73.1
theorem y709 : E709.ok Tryz.prog := z73.2.1
theorem y710 : E710.ok Tryz.prog := z73.2.2.1
theorem y711 : E711.ok Tryz.prog := z73.2.2.2.1
theorem y712 : E712.ok Tryz.prog := z73.2.2.2.2.1
theorem y713 : E713.ok Tryz.prog := z73.2.2.2.2.2.1
theorem y714 : E714.ok Tryz.prog := z73.2.2.2.2.2.2.1
theorem y715 : E715.ok Tryz.prog := z73.2.2.2.2.2.2.2.1
theorem y716 : E716.ok Tryz.prog := z73.2.2.2.2.2.2.2.2.1
theorem y717 : E717.ok Tryz.prog := z73.2.2.2.2.2.2.2.2.2.1
theorem y718 : E718.ok Tryz.prog := z73.2.2.2.2.2.2.2.2.2.2.1
theorem y719 : E719.ok Tryz.prog := z73.2.2.2.2.2.2.2.2.2.2.2.1
theorem y720 : E720.ok Tryz.prog := z73.2.2.2.2.2.2.2.2.2.2.2.2.1
theorem y721 : E721.ok Tryz.prog := z73.2.2.2.2.2.2.2.2.2.2.2.2.2.1
theorem y722 : E722.ok Tryz.prog := z73.2.2.2.2.2.2.2.2.2.2.2.2.2.2.1
theorem y723 : E723.ok Tryz.prog := z73.2.2.2.2.2.2.2.2.2.2.2.2.2.2.2.1
theorem y724 : E724.ok Tryz.prog := z73.2.2.2.2.2.2.2.2.2.2.2.2.2.2.2.2.1
theorem y725 : E725.ok Tryz.prog := z73.2.2.2.2.2.2.2.2.2.2.2.2.2.2.2.2.2.1
theorem y726 : E726.ok Tryz.prog := z73.2.2.2.2.2.2.2.2.2.2.2.2.2.2.2.2.2.2.1
def kk74 : Ens := [(false, E647), (false, E648), (false, E649), (false, E650), (false, E651), (false, E652), (false, E653), (false, E654), (false, E655), (false, E656), (false, E657), (false, E658), (false, E659), (false, E660), (false, E661), (false, E662), (false, E663), (false, E664), (false, E665), (false, E666), (false, E667), (false, E668), (false, E669), (false, E670), (false, E671), (false, E672), (false, E673), (false, E674), (false, E675), (false, E676), (false, E677), (false, E678), (false, E679), (false, E680), (false, E681), (false, E682), (false, E683), (false, E684), (false, E685), (false, E686), (false, E687), (false, E688), (false, E689), (false, E690), (false, E691), (false, E692), (false, E693), (false, E694), (false, E695), (false, E696), (false, E697), (false, E698), (false, E699), (false, E700), (false, E701), (false, E702), (false, E703), (false, E704), (false, E705), (false, E706), (false, E707), (false, E708), (false, E709), (false, E710), (false, E711), (false, E712), (false, E713), (false, E714), (false, E715), (false, E716), (false, E717), (false, E718), (false, E719), (false, E720), (false, E721), (false, E722), (false, E723), (false, E724), (false, E725), (false, E726)]
def b74 : Ens := [(false, E727), (false, E728), (false, E729), (false, E730), (false, E731), (false, E732), (false, E733)]
theorem z74 : EnsOk Tryz.prog b74 := exAll_ok (k := kk74) (by kernel_rfl) exHok exIhok (lend := exL) ⟨y647, y648, y649, y650, y651, y652, y653, y654, y655, y656, y657, y658, y659, y660, y661, y662, y663, y664, y665, y666, y667, y668, y669, y670, y671, y672, y673, y674, y675, y676, y677, y678, y679, y680, y681, y682, y683, y684, y685, y686, y687, y688, y689, y690, y691, y692, y693, y694, y695, y696, y697, y698, y699, y700, y701, y702, y703, y704, y705, y706, y707, y708, y709, y710, y711, y712, y713, y714, y715, y716, y717, y718, y719, y720, y721, y722, y723, y724, y725, y726, trivial⟩ (by kernel_rfl)
theorem y727 : E727.ok Tryz.prog := z74.1
theorem y728 : E728.ok Tryz.prog := z74.2.1
theorem y729 : E729.ok Tryz.prog := z74.2.2.1
theorem y730 : E730.ok Tryz.prog := z74.2.2.2.1
theorem y731 : E731.ok Tryz.prog := z74.2.2.2.2.1
theorem y732 : E732.ok Tryz.prog := z74.2.2.2.2.2.1
theorem y733 : E733.ok Tryz.prog := z74.2.2.2.2.2.2.1
def kk75 : Ens := []
def b75 : Ens := [(false, E734), (false, E735), (false, E736), (false, E737), (false, E738), (false, E739), (false, E740)]
theorem z75 : EnsOk Tryz.prog b75 := exAll_ok (k := kk75) (by kernel_rfl) exHok exIhok (lend := exL) trivial (by kernel_rfl)
theorem y734 : E734.ok Tryz.prog := z75.1
theorem y735 : E735.ok Tryz.prog := z75.2.1
theorem y736 : E736.ok Tryz.prog := z75.2.2.1
theorem y737 : E737.ok Tryz.prog := z75.2.2.2.1
theorem y738 : E738.ok Tryz.prog := z75.2.2.2.2.1
theorem y739 : E739.ok Tryz.prog := z75.2.2.2.2.2.1
theorem y740 : E740.ok Tryz.prog := z75.2.2.2.2.2.2.1
def kk76 : Ens := []
def b76 : Ens := [(false, E741), (false, E742), (false, E743), (false, E744), (false, E745), (false, E746), (false, E747)]
theorem z76 : EnsOk Tryz.prog b76 := exAll_ok (k := kk76) (by kernel_rfl) exHok exIhok (lend := exL) trivial (by kernel_rfl)
theorem y741 : E741.ok Tryz.prog := z76.1
theorem y742 : E742.ok Tryz.prog := z76.2.1
theorem y743 : E743.ok Tryz.prog := z76.2.2.1
theorem y744 : E744.ok Tryz.prog := z76.2.2.2.1
theorem y745 : E745.ok Tryz.prog := z76.2.2.2.2.1
theorem y746 : E746.ok Tryz.prog := z76.2.2.2.2.2.1
theorem y747 : E747.ok Tryz.prog := z76.2.2.2.2.2.2.1
def kk77 : Ens := [(false, E430)]
def b77 : Ens := [(false, E748), (false, E749), (false, E750), (false, E751), (false, E752), (false, E753), (false, E754)]
theorem z77 : EnsOk Tryz.prog b77 := exAll_ok (k := kk77) (by kernel_rfl) exHok exIhok (lend := exL) ⟨y430, trivial⟩ (by kernel_rfl)
theorem y748 : E748.ok Tryz.prog := z77.1
theorem y749 : E749.ok Tryz.prog := z77.2.1
theorem y750 : E750.ok Tryz.prog := z77.2.2.1
theorem y751 : E751.ok Tryz.prog := z77.2.2.2.1
theorem y752 : E752.ok Tryz.prog := z77.2.2.2.2.1
theorem y753 : E753.ok Tryz.prog := z77.2.2.2.2.2.1
theorem y754 : E754.ok Tryz.prog := z77.2.2.2.2.2.2.1
def kk78 : Ens := []
def b78 : Ens := [(false, E755)]
theorem z78 : EnsOk Tryz.prog b78 := exAll_ok (k := kk78) (by kernel_rfl) exHok exIhok (lend := exL) trivial (by kernel_rfl)
theorem y755 : E755.ok Tryz.prog := z78.1
def kk79 : Ens := [(false, E430), (false, E432), (false, E452), (false, E734), (false, E735), (false, E736), (false, E737), (false, E738), (false, E739), (false, E740), (false, E741), (false, E742), (false, E743), (false, E744), (false, E745), (false, E746), (false, E747), (false, E748), (false, E749), (false, E750), (false, E751), (false, E752), (false, E753), (false, E754), (false, E755)]
def b79 : Ens := [(false, E756)]
theorem z79 : EnsOk Tryz.prog b79 := exAll_ok (k := kk79) (by kernel_rfl) exHok exIhok (lend := exL) ⟨y430, y432, y452, y734, y735, y736, y737, y738, y739, y740, y741, y742, y743, y744, y745, y746, y747, y748, y749, y750, y751, y752, y753, y754, y755, trivial⟩ (by kernel_rfl)
theorem y756 : E756.ok Tryz.prog := z79.1
def kk80 : Ens := [(false, E16), (false, E27), (false, E222), (false, E269), (false, E315), (false, E324), (false, E326), (false, E327), (false, E330), (false, E331), (false, E332), (false, E333), (false, E334), (false, E335), (false, E336), (false, E338), (false, E342), (false, E428), (false, E454), (false, E540), (false, E563), (false, E733), (false, E756)]
def b80 : Ens := [(false, E757), (false, E758), (false, E759), (false, E760), (false, E761)]
theorem z80 : EnsOk Tryz.prog b80 := exAll_ok (k := kk80) (by kernel_rfl) exHok exIhok (lend := exL) ⟨y16, y27, y222, y269, y315, y324, y326, y327, y330, y331, y332, y333, y334, y335, y336, y338, y342, y428, y454, y540, y563, y733, y756, trivial⟩ (by kernel_rfl)
theorem y757 : E757.ok Tryz.prog := z80.1
theorem y758 : E758.ok Tryz.prog := z80.2.1
theorem y759 : E759.ok Tryz.prog := z80.2.2.1
theorem y760 : E760.ok Tryz.prog := z80.2.2.2.1
theorem y761 : E761.ok Tryz.prog := z80.2.2.2.2.1
end Go.Proofs.YtopmfoohdkjgmaaGreatDoor
