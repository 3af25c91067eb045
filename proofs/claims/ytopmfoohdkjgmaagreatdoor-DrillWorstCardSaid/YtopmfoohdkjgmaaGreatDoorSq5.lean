/-
  What the law's own test does, carried out by reckoning.
-/
import Derived.Test.YtopmfoohdkjgmaaGreatDoorSq4
set_option linter.unusedVariables false
namespace Go.Proofs.YtopmfoohdkjgmaaGreatDoor
open Go Go.SL
def kk81 : Ens := [(false, E16), (false, E328), (false, E339), (false, E340), (false, E427), (false, E454), (false, E539), (false, E563), (false, E647), (false, E732), (false, E756), (false, E757), (false, E761)]
def b81 : Ens := [(false, E762), (false, E763), (false, E764), (false, E765), (false, E766), (false, E767)]
theorem z81 : EnsOk Tryz.prog b81 := exAll_ok (k := kk81) (by kernel_rfl) exHok exIhok (lend := exL) ⟨y16, y328, y339, y340, y427, y454, y539, y563, y647, y732, y756, y757, y761, trivial⟩ (by kernel_rfl)
theorem y762 : E762.ok Tryz.prog := z81.1
theorem y763 : E763.ok Tryz.prog := z81.2.1
theorem y764 : E764.ok Tryz.prog := z81.2.2.1
theorem y765 : E765.ok Tryz.prog := z81.2.2.2.1
theorem y766 : E766.ok Tryz.prog := z81.2.2.2.2.1
theorem y767 : E767.ok Tryz.prog := z81.2.2.2.2.2.1
def kk82 : Ens := [(false, E31), (false, E222), (false, E237), (false, E327), (false, E760), (false, E762), (false, E767)]
def b82 : Ens := [(false, E768), (false, E769), (false, E770), (false, E771), (false, E772), (false, E773), (false, E774)]
theorem z82 : EnsOk Tryz.prog b82 := exAll_ok (k := kk82) (by kernel_rfl) exHok exIhok (lend := exL) ⟨y31, y222, y237, y327, y760, y762, y767, trivial⟩ (by kernel_rfl)
theorem y768 : E768.ok Tryz.prog := z82.1
theorem y769 : E769.ok Tryz.prog := z82.2.1
theorem y770 : E770.ok Tryz.prog := z82.2.2.1
theorem y771 : E771.ok Tryz.prog := z82.2.2.2.1
theorem y772 : E772.ok Tryz.prog := z82.2.2.2.2.1
theorem y773 : E773.ok Tryz.prog := z82.2.2.2.2.2.1
theorem y774 : E774.ok Tryz.prog := z82.2.2.2.2.2.2.1
def kk83 : Ens := [(false, E243), (false, E774)]
def b83 : Ens := [(false, E775), (false, E776), (false, E777), (false, E778), (false, E779), (false, E780)]
theorem z83 : EnsOk Tryz.prog b83 := exAll_ok (k := kk83) (by kernel_rfl) exHok exIhok (lend := exL) ⟨y243, y774, trivial⟩ (by kernel_rfl)
theorem y775 : E775.ok Tryz.prog := z83.1
theorem y776 : E776.ok Tryz.prog := z83.2.1
theorem y777 : E777.ok Tryz.prog := z83.2.2.1
theorem y778 : E778.ok Tryz.prog := z83.2.2.2.1
theorem y779 : E779.ok Tryz.prog := z83.2.2.2.2.1
theorem y780 : E780.ok Tryz.prog := z83.2.2.2.2.2.1
def kk84 : Ens := [(false, E40)]
def b84 : Ens := [(false, E781), (false, E782), (false, E783), (false, E784)]
theorem z84 : EnsOk Tryz.prog b84 := exAll_ok (k := kk84) (by kernel_rfl) exHok exIhok (lend := exL) ⟨y40, trivial⟩ (by kernel_rfl)
theorem y781 : E781.ok Tryz.prog := z84.1
theorem y782 : E782.ok Tryz.prog := z84.2.1
theorem y783 : E783.ok Tryz.prog := z84.2.2.1
theorem y784 : E784.ok Tryz.prog := z84.2.2.2.1
def kk85 : Ens := [(false, E34), (false, E245), (false, E259), (false, E322), (false, E759), (false, E771), (false, E773), (false, E776), (false, E779), (false, E780), (false, E782), (false, E783), (false, E784)]
def b85 : Ens := [(false, E785), (false, E786), (false, E787), (false, E788)]
theorem z85 : EnsOk Tryz.prog b85 := exAll_ok (k := kk85) (by kernel_rfl) exHok exIhok (lend := exL) ⟨y34, y245, y259, y322, y759, y771, y773, y776, y779, y780, y782, y783, y784, trivial⟩ (by kernel_rfl)
theorem y785 : E785.ok Tryz.prog := z85.1
theorem y786 : E786.ok Tryz.prog := z85.2.1
theorem y787 : E787.ok Tryz.prog := z85.2.2.1
theorem y788 : E788.ok Tryz.prog := z85.2.2.2.1
def kk86 : Ens := [(false, E40), (false, E784)]
def b86 : Ens := [(false, E789), (false, E790), (false, E791)]
theorem z86 : EnsOk Tryz.prog b86 := exAll_ok (k := kk86) (by kernel_rfl) exHok exIhok (lend := exL) ⟨y40, y784, trivial⟩ (by kernel_rfl)
theorem y789 : E789.ok Tryz.prog := z86.1
theorem y790 : E790.ok Tryz.prog := z86.2.1
theorem y791 : E791.ok Tryz.prog := z86.2.2.1
def kk87 : Ens := [(false, E29), (false, E34), (false, E37), (false, E222), (false, E231), (false, E237), (false, E247), (false, E250), (false, E252), (false, E254), (false, E328), (false, E788), (false, E791)]
def b87 : Ens := [(false, E792), (false, E793), (false, E794), (false, E795), (false, E796)]
theorem z87 : EnsOk Tryz.prog b87 := exAll_ok (k := kk87) (by kernel_rfl) exHok exIhok (lend := exL) ⟨y29, y34, y37, y222, y231, y237, y247, y250, y252, y254, y328, y788, y791, trivial⟩ (by kernel_rfl)
theorem y792 : E792.ok Tryz.prog := z87.1
theorem y793 : E793.ok Tryz.prog := z87.2.1
theorem y794 : E794.ok Tryz.prog := z87.2.2.1
theorem y795 : E795.ok Tryz.prog := z87.2.2.2.1
theorem y796 : E796.ok Tryz.prog := z87.2.2.2.2.1
def kk88 : Ens := [(false, E328), (false, E795), (false, E796)]
def b88 : Ens := [(false, E797), (false, E798), (false, E799), (false, E800), (false, E801), (false, E802), (false, E803)]
theorem z88 : EnsOk Tryz.prog b88 := exAll_ok (k := kk88) (by kernel_rfl) exHok exIhok (lend := exL) ⟨y328, y795, y796, trivial⟩ (by kernel_rfl)
theorem y797 : E797.ok Tryz.prog := z88.1
theorem y798 : E798.ok Tryz.prog := z88.2.1
theorem y799 : E799.ok Tryz.prog := z88.2.2.1
theorem y800 : E800.ok Tryz.prog := z88.2.2.2.1
theorem y801 : E801.ok Tryz.prog := z88.2.2.2.2.1
theorem y802 : E802.ok Tryz.prog := z88.2.2.2.2.2.1
theorem y803 : E803.ok Tryz.prog := z88.2.2.2.2.2.2.1
end Go.Proofs.YtopmfoohdkjgmaaGreatDoor
set_option linter.unusedVariables false
namespace Go.Proofs.YtopmfoohdkjgmaaGreatDoor
open Go Go.SL
def kk89 : Ens := [(false, E798), (false, E799), (false, E800), (false, E801), (false, E802), (false, E803)]
def b89 : Ens := [(false, E804), (false, E805), (false, E806), (false, E807), (false, E808), (false, E809), (false, E810), (false, E811), (false, E812), (false, E813)]
theorem z89 : EnsOk Tryz.prog b89 := exAll_ok (k := kk89) (by kernel_rfl) exHok exIhok (lend := exL) ⟨y798, y799, y800, y801, y802, y803, trivial⟩ (by kernel_rfl)
theorem y804 : E804.ok Tryz.prog := z89.1
theorem y805 : E805.ok Tryz.prog := z89.2.1
theorem y806 : E806.ok Tryz.prog := z89.2.2.1
theorem y807 : E807.ok Tryz.prog := z89.2.2.2.1
theorem y808 : E808.ok Tryz.prog := z89.2.2.2.2.1
theorem y809 : E809.ok Tryz.prog := z89.2.2.2.2.2.1
theorem y810 : E810.ok Tryz.prog := z89.2.2.2.2.2.2.1
theorem y811 : E811.ok Tryz.prog := z89.2.2.2.2.2.2.2.1
theorem y812 : E812.ok Tryz.prog := z89.2.2.2.2.2.2.2.2.1
theorem y813 : E813.ok Tryz.prog := z89.2.2.2.2.2.2.2.2.2.1
def kk90 : Ens := [(false, E27), (false, E271), (false, E273), (false, E275), (false, E277), (false, E279), (false, E281), (false, E283), (false, E285), (false, E313), (false, E314), (false, E805), (false, E806), (false, E807), (false, E808), (false, E809), (false, E810), (false, E811), (false, E812), (false, E813)]
def b90 : Ens := [(false, E814), (false, E815), (false, E816), (false, E817)]
theorem z90 : EnsOk Tryz.prog b90 := exAll_ok (k := kk90) (by kernel_rfl) exHok exIhok (lend := exL) ⟨y27, y271, y273, y275, y277, y279, y281, y283, y285, y313, y314, y805, y806, y807, y808, y809, y810, y811, y812, y813, trivial⟩ (by kernel_rfl)
theorem y814 : E814.ok Tryz.prog := z90.1
theorem y815 : E815.ok Tryz.prog := z90.2.1
theorem y816 : E816.ok Tryz.prog := z90.2.2.1
theorem y817 : E817.ok Tryz.prog := z90.2.2.2.1
def kk91 : Ens := [(false, E27), (false, E318), (false, E319), (false, E804), (false, E816), (false, E817)]
def b91 : Ens := [(false, E818), (false, E819), (false, E820)]
theorem z91 : EnsOk Tryz.prog b91 := exAll_ok (k := kk91) (by kernel_rfl) exHok exIhok (lend := exL) ⟨y27, y318, y319, y804, y816, y817, trivial⟩ (by kernel_rfl)
theorem y818 : E818.ok Tryz.prog := z91.1
theorem y819 : E819.ok Tryz.prog := z91.2.1
theorem y820 : E820.ok Tryz.prog := z91.2.2.1
def kk92 : Ens := [(false, E27), (false, E29), (false, E238), (false, E239), (false, E324), (false, E325), (false, E327), (false, E329), (false, E337), (false, E758), (false, E805), (false, E815)]
def b92 : Ens := [(false, E821), (false, E822), (false, E823), (false, E824), (false, E825), (false, E826)]
theorem z92 : EnsOk Tryz.prog b92 := exAll_ok (k := kk92) (by kernel_rfl) exHok exIhok (lend := exL) ⟨y27, y29, y238, y239, y324, y325, y327, y329, y337, y758, y805, y815, trivial⟩ (by kernel_rfl)
theorem y821 : E821.ok Tryz.prog := z92.1
theorem y822 : E822.ok Tryz.prog := z92.2.1
theorem y823 : E823.ok Tryz.prog := z92.2.2.1
theorem y824 : E824.ok Tryz.prog := z92.2.2.2.1
theorem y825 : E825.ok Tryz.prog := z92.2.2.2.2.1
theorem y826 : E826.ok Tryz.prog := z92.2.2.2.2.2.1
def kk93 : Ens := [(false, E31), (false, E761), (false, E768), (false, E823), (false, E826)]
def b93 : Ens := [(false, E827), (false, E828), (false, E829), (false, E830), (false, E831), (false, E832)]
theorem z93 : EnsOk Tryz.prog b93 := exAll_ok (k := kk93) (by kernel_rfl) exHok exIhok (lend := exL) ⟨y31, y761, y768, y823, y826, trivial⟩ (by kernel_rfl)
theorem y827 : E827.ok Tryz.prog := z93.1
theorem y828 : E828.ok Tryz.prog := z93.2.1
theorem y829 : E829.ok Tryz.prog := z93.2.2.1
theorem y830 : E830.ok Tryz.prog := z93.2.2.2.1
theorem y831 : E831.ok Tryz.prog := z93.2.2.2.2.1
theorem y832 : E832.ok Tryz.prog := z93.2.2.2.2.2.1
def kk94 : Ens := [(false, E222), (false, E237)]
def b94 : Ens := [(false, E833), (false, E834), (false, E835), (false, E836)]
theorem z94 : EnsOk Tryz.prog b94 := exAll_ok (k := kk94) (by kernel_rfl) exHok exIhok (lend := exL) ⟨y222, y237, trivial⟩ (by kernel_rfl)
theorem y833 : E833.ok Tryz.prog := z94.1
theorem y834 : E834.ok Tryz.prog := z94.2.1
theorem y835 : E835.ok Tryz.prog := z94.2.2.1
theorem y836 : E836.ok Tryz.prog := z94.2.2.2.1
def kk95 : Ens := [(false, E40), (false, E784), (false, E789)]
def b95 : Ens := [(false, E837), (false, E838)]
theorem z95 : EnsOk Tryz.prog b95 := exAll_ok (k := kk95) (by kernel_rfl) exHok exIhok (lend := exL) ⟨y40, y784, y789, trivial⟩ (by kernel_rfl)
theorem y837 : E837.ok Tryz.prog := z95.1
theorem y838 : E838.ok Tryz.prog := z95.2.1
def kk96 : Ens := [(false, E13), (false, E34), (false, E35), (false, E234), (false, E235), (false, E787), (false, E792), (false, E797), (false, E820), (false, E825), (false, E831), (false, E832), (false, E834), (false, E836), (false, E837), (false, E838)]
def b96 : Ens := [(false, E839), (false, E840), (false, E841), (false, E842), (false, E843), (false, E844)]
theorem z96 : EnsOk Tryz.prog b96 := exAll_ok (k := kk96) (by kernel_rfl) exHok exIhok (lend := exL) ⟨y13, y34, y35, y234, y235, y787, y792, y797, y820, y825, y831, y832, y834, y836, y837, y838, trivial⟩ (by kernel_rfl)
theorem y839 : E839.ok Tryz.prog := z96.1
theorem y840 : E840.ok Tryz.prog := z96.2.1
theorem y841 : E841.ok Tryz.prog := z96.2.2.1
theorem y842 : E842.ok Tryz.prog := z96.2.2.2.1
theorem y843 : E843.ok Tryz.prog := z96.2.2.2.2.1
theorem y844 : E844.ok Tryz.prog := z96.2.2.2.2.2.1
end Go.Proofs.YtopmfoohdkjgmaaGreatDoor
