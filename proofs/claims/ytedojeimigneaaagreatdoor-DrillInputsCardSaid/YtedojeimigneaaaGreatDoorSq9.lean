import Derived.Test.YtedojeimigneaaaGreatDoorSq8
set_option linter.unusedVariables false
namespace Go.Proofs.YtedojeimigneaaaGreatDoor
open Go Go.SL
def Bdq:Ens:=[(false,Axs),(false,Axr),(false,Axq),(false,Axp),(false,Axo),(false,Axn),(false,Axm),(false,Axl),(false,Axk),(false,Axj),(false,Axi),(false,Axh),(false,Axg),(false,Axf),(false,Axe),(false,Axd),(false,Axc),(false,Axb),(false,Axa),(false,Aw9),(false,Aw8),(false,Aw7),(false,Aw6),(false,Aw5),(false,Aw4),(false,Aw3),(false,Aw2),(false,Aw1),(false,Aw0),(false,Awz),(false,Awy),(false,Awx),(false,Aww),(false,Awv),(false,Awu),(false,Awt),(false,Aws)]
def b24:Ens:=[(false,Amx),(false,Awr),(false,Awq),(false,Awp),(false,Awo)]
theorem z24:Ci Tryz.prog b24:=Bq (k:=Bdq) (by kernel_rfl) C1 Ce (lend:=exL) ⟨Bak,Baj,Bai,Bah,Bag,Baf,Bae,Bad,Bac,Bab,Baa,A_9,A_8,A_7,A_6,A_5,A_4,A_3,A_2,A_1,A_0,A_z,A_y,A_x,A_w,A_v,A_u,A_t,A_s,A_r,A_q,A_p,A_o,A_n,A_m,A_l,A_k,trivial⟩ (by kernel_rfl)
theorem A3i:Amx.ok Tryz.prog:=z24.1
theorem A_j:Awr.ok Tryz.prog:=z24.2.1
theorem A_i:Awq.ok Tryz.prog:=z24.2.2.1
theorem A_h:Awp.ok Tryz.prog:=z24.2.2.2.1
theorem A_g:Awo.ok Tryz.prog:=z24.2.2.2.2.1
def Bdp:Ens:=[]
def b25:Ens:=[(false,Awn),(false,Awm),(false,Awl),(false,Awk),(false,Awj),(false,Awi),(false,Awh),(false,Awg),(false,Awf),(false,Awe),(false,Awd),(false,Awc),(false,Awb),(false,Awa),(false,Av9),(false,Av8),(false,Av7),(false,Av6),(false,Av5),(false,Av4),(false,Av3),(false,Av2),(false,Av1),(false,Av0),(false,Avz)]
theorem z25:Ci Tryz.prog b25:=Bq (k:=Bdp) (by kernel_rfl) C1 Ce (lend:=exL) trivial (by kernel_rfl)
theorem A_f:Awn.ok Tryz.prog:=z25.1
theorem A_e:Awm.ok Tryz.prog:=z25.2.1
theorem A_d:Awl.ok Tryz.prog:=z25.2.2.1
theorem A_c:Awk.ok Tryz.prog:=z25.2.2.2.1
theorem A_b:Awj.ok Tryz.prog:=z25.2.2.2.2.1
theorem A_a:Awi.ok Tryz.prog:=z25.2.2.2.2.2.1
theorem A99:Awh.ok Tryz.prog:=z25.2.2.2.2.2.2.1
theorem A98:Awg.ok Tryz.prog:=z25.2.2.2.2.2.2.2.1
theorem A97:Awf.ok Tryz.prog:=z25.2.2.2.2.2.2.2.2.1
theorem A96:Awe.ok Tryz.prog:=z25.2.2.2.2.2.2.2.2.2.1
theorem A95:Awd.ok Tryz.prog:=z25.2.2.2.2.2.2.2.2.2.2.1
theorem A94:Awc.ok Tryz.prog:=z25.2.2.2.2.2.2.2.2.2.2.2.1
theorem A93:Awb.ok Tryz.prog:=z25.2.2.2.2.2.2.2.2.2.2.2.2.1
theorem A92:Awa.ok Tryz.prog:=z25.2.2.2.2.2.2.2.2.2.2.2.2.2.1
theorem A91:Av9.ok Tryz.prog:=z25.2.2.2.2.2.2.2.2.2.2.2.2.2.2.1
theorem A90:Av8.ok Tryz.prog:=z25.2.2.2.2.2.2.2.2.2.2.2.2.2.2.2.1
theorem A9z:Av7.ok Tryz.prog:=z25.2.2.2.2.2.2.2.2.2.2.2.2.2.2.2.2.1
theorem A9y:Av6.ok Tryz.prog:=z25.2.2.2.2.2.2.2.2.2.2.2.2.2.2.2.2.2.1
theorem A9x:Av5.ok Tryz.prog:=z25.2.2.2.2.2.2.2.2.2.2.2.2.2.2.2.2.2.2.1
theorem A9w:Av4.ok Tryz.prog:=z25.2.2.2.2.2.2.2.2.2.2.2.2.2.2.2.2.2.2.2.1
theorem A9v:Av3.ok Tryz.prog:=z25.2.2.2.2.2.2.2.2.2.2.2.2.2.2.2.2.2.2.2.2.1
theorem A9u:Av2.ok Tryz.prog:=z25.2.2.2.2.2.2.2.2.2.2.2.2.2.2.2.2.2.2.2.2.2.1
theorem A9t:Av1.ok Tryz.prog:=z25.2.2.2.2.2.2.2.2.2.2.2.2.2.2.2.2.2.2.2.2.2.2.1
theorem A9s:Av0.ok Tryz.prog:=z25.2.2.2.2.2.2.2.2.2.2.2.2.2.2.2.2.2.2.2.2.2.2.2.1
theorem A9r:Avz.ok Tryz.prog:=z25.2.2.2.2.2.2.2.2.2.2.2.2.2.2.2.2.2.2.2.2.2.2.2.2.1
def Bdo:Ens:=[(false,Awr),(false,Awq),(false,Awp),(false,Awo),(false,Awn),(false,Awm),(false,Awl),(false,Awk),(false,Awj),(false,Awi),(false,Awh),(false,Awg),(false,Awf),(false,Awe),(false,Awd),(false,Awc),(false,Awb),(false,Awa),(false,Av9),(false,Av8),(false,Av7),(false,Av6),(false,Av5),(false,Av4),(false,Av3),(false,Av2),(false,Av1),(false,Av0),(false,Avz)]
def b26:Ens:=[(false,Amw)]
theorem z26:Ci Tryz.prog b26:=Bq (k:=Bdo) (by kernel_rfl) C1 Ce (lend:=exL) ⟨A_j,A_i,A_h,A_g,A_f,A_e,A_d,A_c,A_b,A_a,A99,A98,A97,A96,A95,A94,A93,A92,A91,A90,A9z,A9y,A9x,A9w,A9v,A9u,A9t,A9s,A9r,trivial⟩ (by kernel_rfl)
theorem A3h:Amw.ok Tryz.prog:=z26.1
def Bdn:Ens:=[]
def b27:Ens:=[(false,Avy),(false,Avx)]
theorem z27:Ci Tryz.prog b27:=Bq (k:=Bdn) (by kernel_rfl) C1 Ce (lend:=exL) trivial (by kernel_rfl)
theorem A9q:Avy.ok Tryz.prog:=z27.1
theorem A9p:Avx.ok Tryz.prog:=z27.2.1
end Go.Proofs.YtedojeimigneaaaGreatDoor
