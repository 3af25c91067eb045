import Derived.Test.YtedojeimigneaaaGreatDoorSq7
set_option linter.unusedVariables false
namespace Go.Proofs.YtedojeimigneaaaGreatDoor
open Go Go.SL
def Bds:Ens:=[(false,Axu),(false,Axt)]
def b22:Ens:=[(false,Amy)]
theorem z22:Ci Tryz.prog b22:=Bq (k:=Bds) (by kernel_rfl) C1 Ce (lend:=exL) ⟨Bam,Bal,trivial⟩ (by kernel_rfl)
theorem A3j:Amy.ok Tryz.prog:=z22.1
def Bdr:Ens:=[]
def b23:Ens:=[(false,Axs),(false,Axr),(false,Axq),(false,Axp),(false,Axo),(false,Axn),(false,Axm),(false,Axl),(false,Axk),(false,Axj),(false,Axi),(false,Axh),(false,Axg),(false,Axf),(false,Axe),(false,Axd),(false,Axc),(false,Axb),(false,Axa),(false,Aw9),(false,Aw8),(false,Aw7),(false,Aw6),(false,Aw5),(false,Aw4),(false,Aw3),(false,Aw2),(false,Aw1),(false,Aw0),(false,Awz),(false,Awy),(false,Awx),(false,Aww),(false,Awv),(false,Awu),(false,Awt),(false,Aws)]
theorem z23:Ci Tryz.prog b23:=Bq (k:=Bdr) (by kernel_rfl) C1 Ce (lend:=exL) trivial (by kernel_rfl)
theorem Bak:Axs.ok Tryz.prog:=z23.1
theorem Baj:Axr.ok Tryz.prog:=z23.2.1
theorem Bai:Axq.ok Tryz.prog:=z23.2.2.1
theorem Bah:Axp.ok Tryz.prog:=z23.2.2.2.1
theorem Bag:Axo.ok Tryz.prog:=z23.2.2.2.2.1
theorem Baf:Axn.ok Tryz.prog:=z23.2.2.2.2.2.1
theorem Bae:Axm.ok Tryz.prog:=z23.2.2.2.2.2.2.1
theorem Bad:Axl.ok Tryz.prog:=z23.2.2.2.2.2.2.2.1
theorem Bac:Axk.ok Tryz.prog:=z23.2.2.2.2.2.2.2.2.1
theorem Bab:Axj.ok Tryz.prog:=z23.2.2.2.2.2.2.2.2.2.1
theorem Baa:Axi.ok Tryz.prog:=z23.2.2.2.2.2.2.2.2.2.2.1
theorem A_9:Axh.ok Tryz.prog:=z23.2.2.2.2.2.2.2.2.2.2.2.1
theorem A_8:Axg.ok Tryz.prog:=z23.2.2.2.2.2.2.2.2.2.2.2.2.1
theorem A_7:Axf.ok Tryz.prog:=z23.2.2.2.2.2.2.2.2.2.2.2.2.2.1
theorem A_6:Axe.ok Tryz.prog:=z23.2.2.2.2.2.2.2.2.2.2.2.2.2.2.1
theorem A_5:Axd.ok Tryz.prog:=z23.2.2.2.2.2.2.2.2.2.2.2.2.2.2.2.1
theorem A_4:Axc.ok Tryz.prog:=z23.2.2.2.2.2.2.2.2.2.2.2.2.2.2.2.2.1
theorem A_3:Axb.ok Tryz.prog:=z23.2.2.2.2.2.2.2.2.2.2.2.2.2.2.2.2.2.1
theorem A_2:Axa.ok Tryz.prog:=z23.2.2.2.2.2.2.2.2.2.2.2.2.2.2.2.2.2.2.1
theorem A_1:Aw9.ok Tryz.prog:=z23.2.2.2.2.2.2.2.2.2.2.2.2.2.2.2.2.2.2.2.1
theorem A_0:Aw8.ok Tryz.prog:=z23.2.2.2.2.2.2.2.2.2.2.2.2.2.2.2.2.2.2.2.2.1
theorem A_z:Aw7.ok Tryz.prog:=z23.2.2.2.2.2.2.2.2.2.2.2.2.2.2.2.2.2.2.2.2.2.1
theorem A_y:Aw6.ok Tryz.prog:=z23.2.2.2.2.2.2.2.2.2.2.2.2.2.2.2.2.2.2.2.2.2.2.1
theorem A_x:Aw5.ok Tryz.prog:=z23.2.2.2.2.2.2.2.2.2.2.2.2.2.2.2.2.2.2.2.2.2.2.2.1
theorem A_w:Aw4.ok Tryz.prog:=z23.2.2.2.2.2.2.2.2.2.2.2.2.2.2.2.2.2.2.2.2.2.2.2.2.1
theorem A_v:Aw3.ok Tryz.prog:=z23.2.2.2.2.2.2.2.2.2.2.2.2.2.2.2.2.2.2.2.2.2.2.2.2.2.1
theorem A_u:Aw2.ok Tryz.prog:=z23.2.2.2.2.2.2.2.2.2.2.2.2.2.2.2.2.2.2.2.2.2.2.2.2.2.2.1
theorem A_t:Aw1.ok Tryz.prog:=z23.2.2.2.2.2.2.2.2.2.2.2.2.2.2.2.2.2.2.2.2.2.2.2.2.2.2.2.1
theorem A_s:Aw0.ok Tryz.prog:=z23.2.2.2.2.2.2.2.2.2.2.2.2.2.2.2.2.2.2.2.2.2.2.2.2.2.2.2.2.1
theorem A_r:Awz.ok Tryz.prog:=z23.2.2.2.2.2.2.2.2.2.2.2.2.2.2.2.2.2.2.2.2.2.2.2.2.2.2.2.2.2.1
theorem A_q:Awy.ok Tryz.prog:=z23.2.2.2.2.2.2.2.2.2.2.2.2.2.2.2.2.2.2.2.2.2.2.2.2.2.2.2.2.2.2.1
theorem A_p:Awx.ok Tryz.prog:=z23.2.2.2.2.2.2.2.2.2.2.2.2.2.2.2.2.2.2.2.2.2.2.2.2.2.2.2.2.2.2.2.1
theorem A_o:Aww.ok Tryz.prog:=z23.2.2.2.2.2.2.2.2.2.2.2.2.2.2.2.2.2.2.2.2.2.2.2.2.2.2.2.2.2.2.2.2.1
theorem A_n:Awv.ok Tryz.prog:=z23.2.2.2.2.2.2.2.2.2.2.2.2.2.2.2.2.2.2.2.2.2.2.2.2.2.2.2.2.2.2.2.2.2.1
theorem A_m:Awu.ok Tryz.prog:=z23.2.2.2.2.2.2.2.2.2.2.2.2.2.2.2.2.2.2.2.2.2.2.2.2.2.2.2.2.2.2.2.2.2.2.1
theorem A_l:Awt.ok Tryz.prog:=z23.2.2.2.2.2.2.2.2.2.2.2.2.2.2.2.2.2.2.2.2.2.2.2.2.2.2.2.2.2.2.2.2.2.2.2.1
theorem A_k:Aws.ok Tryz.prog:=z23.2.2.2.2.2.2.2.2.2.2.2.2.2.2.2.2.2.2.2.2.2.2.2.2.2.2.2.2.2.2.2.2.2.2.2.2.1
end Go.Proofs.YtedojeimigneaaaGreatDoor
