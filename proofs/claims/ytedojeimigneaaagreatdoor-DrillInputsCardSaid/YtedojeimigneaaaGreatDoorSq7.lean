import Derived.Test.YtedojeimigneaaaGreatDoorSq6
set_option linter.unusedVariables false
namespace Go.Proofs.YtedojeimigneaaaGreatDoor
open Go Go.SL
def Bdw:Ens:=[(false,Ayv),(false,Ayu),(false,Ayt),(false,Ays),(false,Ayr),(false,Ayq),(false,Ayp),(false,Ayo)]
def b18:Ens:=[(false,Am0),(false,Ayn),(false,Aym),(false,Ayl),(false,Ayk),(false,Ayj)]
theorem z18:Ci Tryz.prog b18:=Bq (k:=Bdw) (by kernel_rfl) C1 Ce (lend:=exL) ⟨Bbn,Bbm,Bbl,Bbk,Bbj,Bbi,Bbh,Bbg,trivial⟩ (by kernel_rfl)
theorem A3l:Am0.ok Tryz.prog:=z18.1
theorem Bbf:Ayn.ok Tryz.prog:=z18.2.1
theorem Bbe:Aym.ok Tryz.prog:=z18.2.2.1
theorem Bbd:Ayl.ok Tryz.prog:=z18.2.2.2.1
theorem Bbc:Ayk.ok Tryz.prog:=z18.2.2.2.2.1
theorem Bbb:Ayj.ok Tryz.prog:=z18.2.2.2.2.2.1
def Bdv:Ens:=[]
def b19:Ens:=[(false,Ayi),(false,Ayh),(false,Ayg),(false,Ayf),(false,Aye),(false,Ayd),(false,Ayc),(false,Ayb),(false,Aya),(false,Ax9),(false,Ax8),(false,Ax7),(false,Ax6),(false,Ax5),(false,Ax4),(false,Ax3),(false,Ax2),(false,Ax1),(false,Ax0),(false,Axz),(false,Axy),(false,Axx),(false,Axw),(false,Axv)]
theorem z19:Ci Tryz.prog b19:=Bq (k:=Bdv) (by kernel_rfl) C1 Ce (lend:=exL) trivial (by kernel_rfl)
theorem Bba:Ayi.ok Tryz.prog:=z19.1
theorem Ba9:Ayh.ok Tryz.prog:=z19.2.1
theorem Ba8:Ayg.ok Tryz.prog:=z19.2.2.1
theorem Ba7:Ayf.ok Tryz.prog:=z19.2.2.2.1
theorem Ba6:Aye.ok Tryz.prog:=z19.2.2.2.2.1
theorem Ba5:Ayd.ok Tryz.prog:=z19.2.2.2.2.2.1
theorem Ba4:Ayc.ok Tryz.prog:=z19.2.2.2.2.2.2.1
theorem Ba3:Ayb.ok Tryz.prog:=z19.2.2.2.2.2.2.2.1
theorem Ba2:Aya.ok Tryz.prog:=z19.2.2.2.2.2.2.2.2.1
theorem Ba1:Ax9.ok Tryz.prog:=z19.2.2.2.2.2.2.2.2.2.1
theorem Ba0:Ax8.ok Tryz.prog:=z19.2.2.2.2.2.2.2.2.2.2.1
theorem Baz:Ax7.ok Tryz.prog:=z19.2.2.2.2.2.2.2.2.2.2.2.1
theorem Bay:Ax6.ok Tryz.prog:=z19.2.2.2.2.2.2.2.2.2.2.2.2.1
theorem Bax:Ax5.ok Tryz.prog:=z19.2.2.2.2.2.2.2.2.2.2.2.2.2.1
theorem Baw:Ax4.ok Tryz.prog:=z19.2.2.2.2.2.2.2.2.2.2.2.2.2.2.1
theorem Bav:Ax3.ok Tryz.prog:=z19.2.2.2.2.2.2.2.2.2.2.2.2.2.2.2.1
theorem Bau:Ax2.ok Tryz.prog:=z19.2.2.2.2.2.2.2.2.2.2.2.2.2.2.2.2.1
theorem Bat:Ax1.ok Tryz.prog:=z19.2.2.2.2.2.2.2.2.2.2.2.2.2.2.2.2.2.1
theorem Bas:Ax0.ok Tryz.prog:=z19.2.2.2.2.2.2.2.2.2.2.2.2.2.2.2.2.2.2.1
theorem Bar:Axz.ok Tryz.prog:=z19.2.2.2.2.2.2.2.2.2.2.2.2.2.2.2.2.2.2.2.1
theorem Baq:Axy.ok Tryz.prog:=z19.2.2.2.2.2.2.2.2.2.2.2.2.2.2.2.2.2.2.2.2.1
theorem Bap:Axx.ok Tryz.prog:=z19.2.2.2.2.2.2.2.2.2.2.2.2.2.2.2.2.2.2.2.2.2.1
theorem Bao:Axw.ok Tryz.prog:=z19.2.2.2.2.2.2.2.2.2.2.2.2.2.2.2.2.2.2.2.2.2.2.1
theorem Ban:Axv.ok Tryz.prog:=z19.2.2.2.2.2.2.2.2.2.2.2.2.2.2.2.2.2.2.2.2.2.2.2.1
def Bdu:Ens:=[(false,Ayn),(false,Aym),(false,Ayl),(false,Ayk),(false,Ayj),(false,Ayi),(false,Ayh),(false,Ayg),(false,Ayf),(false,Aye),(false,Ayd),(false,Ayc),(false,Ayb),(false,Aya),(false,Ax9),(false,Ax8),(false,Ax7),(false,Ax6),(false,Ax5),(false,Ax4),(false,Ax3),(false,Ax2),(false,Ax1),(false,Ax0),(false,Axz),(false,Axy),(false,Axx),(false,Axw),(false,Axv)]
def b20:Ens:=[(false,Amz)]
theorem z20:Ci Tryz.prog b20:=Bq (k:=Bdu) (by kernel_rfl) C1 Ce (lend:=exL) ⟨Bbf,Bbe,Bbd,Bbc,Bbb,Bba,Ba9,Ba8,Ba7,Ba6,Ba5,Ba4,Ba3,Ba2,Ba1,Ba0,Baz,Bay,Bax,Baw,Bav,Bau,Bat,Bas,Bar,Baq,Bap,Bao,Ban,trivial⟩ (by kernel_rfl)
theorem A3k:Amz.ok Tryz.prog:=z20.1
def Bdt:Ens:=[]
def b21:Ens:=[(false,Axu),(false,Axt)]
theorem z21:Ci Tryz.prog b21:=Bq (k:=Bdt) (by kernel_rfl) C1 Ce (lend:=exL) trivial (by kernel_rfl)
theorem Bam:Axu.ok Tryz.prog:=z21.1
theorem Bal:Axt.ok Tryz.prog:=z21.2.1
end Go.Proofs.YtedojeimigneaaaGreatDoor
