import Derived.Test.YtedojeimigneaaaGreatDoorSq5
set_option linter.unusedVariables false
namespace Go.Proofs.YtedojeimigneaaaGreatDoor
open Go Go.SL
def Bdz:Ens:=[(false,E3),(false,E67),(false,E68),(false,E69),(false,E70),(false,E71),(false,E76),(false,E98)]
def b15:Ens:=[(false,E99),(false,Azw),(false,Azv),(false,Azu),(false,Azt),(false,Azs),(false,Azr),(false,Azq),(false,Azp),(false,Azo),(false,Azn),(false,Azm),(false,Azl),(false,Azk),(false,Azj),(false,Azi),(false,Azh),(false,Azg),(false,Azf),(false,Aze),(false,Azd),(false,Azc),(false,Azb),(false,Aza),(false,Ay9),(false,Ay8),(false,Ay7),(false,Ay6),(false,Ay5),(false,Ay4),(false,Ay3),(false,Ay2),(false,Ay1),(false,Ay0),(false,Ayz),(false,Ayy),(false,Ayx),(false,Ayw)]
theorem z15:Ci Tryz.prog b15:=Bq (k:=Bdz) (by kernel_rfl) C1 Ce (lend:=exL) ⟨y3,y67,y68,y69,y70,y71,y76,y98,trivial⟩ (by kernel_rfl)
theorem y99:E99.ok Tryz.prog:=z15.1
theorem Bco:Azw.ok Tryz.prog:=z15.2.1
theorem Bcn:Azv.ok Tryz.prog:=z15.2.2.1
theorem Bcm:Azu.ok Tryz.prog:=z15.2.2.2.1
theorem Bcl:Azt.ok Tryz.prog:=z15.2.2.2.2.1
theorem Bck:Azs.ok Tryz.prog:=z15.2.2.2.2.2.1
theorem Bcj:Azr.ok Tryz.prog:=z15.2.2.2.2.2.2.1
theorem Bci:Azq.ok Tryz.prog:=z15.2.2.2.2.2.2.2.1
theorem Bch:Azp.ok Tryz.prog:=z15.2.2.2.2.2.2.2.2.1
theorem Bcg:Azo.ok Tryz.prog:=z15.2.2.2.2.2.2.2.2.2.1
theorem Bcf:Azn.ok Tryz.prog:=z15.2.2.2.2.2.2.2.2.2.2.1
theorem Bce:Azm.ok Tryz.prog:=z15.2.2.2.2.2.2.2.2.2.2.2.1
theorem Bcd:Azl.ok Tryz.prog:=z15.2.2.2.2.2.2.2.2.2.2.2.2.1
theorem Bcc:Azk.ok Tryz.prog:=z15.2.2.2.2.2.2.2.2.2.2.2.2.2.1
theorem Bcb:Azj.ok Tryz.prog:=z15.2.2.2.2.2.2.2.2.2.2.2.2.2.2.1
theorem Bca:Azi.ok Tryz.prog:=z15.2.2.2.2.2.2.2.2.2.2.2.2.2.2.2.1
theorem Bb9:Azh.ok Tryz.prog:=z15.2.2.2.2.2.2.2.2.2.2.2.2.2.2.2.2.1
theorem Bb8:Azg.ok Tryz.prog:=z15.2.2.2.2.2.2.2.2.2.2.2.2.2.2.2.2.2.1
theorem Bb7:Azf.ok Tryz.prog:=z15.2.2.2.2.2.2.2.2.2.2.2.2.2.2.2.2.2.2.1
theorem Bb6:Aze.ok Tryz.prog:=z15.2.2.2.2.2.2.2.2.2.2.2.2.2.2.2.2.2.2.2.1
theorem Bb5:Azd.ok Tryz.prog:=z15.2.2.2.2.2.2.2.2.2.2.2.2.2.2.2.2.2.2.2.2.1
theorem Bb4:Azc.ok Tryz.prog:=z15.2.2.2.2.2.2.2.2.2.2.2.2.2.2.2.2.2.2.2.2.2.1
theorem Bb3:Azb.ok Tryz.prog:=z15.2.2.2.2.2.2.2.2.2.2.2.2.2.2.2.2.2.2.2.2.2.2.1
theorem Bb2:Aza.ok Tryz.prog:=z15.2.2.2.2.2.2.2.2.2.2.2.2.2.2.2.2.2.2.2.2.2.2.2.1
theorem Bb1:Ay9.ok Tryz.prog:=z15.2.2.2.2.2.2.2.2.2.2.2.2.2.2.2.2.2.2.2.2.2.2.2.2.1
theorem Bb0:Ay8.ok Tryz.prog:=z15.2.2.2.2.2.2.2.2.2.2.2.2.2.2.2.2.2.2.2.2.2.2.2.2.2.1
theorem Bbz:Ay7.ok Tryz.prog:=z15.2.2.2.2.2.2.2.2.2.2.2.2.2.2.2.2.2.2.2.2.2.2.2.2.2.2.1
theorem Bby:Ay6.ok Tryz.prog:=z15.2.2.2.2.2.2.2.2.2.2.2.2.2.2.2.2.2.2.2.2.2.2.2.2.2.2.2.1
theorem Bbx:Ay5.ok Tryz.prog:=z15.2.2.2.2.2.2.2.2.2.2.2.2.2.2.2.2.2.2.2.2.2.2.2.2.2.2.2.2.1
theorem Bbw:Ay4.ok Tryz.prog:=z15.2.2.2.2.2.2.2.2.2.2.2.2.2.2.2.2.2.2.2.2.2.2.2.2.2.2.2.2.2.1
theorem Bbv:Ay3.ok Tryz.prog:=z15.2.2.2.2.2.2.2.2.2.2.2.2.2.2.2.2.2.2.2.2.2.2.2.2.2.2.2.2.2.2.1
theorem Bbu:Ay2.ok Tryz.prog:=z15.2.2.2.2.2.2.2.2.2.2.2.2.2.2.2.2.2.2.2.2.2.2.2.2.2.2.2.2.2.2.2.1
theorem Bbt:Ay1.ok Tryz.prog:=z15.2.2.2.2.2.2.2.2.2.2.2.2.2.2.2.2.2.2.2.2.2.2.2.2.2.2.2.2.2.2.2.2.1
theorem Bbs:Ay0.ok Tryz.prog:=z15.2.2.2.2.2.2.2.2.2.2.2.2.2.2.2.2.2.2.2.2.2.2.2.2.2.2.2.2.2.2.2.2.2.1
theorem Bbr:Ayz.ok Tryz.prog:=z15.2.2.2.2.2.2.2.2.2.2.2.2.2.2.2.2.2.2.2.2.2.2.2.2.2.2.2.2.2.2.2.2.2.2.1
theorem Bbq:Ayy.ok Tryz.prog:=z15.2.2.2.2.2.2.2.2.2.2.2.2.2.2.2.2.2.2.2.2.2.2.2.2.2.2.2.2.2.2.2.2.2.2.2.1
theorem Bbp:Ayx.ok Tryz.prog:=z15.2.2.2.2.2.2.2.2.2.2.2.2.2.2.2.2.2.2.2.2.2.2.2.2.2.2.2.2.2.2.2.2.2.2.2.2.1
theorem Bbo:Ayw.ok Tryz.prog:=z15.2.2.2.2.2.2.2.2.2.2.2.2.2.2.2.2.2.2.2.2.2.2.2.2.2.2.2.2.2.2.2.2.2.2.2.2.2.1
def Bdy:Ens:=[(false,Azw),(false,Azv),(false,Azu),(false,Azt),(false,Azs),(false,Azr),(false,Azq),(false,Azp),(false,Azo),(false,Azn),(false,Azm),(false,Azl),(false,Azk),(false,Azj),(false,Azi),(false,Azh),(false,Azg),(false,Azf),(false,Aze),(false,Azd),(false,Azc),(false,Azb),(false,Aza),(false,Ay9),(false,Ay8),(false,Ay7),(false,Ay6),(false,Ay5),(false,Ay4),(false,Ay3),(false,Ay2),(false,Ay1),(false,Ay0),(false,Ayz),(false,Ayy),(false,Ayx),(false,Ayw)]
def b16:Ens:=[(false,Bfe),(false,Am1),(false,Ayv)]
theorem z16:Ci Tryz.prog b16:=Bq (k:=Bdy) (by kernel_rfl) C1 Ce (lend:=exL) ⟨Bco,Bcn,Bcm,Bcl,Bck,Bcj,Bci,Bch,Bcg,Bcf,Bce,Bcd,Bcc,Bcb,Bca,Bb9,Bb8,Bb7,Bb6,Bb5,Bb4,Bb3,Bb2,Bb1,Bb0,Bbz,Bby,Bbx,Bbw,Bbv,Bbu,Bbt,Bbs,Bbr,Bbq,Bbp,Bbo,trivial⟩ (by kernel_rfl)
theorem A3m:Am1.ok Tryz.prog:=z16.2.1
theorem Bbn:Ayv.ok Tryz.prog:=z16.2.2.1
def Bdx:Ens:=[]
def b17:Ens:=[(false,Ayu),(false,Ayt),(false,Ays),(false,Ayr),(false,Ayq),(false,Ayp),(false,Ayo)]
theorem z17:Ci Tryz.prog b17:=Bq (k:=Bdx) (by kernel_rfl) C1 Ce (lend:=exL) trivial (by kernel_rfl)
theorem Bbm:Ayu.ok Tryz.prog:=z17.1
theorem Bbl:Ayt.ok Tryz.prog:=z17.2.1
theorem Bbk:Ays.ok Tryz.prog:=z17.2.2.1
theorem Bbj:Ayr.ok Tryz.prog:=z17.2.2.2.1
theorem Bbi:Ayq.ok Tryz.prog:=z17.2.2.2.2.1
theorem Bbh:Ayp.ok Tryz.prog:=z17.2.2.2.2.2.1
theorem Bbg:Ayo.ok Tryz.prog:=z17.2.2.2.2.2.2.1
end Go.Proofs.YtedojeimigneaaaGreatDoor
