import Derived.Test.YtedojeimigneaaaGreatDoorIj
import Derived.Test.YtedojeimigneaaaGreatDoorFm
set_option linter.unusedVariables false
namespace Go.Proofs.YtedojeimigneaaaGreatDoor
open Go Go.SL
theorem A8f(x:Int)(r:ByteArray)(h:Ajz x=some r):CallOk Tryz.prog 208 [.d (I x)] [] (.d (.p (.v (.string r)))) []:=by
 unfold Ajz at h;cases hb:decide (0<=x)&&decide (x<10) with
 |false=>rw[hb]at h;cases h
 |true=>
  rw[hb]at h;injection h with h
  subst h;rw[aa,dM,dM]at hb;have:=An8 x.toNat (by omega);rw[show ((x.toNat:Nat):Int)=x by omega]at this;exact this
theorem A8e(l:List ByteArray)(s r:ByteArray)(h:Ajx l s=some r):CallOk Tryz.prog 209 [.d (DS pS l),.d (.p (.v (.string s)))] [] (.d (.p (.v (.string r)))) []:=by
 unfold Ajx at h;cases hb:(!l.isEmpty&&decide (l.length<=1000000))&&decide ((Ajy l s).length<=140737488355328) with
 |false=>rw[hb]at h;cases h
 |true=>
  rw[hb]at h;injection h with h
  subst h;simp only[aa,aO,dM]at hb;exact An7 l s (λe=>by rw[e]at hb;cases hb.1.1) hb.1.2 hb.2
end Go.Proofs.YtedojeimigneaaaGreatDoor
