import Derived.Test.YtedojeimigneaaaGreatDoorBk
import Derived.Test.YtedojeimigneaaaGreatDoorFd
import Derived.Test.YtedojeimigneaaaGreatDoorWk
import Derived.Test.YtedojeimigneaaaGreatDoorCw
import Derived.Test.YtedojeimigneaaaGreatDoorIj
set_option linter.unusedVariables false
namespace Go.Proofs.YtedojeimigneaaaGreatDoor
open Go Go.SL
def zr:List (List Pd):=(List.replicate 12 0).map pI
def zs:List D:=List.replicate 12 (.p (xi 0))
theorem A3n:CallOk Tryz.prog 314 [.d (.p (.s zr))] [] (.tup [.agg zs,.d (.p (xb true))]) []:=by
 refine Az2 (λi l=>bif i==1000&&l==List.replicate 12 0 then some true else none) (λi l=>⟨Go.SL.Ej Tryz.func207 (by kernel_rfl) (by kernel_rfl),λr h=>?_⟩) (List.replicate 12 0) (⟨0,0,0,0,0,0,0,0,0,0,0,0⟩,true) rfl;cases hb:i==1000&&l==List.replicate 12 0 with
 |false=>rw[hb]at h;cases h
 |true=>rw[hb]at h;cases h;rw[aa,dQ,dQ]at hb;rw[hb.1,hb.2];exact(U6 (mixedW) false (by kernel_rfl)).2
def nmV:Value:=.string ⟨#[115,97]⟩
def sg1:List Pd:=[.v nmV,xi 1,xi 1,.s []]
theorem A2d:CallOk Tryz.prog 102 [.agg [.p (.s [sg1])]] [] (.d (.p (xi 0))) []:=by
 refine A0k (λs=>bif s==⟨#[115,97]⟩ then some true else none) (λs=>⟨Go.SL.Ej Tryz.func197 (by kernel_rfl) (by kernel_rfl),λr h=>?_⟩) ⟨[⟨⟨#[115,97]⟩,1,1,[]⟩]⟩ 0 rfl;cases hb:s==(⟨#[115,97]⟩:ByteArray) with
 |false=>rw[hb]at h;cases h
 |true=>rw[hb]at h;cases h;rw[Aei.1 hb];exact(U6 (mixedW) false (by kernel_rfl)).2
def hFA(args:List AV)(R:List Res):Option (AV×List Res):=match args,R with
 | [.agg [.p (.s []),.p (.s []),.p (.s [])],.d (.p (.s []))],[]=>some (.d (.p (.s [])),[])
 |_,_=>none
def hWR(args:List AV)(R:List Res):Option (AV×List Res):=match args,R with
 | [.d (.p (.s rows))],[]=>bif D9 rows zr then some (.tup [.agg zs,.d (.p (xb true))],[]) else none
 |_,_=>none
def hDC(args:List AV)(R:List Res):Option (AV×List Res):=match args,R with
 | [.agg [.p (.s rows)]],[]=>bif D9 rows [sg1] then some (.d (.p (xi 0)),[]) else none
 |_,_=>none
def hIT(args:List AV)(R:List Res):Option (AV×List Res):=match args,R with
 | [.d (.p (.v (.int .i64 (.ofNat i))))],[]=>bif Nat.blt i 10 then some (.d (.p (.v (.string ⟨#[UInt8.ofNat (48+i)]⟩))),[]) else none
 |_,_=>none
def uW:List (List Pd)->Option (List ByteArray)
 | []=>some []
 | [.v (.string a)]::l=>(uW l).map λr=>a::r
 |_=>none
theorem A2c:∀{rows:List (List Pd)}{l:List ByteArray},uW rows=some l->rows=l.map λx=>[.v (.string x)]:=by
 intro rows;induction rows with
 |nil=>intro l h;simp only[uW,ae]at h;subst h;rfl
 | cons r rows ih=>
  intro l h;unfold uW at h;split at h
  .cases ‹_::_=[]›
  .rename_i a l' e;cases e;cases hd:uW rows with
   |none=>rw[hd]at h;cases h
   |some y=>rw[hd]at h;simp only[aU,ae]at h;subst h;rw[ih hd];rfl
  .cases h
def hJO(args:List AV)(R:List Res):Option (AV×List Res):=match args,R with
 | [.d (.p (.s (r::rows))),.d (.p (.v (.string s)))],[]=>match uW (r::rows) with
  |some l=>bif Nat.ble l.length 1000000&&Nat.ble (Lib.join (l.map (·.data.toList)) s.data.toList).length 140737488355328 then some (.d (.p (.v (.string ⟨(Lib.join (l.map (·.data.toList)) s.data.toList).toArray⟩))),[]) else none
  |none=>none
 |_,_=>none
def exH:Tm:=λf=>match f with
 |261=>some hFA
 |314=>some hWR
 |102=>some hDC
 |208=>some hIT
 |209=>some hJO
 |_=>none
theorem C1:Vu Tryz.prog exH:=by
 intro f h hf args R res R2 e;unfold exH at hf;split at hf <;> cases hf
 .refine⟨Go.SL.Ej Tryz.func261 (by kernel_rfl) (by kernel_rfl),?_⟩;unfold hFA at e;split at e <;> cases e;exact A16
 .refine⟨Go.SL.Ej Tryz.func314 (by kernel_rfl) (by kernel_rfl),?_⟩;unfold hWR at e;split at e
  .rename_i rows;cases hq:D9 rows zr with
   |false=>rw[hq]at e;cases e
   |true=>rw[hq]at e;cases e;rw[Dp hq];exact A3n
  .cases e
 .refine⟨Go.SL.Ej Tryz.func102 (by kernel_rfl) (by kernel_rfl),?_⟩;unfold hDC at e;split at e
  .rename_i rows;cases hq:D9 rows [sg1] with
   |false=>rw[hq]at e;cases e
   |true=>rw[hq]at e;cases e;rw[Dp hq];exact A2d
  .cases e
 .refine⟨Go.SL.Ej Tryz.func208 (by kernel_rfl) (by kernel_rfl),?_⟩;unfold hIT at e;split at e
  .rename_i i;cases hq:Nat.blt i 10 with
   |false=>rw[hq]at e;cases e
   |true=>rw[hq]at e;cases e;exact An8 i (by rwa [bp]at hq)
  .cases e
 .refine⟨Go.SL.Ej Tryz.func209 (by kernel_rfl) (by kernel_rfl),?_⟩;unfold hJO at e;split at e
  .rename_i r rows s;split at e
   .rename_i l hl;cases hq:Nat.ble l.length 1000000&&Nat.ble (Lib.join (l.map (·.data.toList)) s.data.toList).length 140737488355328 with
    |false=>rw[hq]at e;cases e
    |true=>rw[hq]at e;cases e;simp only[aa]at hq;have h1:=A2c hl;rw[h1];exact An7 l s (λh=>by rw[h]at h1;cases h1) (aF hq.1) (aF hq.2)
   .cases e
  .cases e
def Ox(n:Nat):List (List Pd)->Bool
 | []=>true
 |r::l=>Nat.beq r.length n&&Ox n l
theorem Uu{n:Nat}:∀{l:List (List Pd)},Ox n l=true->∀r,r∈l->r.length=n
 |r::l,h,x,hx=>by
  simp only[Ox,aa]at h;rcases ah.1 hx with rfl|hx
  .exact af h.1
  .exact Uu h.2 x hx
def A5p:Ih_:=λf ips=>match ips with
 | [.ip [.s (r::rows)]]=>match f with
  |224=>bif Ox 1 (r::rows)then some (enR (r::rows)) else none
  |584=>bif Ox 3 (r::rows)then some (enR (r::rows)) else none
  |_=>none
 |_=>none
theorem Ce:Yl Tryz.prog A5p:=by
 intro f ips xs h;unfold A5p at h;split at h
 .rename_i r rows;split at h
  .cases hq:Ox 1 (r::rows) with
   |false=>rw[hq]at h;cases h
   |true=>rw[hq]at h;cases h;exact Alb _ (by simp) (Uu hq)
  .cases hq:Ox 3 (r::rows) with
   |false=>rw[hq]at h;cases h
   |true=>rw[hq]at h;cases h;exact Ak9 _ (by simp) (Uu hq)
  .cases h
 .cases h
def exL:FuncId->Bool:=λf=>!(Hc [52,61,62,64,65,72,73,74,75,76,77,78,115,120,121,151,215,224,236,239,303,304,310,340,378,380,438,471,534,569,584] f)
end Go.Proofs.YtedojeimigneaaaGreatDoor
