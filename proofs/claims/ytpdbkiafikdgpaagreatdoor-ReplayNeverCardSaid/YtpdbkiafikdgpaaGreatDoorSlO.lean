import Derived.Test.YtpdbkiafikdgpaaGreatDoorSlN
namespace Go.SL
structure Rec where
 i:Nat
 o:Oper
 need:List Ent
 cur:Ci
 cs:List (Bool×Bool)
 c:Cl
 Rin:List Res
 out:Out
 eff:Bool
 r:Bool
 fl:Option Nat
def Vh (ops:Array Oper) (o:Oper):List Nat:=
  (o.op.operands.toList.filterMap fun | .tmp t=>some t | _=>none) ++
  (match o.guard with
   | none=>[]
   | some (j,_)=>match (ops[j]?).bind (·.dst) with
     | some t=>[t]
     | none=>[])
def Ja (L:List Ent):List Nat->List Ent
 | []=>[]
 | t::r=>match D_ L t with
  | some e=>e::(e.p.filterMap λ g=>D_ L g.1)++Ja L r
  | none=>Ja L r
def Abm:Cl->Bool
 | .call _ _ _ res _ _=>(res.ren λ _=>none).isSome
 | _=>false
def Aog:Cl->Bool
 | .callB ..=>true
 | _=>false
def E7 (c:Cl) (o:Oper):Bool:=
 match o.op with
 | .box .. | .alloc _ | .store .. | .makeSlice ..=>false
 | .buildSlice ..=>!Vx c
 | .call k=>match k.callee with
  | .builtin .append | .builtin .clear | .builtin .copy=>false
  | .builtin _=>true
  | _=>Aog c || (An0 c&&Abm c)
 | _=>true
def Aov (n:Nat) (o:Oper) (cur:Ci):Bool:=
 match o.dst with
 | some d=>Nat.blt d n&&cur.all (λ g=>!(Nat.beq g.1 d))
 | none=>cur.isEmpty
def jF (P : Program) (L : List Ent) (cur : Ci) (R : List Res) (c : Cl) (i : Nat) (o : Oper) : Option Out :=
 match o.op with
 | .makeSlice t l k=>match c,R[i]? with
  | .fltm _ c0 _ _,some r'=>match Jr l k,Kr P [] c0 t ((B0 L cur l).bind Cp) with
   | true,some out=>match out.R,out.c with
    | [r1],some c1=>some ⟨.d (.os i),R,some (.fltm i c1 r1 r')⟩
    | _,_=>none
   | _,_=>none
  | _,_=>none
 | .alloc t=>match (Dk P t).bind λ z=>Ej z.cells.toList,R[i]? with
  | some cells,some r'=>some ⟨.d (.o i 0),R,some (.flt i (.box t cells) r')⟩
  | _,_=>none
 | _=>none
def Qp (o:Oper) (c:Cl):Option Nat:=
 match o.op with
 | .alloc _=>match c with
  | .flt i _ _=>some i
  | _=>none
 | .makeSlice ..=>match c with
  | .fltm i _ _ _=>some i
  | _=>none
 | _=>none
def Aoq (P:Program) (L:List Ent) (cur:Ci) (R:List Res) (c:Cl) (o:Oper):Option Out:=
 match Qp o c with
 | some i=>jF P L cur R c i o
 | none=>H8 P L cur R c o
def Ss (P : Program) (n : Nat) (ops : Array Oper) : List Nat -> List Ent -> List Res -> List Cl -> Option (List Rec × List Ent × List Res × List Cl)
 | [],L,R,_=>some ([],L,R,[])
 | i :: is, L, R, cls => match ops[i]? with
  | none=>none
  | some o=>
   let need:=Ja L (Vh ops o)
   match Kp ops need o with
   | none=>none
   | some cur=>
    let c:=cls.headD .nop
    match Aoq P need cur R (E4 c) o,E5 need cur with
    | some out,some cs=>
     let L':=match o.dst with | some d=>Sv L d cur out.v | none=>L
     bif Aov n o cur&&Mu need cur (isR c) (E4 c) o then
      match out.c with
      | some x=>match Ss P n ops is L' out.R cls.tail with
       | some (rs,L2,R2,ks)=>some (⟨i,o,need,cur,cs,E4 c,R,out,(Qp o (E4 c)).isNone && !E7 (E4 c) o,isR c,Qp o (E4 c)⟩::rs,L2,R2,I4 cur (isR c) cs x::ks)
       | none=>none
      | none=>match Ss P n ops is L' out.R cls with
       | some (rs,L2,R2,ks)=>some (⟨i,o,need,cur,cs,E4 c,R,out,(Qp o (E4 c)).isNone && !E7 (E4 c) o,isR c,Qp o (E4 c)⟩::rs,L2,R2,ks)
       | none=>none
     else none
    | _,_=>none
def Oa:List Nat->Nat->Bool
 | [],_=>false
 | a::r,t=>Nat.beq a t || Oa r t
def orE (l:List Nat):List Edge->Nat->Nat
 | [],m=>m
 | e::r,m=>orE l r (bif Region.binds .any e&&Nat.blt e.on l.length then Nat.lor m (Nat.lor (Nat.shiftLeft 1 e.on) ((l[e.on]?).getD 0)) else m)
def M0 (ops:Array Oper):Nat->List Nat
 | 0=>[]
 | j+1=>
  let l:=M0 ops j
  l++[match ops[j]? with
   | some o=>orE l o.after.toList 0
   | none=>0]
def Afz (m i:Nat):Bool:=Nat.beq (Nat.land (Nat.shiftRight m i) 1) 1
def Ce:List Ent->List Nat
 | []=>[]
 | e::r=>match e.v with
  | .d (.o i _)=>i::Ce r
  | .d (.os i)=>i::Ce r
  | .d (.oe i _ _ _)=>i::Ce r
  | .d (.osb i _ _ _)=>i::Ce r
  | .d (.oi i g _ _ _)=>i::g::Ce r
  | _=>Ce r
def O5 (R:List Res):List Nat->List Nat
 | []=>[]
 | i::r=>match R[i]? with
  | some (.dsl _ _ g)=>g::O5 R r
  | _=>O5 R r
def deepen (R:List Res) (l:List Nat):List Nat:=l++O5 R l
def Jo (o:Op) (L:List Ent):List Nat:=
 match o with
 | .move _ | .assign _ | .nilCheck _ | .fieldAddr .. | .extract .. | .pick .. | .build .. | .binOp .. | .unOp ..=>[]
 | _=>Ce L
def vG:List D->List Nat
 | []=>[]
 | .os j::r=>j::vG r
 | _::r=>vG r
mutual
def D.touchV (R:List Res):D->List Nat
 | .os i=>[i]
 | .osb i _ _ _=>[i]
 | .oi _ g _ _ _=>[g]
 | .o i _=>i::(match R[i]? with
  | some (.box _ cells)=>vG cells
  | _=>[])
 | .fn _ a b=>d8 R a++d8 R b
 | _=>[]
def d8 (R:List Res):List D->List Nat
 | []=>[]
 | d::r=>D.touchV R d++d8 R r
end
def AV.touchV (R:List Res):AV->List Nat
 | .d x=>x.touchV R
 | .agg ds=>d8 R ds
 | .tup _=>[]
def touchV (R:List Res):List Ent->List Nat
 | []=>[]
 | e::r=>e.v.touchV R++touchV R r
def Axr (c:Cl) (R:List Res) (L:List Ent):List Nat:=bif Aog c then touchV R L else []
def L8 (r:Rec):List Nat:=
 match r.fl with
 | some i=>[i]
 | none=>deepen r.Rin (Jo r.o.op r.need)++Axr r.c r.Rin r.need
def C3 (r:Rec):List Nat:=
 match r.o.op with
 | .store _ a _=>match B0 r.need r.cur a with
  | some (.d (.o i _))=>[i]
  | some (.d (.oe i _ _ _))=>i::(deepen r.Rin (Ce r.need)++touchV r.Rin r.need)
  | _=>[]
 | .call k=>match k.callee with
  | .value _=>match r.c with
   | .call _ _ _ _ _ pi=>pi
   | _=>[]
  | .builtin .append | .builtin .clear | .builtin .copy=>Ce r.need
  | _=>[]
 | _=>[]
def clear (need:List Ent) (d:Nat):Bool:=need.all λ e=>!(Nat.beq e.t d)&&e.p.all λ g=>!(Nat.beq g.1 d)
def Ox (r q:Rec):Bool:=
 (!r.eff || !q.eff) &&
 (match r.o.dst with | some d=>clear q.need d && !(q.cur.any λ g=>Nat.beq g.1 d)&&(match q.o.dst with | some d'=>!(Nat.beq d d') | none=>true) | none=>true) &&
 (match q.o.dst with | some d=>clear r.need d | none=>true) &&
 (!r.eff || (L8 q).all λ i=>!(Oa (C3 r) i)&&Nat.blt i r.Rin.length) &&
 (!q.eff || (L8 r).all λ i=>!(Oa (C3 q) i)&&Nat.blt i q.Rin.length)
def Ig:List Rec->List Nat
 | []=>[]
 | r::rs=>match r.fl with
  | some i=>i::Ig rs
  | none=>Ig rs
def Tg (lo hi:Nat) (rs:List Rec):Bool:=Eb (Ig rs)&&(Ig rs).all λ i=>Nat.ble lo i&&Nat.blt i hi
def Qv (ops:Array Oper) (L0:List Ent) (rs:List Rec):Bool:=
 let cl:=M0 ops ops.size
 L0.all (λ e=>e.p.isEmpty) &&
 (rs.all λ r=>r.o.after.all λ e=>!(Region.binds .any e) || Nat.blt e.on r.i) &&
 rs.all λ r=>rs.all λ q=>Nat.ble q.i r.i || (Afz ((cl[q.i]?).getD 0) r.i || Ox r q)
end Go.SL
