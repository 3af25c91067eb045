import Derived.Test.YtaplakgdkkmpfaaDoorSlN
namespace Go.SL
structure Rec where
 i:Nat
 o:Oper
 need:List Ent
 cur:A0
 cs:List (Bool×Bool)
 c:Cl
 Rin:List Res
 out:Out
 eff:Bool
 r:Bool
 fl:Option Nat
def Jc (ops:Array Oper) (o:Oper):List Nat:=
  (o.op.operands.toList.filterMap fun | .tmp t=>some t | _=>none) ++
  (match o.guard with
   | none=>[]
   | some (j,_)=>match (ops[j]?).bind (·.dst) with
     | some t=>[t]
     | none=>[])
def El (L:List Ent):List Nat->List Ent
 | []=>[]
 | t::r=>match Cp L t with
  | some e=>e::(e.p.filterMap λ g=>Cp L g.1)++El L r
  | none=>El L r
def M6:Cl->Bool
 | .call _ _ _ res _ _=>(res.ren λ _=>none).isSome
 | _=>false
def Rm:Cl->Bool
 | .callB ..=>true
 | _=>false
def Cq (c:Cl) (o:Oper):Bool:=
 match o.op with
 | .box .. | .alloc _ | .store .. | .makeSlice ..=>false
 | .buildSlice ..=>!Jg c
 | .call k=>match k.callee with
  | .builtin .append | .builtin .clear | .builtin .copy=>false
  | .builtin _=>true
  | _=>Rm c || (Rb c&&M6 c)
 | _=>true
def Ry (n:Nat) (o:Oper) (cur:A0):Bool:=
 match o.dst with
 | some d=>Nat.blt d n&&cur.all (λ g=>!(Nat.beq g.1 d))
 | none=>cur.isEmpty
def Lf (P : Program) (L : List Ent) (cur : A0) (R : List Res) (c : Cl) (i : Nat) (o : Oper) : Option Out :=
 match o.op with
 | .makeSlice t l k=>match c,R[i]? with
  | .fltm _ c0 _ _,some r'=>match Ey l k,Fa P [] c0 t ((Al L cur l).bind Aw) with
   | true,some out=>match out.R,out.c with
    | [r1],some c1=>some ⟨.d (.os i),R,some (.fltm i c1 r1 r')⟩
    | _,_=>none
   | _,_=>none
  | _,_=>none
 | .alloc t=>match (Bn P t).bind λ z=>B6 z.cells.toList,R[i]? with
  | some cells,some r'=>some ⟨.d (.o i 0),R,some (.flt i (.box t cells) r')⟩
  | _,_=>none
 | _=>none
def Hr (o:Oper) (c:Cl):Option Nat:=
 match o.op with
 | .alloc _=>match c with
  | .flt i _ _=>some i
  | _=>none
 | .makeSlice ..=>match c with
  | .fltm i _ _ _=>some i
  | _=>none
 | _=>none
def Rx (P:Program) (L:List Ent) (cur:A0) (R:List Res) (c:Cl) (o:Oper):Option Out:=
 match Hr o c with
 | some i=>Lf P L cur R c i o
 | none=>D1 P L cur R c o
def Ia (P : Program) (n : Nat) (ops : Array Oper) : List Nat -> List Ent -> List Res -> List Cl -> Option (List Rec × List Ent × List Res × List Cl)
 | [],L,R,_=>some ([],L,R,[])
 | i :: is, L, R, cls => match ops[i]? with
  | none=>none
  | some o=>
   let need:=El L (Jc ops o)
   match E9 ops need o with
   | none=>none
   | some cur=>
    let c:=cls.headD .nop
    match Rx P need cur R (Cm c) o,Cn need cur with
    | some out,some cs=>
     let L':=match o.dst with | some d=>Ic L d cur out.v | none=>L
     bif Ry n o cur&&F_ need cur (isR c) (Cm c) o then
      match out.c with
      | some x=>match Ia P n ops is L' out.R cls.tail with
       | some (rs,L2,R2,ks)=>some (⟨i,o,need,cur,cs,Cm c,R,out,(Hr o (Cm c)).isNone && !Cq (Cm c) o,isR c,Hr o (Cm c)⟩::rs,L2,R2,Eg cur (isR c) cs x::ks)
       | none=>none
      | none=>match Ia P n ops is L' out.R cls with
       | some (rs,L2,R2,ks)=>some (⟨i,o,need,cur,cs,Cm c,R,out,(Hr o (Cm c)).isNone && !Cq (Cm c) o,isR c,Hr o (Cm c)⟩::rs,L2,R2,ks)
       | none=>none
     else none
    | _,_=>none
def Ij:List Nat->Nat->Bool
 | [],_=>false
 | a::r,t=>Nat.beq a t || Ij r t
def orE (l:List Nat):List Edge->Nat->Nat
 | [],m=>m
 | e::r,m=>orE l r (bif Region.binds .any e&&Nat.blt e.on l.length then Nat.lor m (Nat.lor (Nat.shiftLeft 1 e.on) ((l[e.on]?).getD 0)) else m)
def Gc (ops:Array Oper):Nat->List Nat
 | 0=>[]
 | j+1=>
  let l:=Gc ops j
  l++[match ops[j]? with
   | some o=>orE l o.after.toList 0
   | none=>0]
def Oh (m i:Nat):Bool:=Nat.beq (Nat.land (Nat.shiftRight m i) 1) 1
def Av:List Ent->List Nat
 | []=>[]
 | e::r=>match e.v with
  | .d (.o i _)=>i::Av r
  | .d (.os i)=>i::Av r
  | .d (.oe i _ _ _)=>i::Av r
  | .d (.osb i _ _ _)=>i::Av r
  | .d (.oi i g _ _ _)=>i::g::Av r
  | _=>Av r
def G1 (R:List Res):List Nat->List Nat
 | []=>[]
 | i::r=>match R[i]? with
  | some (.dsl _ _ g)=>g::G1 R r
  | _=>G1 R r
def deepen (R:List Res) (l:List Nat):List Nat:=l++G1 R l
def Ew (o:Op) (L:List Ent):List Nat:=
 match o with
 | .move _ | .assign _ | .nilCheck _ | .fieldAddr .. | .extract .. | .pick .. | .build .. | .binOp .. | .unOp ..=>[]
 | _=>Av L
def L3:List D->List Nat
 | []=>[]
 | .os j::r=>j::L3 r
 | _::r=>L3 r
mutual
def D.touchV (R:List Res):D->List Nat
 | .os i=>[i]
 | .osb i _ _ _=>[i]
 | .oi _ g _ _ _=>[g]
 | .o i _=>i::(match R[i]? with
  | some (.box _ cells)=>L3 cells
  | _=>[])
 | .fn _ a b=>b9 R a++b9 R b
 | _=>[]
def b9 (R:List Res):List D->List Nat
 | []=>[]
 | d::r=>D.touchV R d++b9 R r
end
def AV.touchV (R:List Res):AV->List Nat
 | .d x=>x.touchV R
 | .agg ds=>b9 R ds
 | .tup _=>[]
def touchV (R:List Res):List Ent->List Nat
 | []=>[]
 | e::r=>e.v.touchV R++touchV R r
def U9 (c:Cl) (R:List Res) (L:List Ent):List Nat:=bif Rm c then touchV R L else []
def Fv (r:Rec):List Nat:=
 match r.fl with
 | some i=>[i]
 | none=>deepen r.Rin (Ew r.o.op r.need)++U9 r.c r.Rin r.need
def Bb (r:Rec):List Nat:=
 match r.o.op with
 | .store _ a _=>match Al r.need r.cur a with
  | some (.d (.o i _))=>[i]
  | some (.d (.oe i _ _ _))=>i::(deepen r.Rin (Av r.need)++touchV r.Rin r.need)
  | _=>[]
 | .call k=>match k.callee with
  | .value _=>match r.c with
   | .call _ _ _ _ _ pi=>pi
   | _=>[]
  | .builtin .append | .builtin .clear | .builtin .copy=>Av r.need
  | _=>[]
 | _=>[]
def clear (need:List Ent) (d:Nat):Bool:=need.all λ e=>!(Nat.beq e.t d)&&e.p.all λ g=>!(Nat.beq g.1 d)
def Gy (r q:Rec):Bool:=
 (!r.eff || !q.eff) &&
 (match r.o.dst with | some d=>clear q.need d && !(q.cur.any λ g=>Nat.beq g.1 d)&&(match q.o.dst with | some d'=>!(Nat.beq d d') | none=>true) | none=>true) &&
 (match q.o.dst with | some d=>clear r.need d | none=>true) &&
 (!r.eff || (Fv q).all λ i=>!(Ij (Bb r) i)&&Nat.blt i r.Rin.length) &&
 (!q.eff || (Fv r).all λ i=>!(Ij (Bb q) i)&&Nat.blt i q.Rin.length)
def D6:List Rec->List Nat
 | []=>[]
 | r::rs=>match r.fl with
  | some i=>i::D6 rs
  | none=>D6 rs
def Ip (lo hi:Nat) (rs:List Rec):Bool:=B9 (D6 rs)&&(D6 rs).all λ i=>Nat.ble lo i&&Nat.blt i hi
def Hw (ops:Array Oper) (L0:List Ent) (rs:List Rec):Bool:=
 let cl:=Gc ops ops.size
 L0.all (λ e=>e.p.isEmpty) &&
 (rs.all λ r=>r.o.after.all λ e=>!(Region.binds .any e) || Nat.blt e.on r.i) &&
 rs.all λ r=>rs.all λ q=>Nat.ble q.i r.i || (Oh ((cl[q.i]?).getD 0) r.i || Gy r q)
end Go.SL
