import Derived.Test.YtaplakgdkkmpfaaDoorSlN
namespace Go.SL
structure Rec where
 i:Nat
 o:Oper
 need:List Ent
 cur:Az
 cs:List (Bool×Bool)
 c:Cl
 Rin:List Res
 out:Out
 eff:Bool
 r:Bool
 fl:Option Nat
def I7 (ops:Array Oper) (o:Oper):List Nat:=
  (o.op.operands.toList.filterMap fun | .tmp t=>some t | _=>none) ++
  (match o.guard with
   | none=>[]
   | some (j,_)=>match (ops[j]?).bind (·.dst) with
     | some t=>[t]
     | none=>[])
def D8 (L:List Ent):List Nat->List Ent
 | []=>[]
 | t::r=>match Cs L t with
  | some e=>e::(e.p.filterMap λ g=>Cs L g.1)++D8 L r
  | none=>D8 L r
def M5:Cl->Bool
 | .call _ _ _ res _ _=>(res.ren λ _=>none).isSome
 | _=>false
def Q0:Cl->Bool
 | .callB ..=>true
 | _=>false
def Ci (c:Cl) (o:Oper):Bool:=
 match o.op with
 | .box .. | .alloc _ | .store .. | .makeSlice ..=>false
 | .buildSlice ..=>!Ja c
 | .call k=>match k.callee with
  | .builtin .append | .builtin .clear | .builtin .copy=>false
  | .builtin _=>true
  | _=>Q0 c || (Qu c&&M5 c)
 | _=>true
def Ra (n:Nat) (o:Oper) (cur:Az):Bool:=
 match o.dst with
 | some d=>Nat.blt d n&&cur.all (λ g=>!(Nat.beq g.1 d))
 | none=>cur.isEmpty
def La (P : Program) (L : List Ent) (cur : Az) (R : List Res) (c : Cl) (i : Nat) (o : Oper) : Option Out :=
 match o.op with
 | .makeSlice t l k=>match c,R[i]? with
  | .fltm _ c0 _ _,some r'=>match Eh l k,Ey P [] c0 t ((Ak L cur l).bind Aw) with
   | true,some out=>match out.R,out.c with
    | [r1],some c1=>some ⟨.d (.os i),R,some (.fltm i c1 r1 r')⟩
    | _,_=>none
   | _,_=>none
  | _,_=>none
 | .alloc t=>match (Bh P t).bind λ z=>B0 z.cells.toList,R[i]? with
  | some cells,some r'=>some ⟨.d (.o i 0),R,some (.flt i (.box t cells) r')⟩
  | _,_=>none
 | _=>none
def Hl (o:Oper) (c:Cl):Option Nat:=
 match o.op with
 | .alloc _=>match c with
  | .flt i _ _=>some i
  | _=>none
 | .makeSlice ..=>match c with
  | .fltm i _ _ _=>some i
  | _=>none
 | _=>none
def Q_ (P:Program) (L:List Ent) (cur:Az) (R:List Res) (c:Cl) (o:Oper):Option Out:=
 match Hl o c with
 | some i=>La P L cur R c i o
 | none=>Dh P L cur R c o
def H8 (P : Program) (n : Nat) (ops : Array Oper) : List Nat -> List Ent -> List Res -> List Cl -> Option (List Rec × List Ent × List Res × List Cl)
 | [],L,R,_=>some ([],L,R,[])
 | i :: is, L, R, cls => match ops[i]? with
  | none=>none
  | some o=>
   let need:=D8 L (I7 ops o)
   match Ev ops need o with
   | none=>none
   | some cur=>
    let c:=cls.headD .nop
    match Q_ P need cur R (Cd c) o,Ce need cur with
    | some out,some cs=>
     let L':=match o.dst with | some d=>H_ L d cur out.v | none=>L
     bif Ra n o cur&&Fu need cur (isR c) (Cd c) o then
      match out.c with
      | some x=>match H8 P n ops is L' out.R cls.tail with
       | some (rs,L2,R2,ks)=>some (⟨i,o,need,cur,cs,Cd c,R,out,(Hl o (Cd c)).isNone && !Ci (Cd c) o,isR c,Hl o (Cd c)⟩::rs,L2,R2,D4 cur (isR c) cs x::ks)
       | none=>none
      | none=>match H8 P n ops is L' out.R cls with
       | some (rs,L2,R2,ks)=>some (⟨i,o,need,cur,cs,Cd c,R,out,(Hl o (Cd c)).isNone && !Ci (Cd c) o,isR c,Hl o (Cd c)⟩::rs,L2,R2,ks)
       | none=>none
     else none
    | _,_=>none
def Ih:List Nat->Nat->Bool
 | [],_=>false
 | a::r,t=>Nat.beq a t || Ih r t
def orE (l:List Nat):List Edge->Nat->Nat
 | [],m=>m
 | e::r,m=>orE l r (bif Region.binds .any e&&Nat.blt e.on l.length then Nat.lor m (Nat.lor (Nat.shiftLeft 1 e.on) ((l[e.on]?).getD 0)) else m)
def Fx (ops:Array Oper):Nat->List Nat
 | 0=>[]
 | j+1=>
  let l:=Fx ops j
  l++[match ops[j]? with
   | some o=>orE l o.after.toList 0
   | none=>0]
def N_ (m i:Nat):Bool:=Nat.beq (Nat.land (Nat.shiftRight m i) 1) 1
def Au:List Ent->List Nat
 | []=>[]
 | e::r=>match e.v with
  | .d (.o i _)=>i::Au r
  | .d (.os i)=>i::Au r
  | .d (.oe i _ _ _)=>i::Au r
  | .d (.osb i _ _ _)=>i::Au r
  | .d (.oi i g _ _ _)=>i::g::Au r
  | _=>Au r
def Gw (R:List Res):List Nat->List Nat
 | []=>[]
 | i::r=>match R[i]? with
  | some (.dsl _ _ g)=>g::Gw R r
  | _=>Gw R r
def deepen (R:List Res) (l:List Nat):List Nat:=l++Gw R l
def Eg (o:Op) (L:List Ent):List Nat:=
 match o with
 | .move _ | .assign _ | .nilCheck _ | .fieldAddr .. | .extract .. | .pick .. | .build .. | .binOp .. | .unOp ..=>[]
 | _=>Au L
def Lw:List D->List Nat
 | []=>[]
 | .os j::r=>j::Lw r
 | _::r=>Lw r
mutual
def D.touchV (R:List Res):D->List Nat
 | .os i=>[i]
 | .osb i _ _ _=>[i]
 | .oi _ g _ _ _=>[g]
 | .o i _=>i::(match R[i]? with
  | some (.box _ cells)=>Lw cells
  | _=>[])
 | .fn _ a b=>b9 R a++b9 R b
 | _=>[]
def b9 (R:List Res):List D->List Nat
 | []=>[]
 | d::r=>D.touchV R d++b9 R r
end
def AV.touchV (R:List Res):AV->List Nat
 | .d x=>x.touchV R
 | .agg ds=>b9 R ds
 | .tup _=>[]
def touchV (R:List Res):List Ent->List Nat
 | []=>[]
 | e::r=>e.v.touchV R++touchV R r
def Un (c:Cl) (R:List Res) (L:List Ent):List Nat:=bif Q0 c then touchV R L else []
def Ff (r:Rec):List Nat:=
 match r.fl with
 | some i=>[i]
 | none=>deepen r.Rin (Eg r.o.op r.need)++Un r.c r.Rin r.need
def A8 (r:Rec):List Nat:=
 match r.o.op with
 | .store _ a _=>match Ak r.need r.cur a with
  | some (.d (.o i _))=>[i]
  | some (.d (.oe i _ _ _))=>i::(deepen r.Rin (Au r.need)++touchV r.Rin r.need)
  | _=>[]
 | .call k=>match k.callee with
  | .value _=>match r.c with
   | .call _ _ _ _ _ pi=>pi
   | _=>[]
  | .builtin .append | .builtin .clear | .builtin .copy=>Au r.need
  | _=>[]
 | _=>[]
def clear (need:List Ent) (d:Nat):Bool:=need.all λ e=>!(Nat.beq e.t d)&&e.p.all λ g=>!(Nat.beq g.1 d)
def Gu (r q:Rec):Bool:=
 (!r.eff || !q.eff) &&
 (match r.o.dst with | some d=>clear q.need d && !(q.cur.any λ g=>Nat.beq g.1 d)&&(match q.o.dst with | some d'=>!(Nat.beq d d') | none=>true) | none=>true) &&
 (match q.o.dst with | some d=>clear r.need d | none=>true) &&
 (!r.eff || (Ff q).all λ i=>!(Ih (A8 r) i)&&Nat.blt i r.Rin.length) &&
 (!q.eff || (Ff r).all λ i=>!(Ih (A8 q) i)&&Nat.blt i q.Rin.length)
def Dp:List Rec->List Nat
 | []=>[]
 | r::rs=>match r.fl with
  | some i=>i::Dp rs
  | none=>Dp rs
def Io (lo hi:Nat) (rs:List Rec):Bool:=B3 (Dp rs)&&(Dp rs).all λ i=>Nat.ble lo i&&Nat.blt i hi
def Ht (ops:Array Oper) (L0:List Ent) (rs:List Rec):Bool:=
 let cl:=Fx ops ops.size
 L0.all (λ e=>e.p.isEmpty) &&
 (rs.all λ r=>r.o.after.all λ e=>!(Region.binds .any e) || Nat.blt e.on r.i) &&
 rs.all λ r=>rs.all λ q=>Nat.ble q.i r.i || (N_ ((cl[q.i]?).getD 0) r.i || Gu r q)
end Go.SL
