import Derived.Test.YtaplakgdkkmpfaaGreatDoorSlN
namespace Go.SL
structure Rec where
 i:Nat
 o:Oper
 need:List Ent
 cur:A6
 cs:List (Bool×Bool)
 c:Cl
 Rin:List Res
 out:Out
 eff:Bool
 r:Bool
 fl:Option Nat
def Ku (ops:Array Oper) (o:Oper):List Nat:=
  (o.op.operands.toList.filterMap fun | .tmp t=>some t | _=>none) ++
  (match o.guard with
   | none=>[]
   | some (j,_)=>match (ops[j]?).bind (·.dst) with
     | some t=>[t]
     | none=>[])
def Es (L:List Ent):List Nat->List Ent
 | []=>[]
 | t::r=>match Ct L t with
  | some e=>e::(e.p.filterMap λ g=>Ct L g.1)++Es L r
  | none=>Es L r
def Pe:Cl->Bool
 | .call _ _ _ res _ _=>(res.ren λ _=>none).isSome
 | _=>false
def Uh:Cl->Bool
 | .callB ..=>true
 | _=>false
def Ck (c:Cl) (o:Oper):Bool:=
 match o.op with
 | .box .. | .alloc _ | .store .. | .makeSlice ..=>false
 | .buildSlice ..=>!Ky c
 | .convert ..=>!isZ c
 | .call k=>match k.callee with
  | .builtin .append | .builtin .clear | .builtin .copy=>false
  | .builtin _=>true
  | _=>Uh c || (T9 c&&Pe c)
 | _=>true
def Uu (n:Nat) (o:Oper) (cur:A6):Bool:=
 match o.dst with
 | some d=>Nat.blt d n&&cur.all (λ g=>!(Nat.beq g.1 d))
 | none=>cur.isEmpty
def Nc (P : Program) (L : List Ent) (cur : A6) (R : List Res) (c : Cl) (i : Nat) (o : Oper) : Option Out :=
 match o.op with
 | .makeSlice t l k=>match c,R[i]? with
  | .fltm _ c0 _ _,some r'=>match E5 l k,Fo P [] c0 t ((Am L cur l).bind A0) with
   | true,some out=>match out.R,out.c with
    | [r1],some c1=>some ⟨.d (.os i),R,some (.fltm i c1 r1 r')⟩
    | _,_=>none
   | _,_=>none
  | _,_=>none
 | .alloc t=>match (By P t).bind λ z=>Cc z.cells.toList,R[i]? with
  | some cells,some r'=>some ⟨.d (.o i 0),R,some (.flt i (.box t cells) r')⟩
  | _,_=>none
 | _=>none
def I3 (o:Oper) (c:Cl):Option Nat:=
 match o.op with
 | .alloc _=>match c with
  | .flt i _ _=>some i
  | _=>none
 | .makeSlice ..=>match c with
  | .fltm i _ _ _=>some i
  | _=>none
 | _=>none
def Us (P:Program) (L:List Ent) (cur:A6) (R:List Res) (c:Cl) (o:Oper):Option Out:=
 match I3 o c with
 | some i=>Nc P L cur R c i o
 | none=>Dw P L cur R c o
def Jr (P : Program) (n : Nat) (ops : Array Oper) : List Nat -> List Ent -> List Res -> List Cl -> Option (List Rec × List Ent × List Res × List Cl)
 | [],L,R,_=>some ([],L,R,[])
 | i :: is, L, R, cls => match ops[i]? with
  | none=>none
  | some o=>
   let need:=Es L (Ku ops o)
   match Fj ops need o with
   | none=>none
   | some cur=>
    let c:=cls.headD .nop
    match Us P need cur R (Cp c) o,Cq need cur with
    | some out,some cs=>
     let L':=match o.dst with | some d=>Jt L d cur out.v | none=>L
     bif Uu n o cur&&Gv need cur (isR c) (Cp c) o then
      match out.c with
      | some x=>match Jr P n ops is L' out.R cls.tail with
       | some (rs,L2,R2,ks)=>some (⟨i,o,need,cur,cs,Cp c,R,out,(I3 o (Cp c)).isNone && !Ck (Cp c) o,isR c,I3 o (Cp c)⟩::rs,L2,R2,El cur (isR c) cs x::ks)
       | none=>none
      | none=>match Jr P n ops is L' out.R cls with
       | some (rs,L2,R2,ks)=>some (⟨i,o,need,cur,cs,Cp c,R,out,(I3 o (Cp c)).isNone && !Ck (Cp c) o,isR c,I3 o (Cp c)⟩::rs,L2,R2,ks)
       | none=>none
     else none
    | _,_=>none
def J0:List Nat->Nat->Bool
 | [],_=>false
 | a::r,t=>Nat.beq a t || J0 r t
def orE (l:List Nat):List Edge->Nat->Nat
 | [],m=>m
 | e::r,m=>orE l r (bif Region.binds .any e&&Nat.blt e.on l.length then Nat.lor m (Nat.lor (Nat.shiftLeft 1 e.on) ((l[e.on]?).getD 0)) else m)
def Gz (ops:Array Oper):Nat->List Nat
 | 0=>[]
 | j+1=>
  let l:=Gz ops j
  l++[match ops[j]? with
   | some o=>orE l o.after.toList 0
   | none=>0]
def Q0 (m i:Nat):Bool:=Nat.beq (Nat.land (Nat.shiftRight m i) 1) 1
def Ay:List Ent->List Nat
 | []=>[]
 | e::r=>match e.v with
  | .d (.o i _)=>i::Ay r
  | .d (.os i)=>i::Ay r
  | .d (.oe i _ _ _)=>i::Ay r
  | .d (.osb i _ _ _)=>i::Ay r
  | .d (.oi i g _ _ _)=>i::g::Ay r
  | _=>Ay r
def H2 (R:List Res):List Nat->List Nat
 | []=>[]
 | i::r=>match R[i]? with
  | some (.dsl _ _ g)=>g::H2 R r
  | _=>H2 R r
def deepen (R:List Res) (l:List Nat):List Nat:=l++H2 R l
def E4 (o:Op) (L:List Ent):List Nat:=
 match o with
 | .move _ | .assign _ | .nilCheck _ | .fieldAddr .. | .extract .. | .pick .. | .build .. | .binOp .. | .unOp ..=>[]
 | _=>Ay L
def N2:List D->List Nat
 | []=>[]
 | .os j::r=>j::N2 r
 | _::r=>N2 r
mutual
def D.touchV (R:List Res):D->List Nat
 | .os i=>[i]
 | .osb i _ _ _=>[i]
 | .oi _ g _ _ _=>[g]
 | .o i _=>i::(match R[i]? with
  | some (.box _ cells)=>N2 cells
  | _=>[])
 | .fn _ a b=>c6 R a++c6 R b
 | _=>[]
def c6 (R:List Res):List D->List Nat
 | []=>[]
 | d::r=>D.touchV R d++c6 R r
end
def AV.touchV (R:List Res):AV->List Nat
 | .d x=>x.touchV R
 | .agg ds=>c6 R ds
 | .tup _=>[]
def touchV (R:List Res):List Ent->List Nat
 | []=>[]
 | e::r=>e.v.touchV R++touchV R r
def Yr (c:Cl) (R:List Res) (L:List Ent):List Nat:=bif Uh c then touchV R L else []
def Gi (r:Rec):List Nat:=
 match r.fl with
 | some i=>[i]
 | none=>deepen r.Rin (E4 r.o.op r.need)++Yr r.c r.Rin r.need
def Bg (r:Rec):List Nat:=
 match r.o.op with
 | .store _ a _=>match Am r.need r.cur a with
  | some (.d (.o i _))=>[i]
  | some (.d (.oe i _ _ _))=>i::(deepen r.Rin (Ay r.need)++touchV r.Rin r.need)
  | _=>[]
 | .call k=>match k.callee with
  | .value _=>match r.c with
   | .call _ _ _ _ _ pi=>pi
   | _=>[]
  | .builtin .append | .builtin .clear | .builtin .copy=>Ay r.need
  | _=>[]
 | _=>[]
def clear (need:List Ent) (d:Nat):Bool:=need.all λ e=>!(Nat.beq e.t d)&&e.p.all λ g=>!(Nat.beq g.1 d)
def Hy (r q:Rec):Bool:=
 (!r.eff || !q.eff) &&
 (match r.o.dst with | some d=>clear q.need d && !(q.cur.any λ g=>Nat.beq g.1 d)&&(match q.o.dst with | some d'=>!(Nat.beq d d') | none=>true) | none=>true) &&
 (match q.o.dst with | some d=>clear r.need d | none=>true) &&
 (!r.eff || (Gi q).all λ i=>!(J0 (Bg r) i)&&Nat.blt i r.Rin.length) &&
 (!q.eff || (Gi r).all λ i=>!(J0 (Bg q) i)&&Nat.blt i q.Rin.length)
def D6:List Rec->List Nat
 | []=>[]
 | r::rs=>match r.fl with
  | some i=>i::D6 rs
  | none=>D6 rs
def J5 (lo hi:Nat) (rs:List Rec):Bool:=Cf (D6 rs)&&(D6 rs).all λ i=>Nat.ble lo i&&Nat.blt i hi
def Jd (ops:Array Oper) (L0:List Ent) (rs:List Rec):Bool:=
 let cl:=Gz ops ops.size
 L0.all (λ e=>e.p.isEmpty) &&
 (rs.all λ r=>r.o.after.all λ e=>!(Region.binds .any e) || Nat.blt e.on r.i) &&
 rs.all λ r=>rs.all λ q=>Nat.ble q.i r.i || (Q0 ((cl[q.i]?).getD 0) r.i || Hy r q)
end Go.SL
