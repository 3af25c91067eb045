import Derived.Test.YtaplakgdkkmpfaaGreatDoorSlN
namespace Go.SL
structure Rec where
 i:Nat
 o:Oper
 need:List Ent
 cur:A8
 cs:List (Bool×Bool)
 c:Cl
 Rin:List Res
 out:Out
 eff:Bool
 r:Bool
 fl:Option Nat
def Km (ops:Array Oper) (o:Oper):List Nat:=
  (o.op.operands.toList.filterMap fun | .tmp t=>some t | _=>none) ++
  (match o.guard with
   | none=>[]
   | some (j,_)=>match (ops[j]?).bind (·.dst) with
     | some t=>[t]
     | none=>[])
def E6 (L:List Ent):List Nat->List Ent
 | []=>[]
 | t::r=>match C2 L t with
  | some e=>e::(e.p.filterMap λ g=>C2 L g.1)++E6 L r
  | none=>E6 L r
def Pq:Cl->Bool
 | .call _ _ _ res _ _=>(res.ren λ _=>none).isSome
 | _=>false
def U0:Cl->Bool
 | .callB ..=>true
 | _=>false
def C3 (c:Cl) (o:Oper):Bool:=
 match o.op with
 | .box .. | .alloc _ | .store .. | .makeSlice ..=>false
 | .buildSlice ..=>!Kr c
 | .call k=>match k.callee with
  | .builtin .append | .builtin .clear | .builtin .copy=>false
  | .builtin _=>true
  | _=>U0 c || (Us c&&Pq c)
 | _=>true
def U9 (n:Nat) (o:Oper) (cur:A8):Bool:=
 match o.dst with
 | some d=>Nat.blt d n&&cur.all (λ g=>!(Nat.beq g.1 d))
 | none=>cur.isEmpty
def Ng (P : Program) (L : List Ent) (cur : A8) (R : List Res) (c : Cl) (i : Nat) (o : Oper) : Option Out :=
 match o.op with
 | .makeSlice t l k=>match c,R[i]? with
  | .fltm _ c0 _ _,some r'=>match Fj l k,F4 P [] c0 t ((Aq L cur l).bind A5) with
   | true,some out=>match out.R,out.c with
    | [r1],some c1=>some ⟨.d (.os i),R,some (.fltm i c1 r1 r')⟩
    | _,_=>none
   | _,_=>none
  | _,_=>none
 | .alloc t=>match (Bw P t).bind λ z=>Cc z.cells.toList,R[i]? with
  | some cells,some r'=>some ⟨.d (.o i 0),R,some (.flt i (.box t cells) r')⟩
  | _,_=>none
 | _=>none
def Ix (o:Oper) (c:Cl):Option Nat:=
 match o.op with
 | .alloc _=>match c with
  | .flt i _ _=>some i
  | _=>none
 | .makeSlice ..=>match c with
  | .fltm i _ _ _=>some i
  | _=>none
 | _=>none
def U8 (P:Program) (L:List Ent) (cur:A8) (R:List Res) (c:Cl) (o:Oper):Option Out:=
 match Ix o c with
 | some i=>Ng P L cur R c i o
 | none=>Eh P L cur R c o
def Ji (P : Program) (n : Nat) (ops : Array Oper) : List Nat -> List Ent -> List Res -> List Cl -> Option (List Rec × List Ent × List Res × List Cl)
 | [],L,R,_=>some ([],L,R,[])
 | i :: is, L, R, cls => match ops[i]? with
  | none=>none
  | some o=>
   let need:=E6 L (Km ops o)
   match F1 ops need o with
   | none=>none
   | some cur=>
    let c:=cls.headD .nop
    match U8 P need cur R (Cw c) o,Cx need cur with
    | some out,some cs=>
     let L':=match o.dst with | some d=>Jk L d cur out.v | none=>L
     bif U9 n o cur&&G5 need cur (isR c) (Cw c) o then
      match out.c with
      | some x=>match Ji P n ops is L' out.R cls.tail with
       | some (rs,L2,R2,ks)=>some (⟨i,o,need,cur,cs,Cw c,R,out,(Ix o (Cw c)).isNone && !C3 (Cw c) o,isR c,Ix o (Cw c)⟩::rs,L2,R2,E0 cur (isR c) cs x::ks)
       | none=>none
      | none=>match Ji P n ops is L' out.R cls with
       | some (rs,L2,R2,ks)=>some (⟨i,o,need,cur,cs,Cw c,R,out,(Ix o (Cw c)).isNone && !C3 (Cw c) o,isR c,Ix o (Cw c)⟩::rs,L2,R2,ks)
       | none=>none
     else none
    | _,_=>none
def Jp:List Nat->Nat->Bool
 | [],_=>false
 | a::r,t=>Nat.beq a t || Jp r t
def orE (l:List Nat):List Edge->Nat->Nat
 | [],m=>m
 | e::r,m=>orE l r (bif Region.binds .any e&&Nat.blt e.on l.length then Nat.lor m (Nat.lor (Nat.shiftLeft 1 e.on) ((l[e.on]?).getD 0)) else m)
def G8 (ops:Array Oper):Nat->List Nat
 | 0=>[]
 | j+1=>
  let l:=G8 ops j
  l++[match ops[j]? with
   | some o=>orE l o.after.toList 0
   | none=>0]
def Ra (m i:Nat):Bool:=Nat.beq (Nat.land (Nat.shiftRight m i) 1) 1
def A3:List Ent->List Nat
 | []=>[]
 | e::r=>match e.v with
  | .d (.o i _)=>i::A3 r
  | .d (.os i)=>i::A3 r
  | .d (.oe i _ _ _)=>i::A3 r
  | .d (.osb i _ _ _)=>i::A3 r
  | .d (.oi i g _ _ _)=>i::g::A3 r
  | _=>A3 r
def H2 (R:List Res):List Nat->List Nat
 | []=>[]
 | i::r=>match R[i]? with
  | some (.dsl _ _ g)=>g::H2 R r
  | _=>H2 R r
def deepen (R:List Res) (l:List Nat):List Nat:=l++H2 R l
def Fi (o:Op) (L:List Ent):List Nat:=
 match o with
 | .move _ | .assign _ | .nilCheck _ | .fieldAddr .. | .extract .. | .pick .. | .build .. | .binOp .. | .unOp ..=>[]
 | _=>A3 L
def N5:List D->List Nat
 | []=>[]
 | .os j::r=>j::N5 r
 | _::r=>N5 r
mutual
def D.touchV (R:List Res):D->List Nat
 | .os i=>[i]
 | .osb i _ _ _=>[i]
 | .oi _ g _ _ _=>[g]
 | .o i _=>i::(match R[i]? with
  | some (.box _ cells)=>N5 cells
  | _=>[])
 | .fn _ a b=>b9 R a++b9 R b
 | _=>[]
def b9 (R:List Res):List D->List Nat
 | []=>[]
 | d::r=>D.touchV R d++b9 R r
end
def AV.touchV (R:List Res):AV->List Nat
 | .d x=>x.touchV R
 | .agg ds=>b9 R ds
 | .tup _=>[]
def touchV (R:List Res):List Ent->List Nat
 | []=>[]
 | e::r=>e.v.touchV R++touchV R r
def Y7 (c:Cl) (R:List Res) (L:List Ent):List Nat:=bif U0 c then touchV R L else []
def Gu (r:Rec):List Nat:=
 match r.fl with
 | some i=>[i]
 | none=>deepen r.Rin (Fi r.o.op r.need)++Y7 r.c r.Rin r.need
def Bg (r:Rec):List Nat:=
 match r.o.op with
 | .store _ a _=>match Aq r.need r.cur a with
  | some (.d (.o i _))=>[i]
  | some (.d (.oe i _ _ _))=>i::(deepen r.Rin (A3 r.need)++touchV r.Rin r.need)
  | _=>[]
 | .call k=>match k.callee with
  | .value _=>match r.c with
   | .call _ _ _ _ _ pi=>pi
   | _=>[]
  | .builtin .append | .builtin .clear | .builtin .copy=>A3 r.need
  | _=>[]
 | _=>[]
def clear (need:List Ent) (d:Nat):Bool:=need.all λ e=>!(Nat.beq e.t d)&&e.p.all λ g=>!(Nat.beq g.1 d)
def H0 (r q:Rec):Bool:=
 (!r.eff || !q.eff) &&
 (match r.o.dst with | some d=>clear q.need d && !(q.cur.any λ g=>Nat.beq g.1 d)&&(match q.o.dst with | some d'=>!(Nat.beq d d') | none=>true) | none=>true) &&
 (match q.o.dst with | some d=>clear r.need d | none=>true) &&
 (!r.eff || (Gu q).all λ i=>!(Jp (Bg r) i)&&Nat.blt i r.Rin.length) &&
 (!q.eff || (Gu r).all λ i=>!(Jp (Bg q) i)&&Nat.blt i q.Rin.length)
def Eo:List Rec->List Nat
 | []=>[]
 | r::rs=>match r.fl with
  | some i=>i::Eo rs
  | none=>Eo rs
def Ju (lo hi:Nat) (rs:List Rec):Bool:=Cg (Eo rs)&&(Eo rs).all λ i=>Nat.ble lo i&&Nat.blt i hi
def I4 (ops:Array Oper) (L0:List Ent) (rs:List Rec):Bool:=
 let cl:=G8 ops ops.size
 L0.all (λ e=>e.p.isEmpty) &&
 (rs.all λ r=>r.o.after.all λ e=>!(Region.binds .any e) || Nat.blt e.on r.i) &&
 rs.all λ r=>rs.all λ q=>Nat.ble q.i r.i || (Ra ((cl[q.i]?).getD 0) r.i || H0 r q)
end Go.SL
