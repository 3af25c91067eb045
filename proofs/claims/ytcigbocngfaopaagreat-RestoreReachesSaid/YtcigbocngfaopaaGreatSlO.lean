import Derived.Test.YtcigbocngfaopaaGreatSlN
namespace Go.SL
structure Rec where
 i:Nat
 o:Oper
 need:List Ent
 cur:Cu
 cs:List (Bool×Bool)
 c:Cl
 Rin:List Res
 out:Out
 eff:Bool
 r:Bool
 fl:Option Nat
def Wr (ops:Array Oper) (o:Oper):List Nat:=
  (o.op.operands.toList.filterMap fun | .tmp t=>some t | _=>none) ++
  (match o.guard with
   | none=>[]
   | some (j,_)=>match (ops[j]?).bind (·.dst) with
     | some t=>[t]
     | none=>[])
def J9 (L:List Ent):List Nat->List Ent
 | []=>[]
 | t::r=>match E7 L t with
  | some e=>e::(e.p.filterMap λ g=>E7 L g.1)++J9 L r
  | none=>J9 L r
def Acw:Cl->Bool
 | .call _ _ _ res _ _=>(res.ren λ _=>none).isSome
 | _=>false
def Apf:Cl->Bool
 | .callB ..=>true
 | _=>false
def Ga (c:Cl) (o:Oper):Bool:=
 match o.op with
 | .box .. | .alloc _ | .store .. | .makeSlice ..=>false
 | .buildSlice ..=>!W9 c
 | .call k=>match k.callee with
  | .builtin .append | .builtin .clear | .builtin .copy=>false
  | .builtin _=>true
  | _=>Apf c || (Ao0 c&&Acw c)
 | _=>true
def Apr (n:Nat) (o:Oper) (cur:Cu):Bool:=
 match o.dst with
 | some d=>Nat.blt d n&&cur.all (λ g=>!(Nat.beq g.1 d))
 | none=>cur.isEmpty
def uD (P : Program) (L : List Ent) (cur : Cu) (R : List Res) (c : Cl) (i : Nat) (o : Oper) : Option Out :=
 match o.op with
 | .makeSlice t l k=>match c,R[i]? with
  | .fltm _ c0 _ _,some r'=>match Kt l k,L8 P [] c0 t ((Bw L cur l).bind C6) with
   | true,some out=>match out.R,out.c with
    | [r1],some c1=>some ⟨.d (.os i),R,some (.fltm i c1 r1 r')⟩
    | _,_=>none
   | _,_=>none
  | _,_=>none
 | .alloc t=>match (Ec P t).bind λ z=>Fa z.cells.toList,R[i]? with
  | some cells,some r'=>some ⟨.d (.o i 0),R,some (.flt i (.box t cells) r')⟩
  | _,_=>none
 | _=>none
def So (o:Oper) (c:Cl):Option Nat:=
 match o.op with
 | .alloc _=>match c with
  | .flt i _ _=>some i
  | _=>none
 | .makeSlice ..=>match c with
  | .fltm i _ _ _=>some i
  | _=>none
 | _=>none
def App (P:Program) (L:List Ent) (cur:Cu) (R:List Res) (c:Cl) (o:Oper):Option Out:=
 match So o c with
 | some i=>uD P L cur R c i o
 | none=>I7 P L cur R c o
def Ut (P : Program) (n : Nat) (ops : Array Oper) : List Nat -> List Ent -> List Res -> List Cl -> Option (List Rec × List Ent × List Res × List Cl)
 | [],L,R,_=>some ([],L,R,[])
 | i :: is, L, R, cls => match ops[i]? with
  | none=>none
  | some o=>
   let need:=J9 L (Wr ops o)
   match L6 ops need o with
   | none=>none
   | some cur=>
    let c:=cls.headD .nop
    match App P need cur R (Fz c) o,F0 need cur with
    | some out,some cs=>
     let L':=match o.dst with | some d=>Uv L d cur out.v | none=>L
     bif Apr n o cur&&N5 need cur (isR c) (Fz c) o then
      match out.c with
      | some x=>match Ut P n ops is L' out.R cls.tail with
       | some (rs,L2,R2,ks)=>some (⟨i,o,need,cur,cs,Fz c,R,out,(So o (Fz c)).isNone && !Ga (Fz c) o,isR c,So o (Fz c)⟩::rs,L2,R2,J3 cur (isR c) cs x::ks)
       | none=>none
      | none=>match Ut P n ops is L' out.R cls with
       | some (rs,L2,R2,ks)=>some (⟨i,o,need,cur,cs,Fz c,R,out,(So o (Fz c)).isNone && !Ga (Fz c) o,isR c,So o (Fz c)⟩::rs,L2,R2,ks)
       | none=>none
     else none
    | _,_=>none
def Pr:List Nat->Nat->Bool
 | [],_=>false
 | a::r,t=>Nat.beq a t || Pr r t
def orE (l:List Nat):List Edge->Nat->Nat
 | [],m=>m
 | e::r,m=>orE l r (bif Region.binds .any e&&Nat.blt e.on l.length then Nat.lor m (Nat.lor (Nat.shiftLeft 1 e.on) ((l[e.on]?).getD 0)) else m)
def N_ (ops:Array Oper):Nat->List Nat
 | 0=>[]
 | j+1=>
  let l:=N_ ops j
  l++[match ops[j]? with
   | some o=>orE l o.after.toList 0
   | none=>0]
def Aho (m i:Nat):Bool:=Nat.beq (Nat.land (Nat.shiftRight m i) 1) 1
def Cj:List Ent->List Nat
 | []=>[]
 | e::r=>match e.v with
  | .d (.o i _)=>i::Cj r
  | .d (.os i)=>i::Cj r
  | .d (.oe i _ _ _)=>i::Cj r
  | .d (.osb i _ _ _)=>i::Cj r
  | .d (.oi i g _ _ _)=>i::g::Cj r
  | _=>Cj r
def Qp (R:List Res):List Nat->List Nat
 | []=>[]
 | i::r=>match R[i]? with
  | some (.dsl _ _ g)=>g::Qp R r
  | _=>Qp R r
def deepen (R:List Res) (l:List Nat):List Nat:=l++Qp R l
def Kq (o:Op) (L:List Ent):List Nat:=
 match o with
 | .move _ | .assign _ | .nilCheck _ | .fieldAddr .. | .extract .. | .pick .. | .build .. | .binOp .. | .unOp ..=>[]
 | _=>Cj L
def yZ:List D->List Nat
 | []=>[]
 | .os j::r=>j::yZ r
 | _::r=>yZ r
mutual
def D.touchV (R:List Res):D->List Nat
 | .os i=>[i]
 | .osb i _ _ _=>[i]
 | .oi _ g _ _ _=>[g]
 | .o i _=>i::(match R[i]? with
  | some (.box _ cells)=>yZ cells
  | _=>[])
 | .fn _ a b=>cY R a++cY R b
 | _=>[]
def cY (R:List Res):List D->List Nat
 | []=>[]
 | d::r=>D.touchV R d++cY R r
end
def AV.touchV (R:List Res):AV->List Nat
 | .d x=>x.touchV R
 | .agg ds=>cY R ds
 | .tup _=>[]
def touchV (R:List Res):List Ent->List Nat
 | []=>[]
 | e::r=>e.v.touchV R++touchV R r
def Ay7 (c:Cl) (R:List Res) (L:List Ent):List Nat:=bif Apf c then touchV R L else []
def Nk (r:Rec):List Nat:=
 match r.fl with
 | some i=>[i]
 | none=>deepen r.Rin (Kq r.o.op r.need)++Ay7 r.c r.Rin r.need
def Dp (r:Rec):List Nat:=
 match r.o.op with
 | .store _ a _=>match Bw r.need r.cur a with
  | some (.d (.o i _))=>[i]
  | some (.d (.oe i _ _ _))=>i::(deepen r.Rin (Cj r.need)++touchV r.Rin r.need)
  | _=>[]
 | .call k=>match k.callee with
  | .value _=>match r.c with
   | .call _ _ _ _ _ pi=>pi
   | _=>[]
  | .builtin .append | .builtin .clear | .builtin .copy=>Cj r.need
  | _=>[]
 | _=>[]
def clear (need:List Ent) (d:Nat):Bool:=need.all λ e=>!(Nat.beq e.t d)&&e.p.all λ g=>!(Nat.beq g.1 d)
def Qb (r q:Rec):Bool:=
 (!r.eff || !q.eff) &&
 (match r.o.dst with | some d=>clear q.need d && !(q.cur.any λ g=>Nat.beq g.1 d)&&(match q.o.dst with | some d'=>!(Nat.beq d d') | none=>true) | none=>true) &&
 (match q.o.dst with | some d=>clear r.need d | none=>true) &&
 (!r.eff || (Nk q).all λ i=>!(Pr (Dp r) i)&&Nat.blt i r.Rin.length) &&
 (!q.eff || (Nk r).all λ i=>!(Pr (Dp q) i)&&Nat.blt i q.Rin.length)
def Jh:List Rec->List Nat
 | []=>[]
 | r::rs=>match r.fl with
  | some i=>i::Jh rs
  | none=>Jh rs
def Vb (lo hi:Nat) (rs:List Rec):Bool:=Fj (Jh rs)&&(Jh rs).all λ i=>Nat.ble lo i&&Nat.blt i hi
def S3 (ops:Array Oper) (L0:List Ent) (rs:List Rec):Bool:=
 let cl:=N_ ops ops.size
 L0.all (λ e=>e.p.isEmpty) &&
 (rs.all λ r=>r.o.after.all λ e=>!(Region.binds .any e) || Nat.blt e.on r.i) &&
 rs.all λ r=>rs.all λ q=>Nat.ble q.i r.i || (Aho ((cl[q.i]?).getD 0) r.i || Qb r q)
end Go.SL
