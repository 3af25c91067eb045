import Derived.Test.YtpdbkiafikdgpaaGreatDoorSlN
namespace Go.SL
structure Rec where
 i:Nat
 o:Oper
 need:List Ent
 cur:B0
 cs:List (Bool×Bool)
 c:Cl
 Rin:List Res
 out:Out
 eff:Bool
 r:Bool
 fl:Option Nat
def Mu (ops:Array Oper) (o:Oper):List Nat:=
  (o.op.operands.toList.filterMap fun | .tmp t=>some t | _=>none) ++
  (match o.guard with
   | none=>[]
   | some (j,_)=>match (ops[j]?).bind (·.dst) with
     | some t=>[t]
     | none=>[])
def F4 (L:List Ent):List Nat->List Ent
 | []=>[]
 | t::r=>match Df L t with
  | some e=>e::(e.p.filterMap λ g=>Df L g.1)++F4 L r
  | none=>F4 L r
def Un:Cl->Bool
 | .call _ _ _ res _ _=>(res.ren λ _=>none).isSome
 | _=>false
def Aa3:Cl->Bool
 | .callB ..=>true
 | _=>false
def D0 (c:Cl) (o:Oper):Bool:=
 match o.op with
 | .box .. | .alloc _ | .store .. | .makeSlice ..=>false
 | .buildSlice ..=>!M4 c
 | .call k=>match k.callee with
  | .builtin .append | .builtin .clear | .builtin .copy=>false
  | .builtin _=>true
  | _=>Aa3 c || (Aar c&&Un c)
 | _=>true
def Abe (n:Nat) (o:Oper) (cur:B0):Bool:=
 match o.dst with
 | some d=>Nat.blt d n&&cur.all (λ g=>!(Nat.beq g.1 d))
 | none=>cur.isEmpty
def Qd (P : Program) (L : List Ent) (cur : B0) (R : List Res) (c : Cl) (i : Nat) (o : Oper) : Option Out :=
 match o.op with
 | .makeSlice t l k=>match c,R[i]? with
  | .fltm _ c0 _ _,some r'=>match Gi l k,G1 P [] c0 t ((Bl L cur l).bind B3) with
   | true,some out=>match out.R,out.c with
    | [r1],some c1=>some ⟨.d (.os i),R,some (.fltm i c1 r1 r')⟩
    | _,_=>none
   | _,_=>none
  | _,_=>none
 | .alloc t=>match (Ct P t).bind λ z=>Da z.cells.toList,R[i]? with
  | some cells,some r'=>some ⟨.d (.o i 0),R,some (.flt i (.box t cells) r')⟩
  | _,_=>none
 | _=>none
def Kb (o:Oper) (c:Cl):Option Nat:=
 match o.op with
 | .alloc _=>match c with
  | .flt i _ _=>some i
  | _=>none
 | .makeSlice ..=>match c with
  | .fltm i _ _ _=>some i
  | _=>none
 | _=>none
def Abc (P:Program) (L:List Ent) (cur:B0) (R:List Res) (c:Cl) (o:Oper):Option Out:=
 match Kb o c with
 | some i=>Qd P L cur R c i o
 | none=>Fc P L cur R c o
def Lg (P : Program) (n : Nat) (ops : Array Oper) : List Nat -> List Ent -> List Res -> List Cl -> Option (List Rec × List Ent × List Res × List Cl)
 | [],L,R,_=>some ([],L,R,[])
 | i :: is, L, R, cls => match ops[i]? with
  | none=>none
  | some o=>
   let need:=F4 L (Mu ops o)
   match Gy ops need o with
   | none=>none
   | some cur=>
    let c:=cls.headD .nop
    match Abc P need cur R (Dw c) o,Dy need cur with
    | some out,some cs=>
     let L':=match o.dst with | some d=>Lk L d cur out.v | none=>L
     bif Abe n o cur&&H6 need cur (isR c) (Dw c) o then
      match out.c with
      | some x=>match Lg P n ops is L' out.R cls.tail with
       | some (rs,L2,R2,ks)=>some (⟨i,o,need,cur,cs,Dw c,R,out,(Kb o (Dw c)).isNone && !D0 (Dw c) o,isR c,Kb o (Dw c)⟩::rs,L2,R2,Fx cur (isR c) cs x::ks)
       | none=>none
      | none=>match Lg P n ops is L' out.R cls with
       | some (rs,L2,R2,ks)=>some (⟨i,o,need,cur,cs,Dw c,R,out,(Kb o (Dw c)).isNone && !D0 (Dw c) o,isR c,Kb o (Dw c)⟩::rs,L2,R2,ks)
       | none=>none
     else none
    | _,_=>none
def Lp:List Nat->Nat->Bool
 | [],_=>false
 | a::r,t=>Nat.beq a t || Lp r t
def orE (l:List Nat):List Edge->Nat->Nat
 | [],m=>m
 | e::r,m=>orE l r (bif Region.binds .any e&&Nat.blt e.on l.length then Nat.lor m (Nat.lor (Nat.shiftLeft 1 e.on) ((l[e.on]?).getD 0)) else m)
def Ia (ops:Array Oper):Nat->List Nat
 | 0=>[]
 | j+1=>
  let l:=Ia ops j
  l++[match ops[j]? with
   | some o=>orE l o.after.toList 0
   | none=>0]
def Yh (m i:Nat):Bool:=Nat.beq (Nat.land (Nat.shiftRight m i) 1) 1
def Bx:List Ent->List Nat
 | []=>[]
 | e::r=>match e.v with
  | .d (.o i _)=>i::Bx r
  | .d (.os i)=>i::Bx r
  | .d (.oe i _ _ _)=>i::Bx r
  | .d (.osb i _ _ _)=>i::Bx r
  | .d (.oi i g _ _ _)=>i::g::Bx r
  | _=>Bx r
def Jf (R:List Res):List Nat->List Nat
 | []=>[]
 | i::r=>match R[i]? with
  | some (.dsl _ _ g)=>g::Jf R r
  | _=>Jf R r
def deepen (R:List Res) (l:List Nat):List Nat:=l++Jf R l
def Gg (o:Op) (L:List Ent):List Nat:=
 match o with
 | .move _ | .assign _ | .nilCheck _ | .fieldAddr .. | .extract .. | .pick .. | .build .. | .binOp .. | .unOp ..=>[]
 | _=>Bx L
def R_:List D->List Nat
 | []=>[]
 | .os j::r=>j::R_ r
 | _::r=>R_ r
mutual
def D.touchV (R:List Res):D->List Nat
 | .os i=>[i]
 | .osb i _ _ _=>[i]
 | .oi _ g _ _ _=>[g]
 | .o i _=>i::(match R[i]? with
  | some (.box _ cells)=>R_ cells
  | _=>[])
 | .fn _ a b=>ct R a++ct R b
 | _=>[]
def ct (R:List Res):List D->List Nat
 | []=>[]
 | d::r=>D.touchV R d++ct R r
end
def AV.touchV (R:List Res):AV->List Nat
 | .d x=>x.touchV R
 | .agg ds=>ct R ds
 | .tup _=>[]
def touchV (R:List Res):List Ent->List Nat
 | []=>[]
 | e::r=>e.v.touchV R++touchV R r
def Ajc (c:Cl) (R:List Res) (L:List Ent):List Nat:=bif Aa3 c then touchV R L else []
def Hq (r:Rec):List Nat:=
 match r.fl with
 | some i=>[i]
 | none=>deepen r.Rin (Gg r.o.op r.need)++Ajc r.c r.Rin r.need
def Ce (r:Rec):List Nat:=
 match r.o.op with
 | .store _ a _=>match Bl r.need r.cur a with
  | some (.d (.o i _))=>[i]
  | some (.d (.oe i _ _ _))=>i::(deepen r.Rin (Bx r.need)++touchV r.Rin r.need)
  | _=>[]
 | .call k=>match k.callee with
  | .value _=>match r.c with
   | .call _ _ _ _ _ pi=>pi
   | _=>[]
  | .builtin .append | .builtin .clear | .builtin .copy=>Bx r.need
  | _=>[]
 | _=>[]
def clear (need:List Ent) (d:Nat):Bool:=need.all λ e=>!(Nat.beq e.t d)&&e.p.all λ g=>!(Nat.beq g.1 d)
def I4 (r q:Rec):Bool:=
 (!r.eff || !q.eff) &&
 (match r.o.dst with | some d=>clear q.need d && !(q.cur.any λ g=>Nat.beq g.1 d)&&(match q.o.dst with | some d'=>!(Nat.beq d d') | none=>true) | none=>true) &&
 (match q.o.dst with | some d=>clear r.need d | none=>true) &&
 (!r.eff || (Hq q).all λ i=>!(Lp (Ce r) i)&&Nat.blt i r.Rin.length) &&
 (!q.eff || (Hq r).all λ i=>!(Lp (Ce q) i)&&Nat.blt i q.Rin.length)
def Fi:List Rec->List Nat
 | []=>[]
 | r::rs=>match r.fl with
  | some i=>i::Fi rs
  | none=>Fi rs
def L3 (lo hi:Nat) (rs:List Rec):Bool:=De (Fi rs)&&(Fi rs).all λ i=>Nat.ble lo i&&Nat.blt i hi
def Kg (ops:Array Oper) (L0:List Ent) (rs:List Rec):Bool:=
 let cl:=Ia ops ops.size
 L0.all (λ e=>e.p.isEmpty) &&
 (rs.all λ r=>r.o.after.all λ e=>!(Region.binds .any e) || Nat.blt e.on r.i) &&
 rs.all λ r=>rs.all λ q=>Nat.ble q.i r.i || (Yh ((cl[q.i]?).getD 0) r.i || I4 r q)
end Go.SL
