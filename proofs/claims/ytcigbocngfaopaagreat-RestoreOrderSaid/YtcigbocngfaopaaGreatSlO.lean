import Derived.Test.YtcigbocngfaopaaGreatSlN
namespace Go.SL
structure Rec where
 i:Nat
 o:Oper
 need:List Ent
 cur:Cq
 cs:List (Bool×Bool)
 c:Cl
 Rin:List Res
 out:Out
 eff:Bool
 r:Bool
 fl:Option Nat
def Vy (ops:Array Oper) (o:Oper):List Nat:=
  (o.op.operands.toList.filterMap fun | .tmp t=>some t | _=>none) ++
  (match o.guard with
   | none=>[]
   | some (j,_)=>match (ops[j]?).bind (·.dst) with
     | some t=>[t]
     | none=>[])
def Ju (L:List Ent):List Nat->List Ent
 | []=>[]
 | t::r=>match Et L t with
  | some e=>e::(e.p.filterMap λ g=>Et L g.1)++Ju L r
  | none=>Ju L r
def Ab1:Cl->Bool
 | .call _ _ _ res _ _=>(res.ren λ _=>none).isSome
 | _=>false
def Aoa:Cl->Bool
 | .callB ..=>true
 | _=>false
def Fw (c:Cl) (o:Oper):Bool:=
 match o.op with
 | .box .. | .alloc _ | .store .. | .makeSlice ..=>false
 | .buildSlice ..=>!We c
 | .call k=>match k.callee with
  | .builtin .append | .builtin .clear | .builtin .copy=>false
  | .builtin _=>true
  | _=>Aoa c || (Anw c&&Ab1 c)
 | _=>true
def Aon (n:Nat) (o:Oper) (cur:Cq):Bool:=
 match o.dst with
 | some d=>Nat.blt d n&&cur.all (λ g=>!(Nat.beq g.1 d))
 | none=>cur.isEmpty
def qC (P : Program) (L : List Ent) (cur : Cq) (R : List Res) (c : Cl) (i : Nat) (o : Oper) : Option Out :=
 match o.op with
 | .makeSlice t l k=>match c,R[i]? with
  | .fltm _ c0 _ _,some r'=>match Kh l k,Ls P [] c0 t ((Bx L cur l).bind Cx) with
   | true,some out=>match out.R,out.c with
    | [r1],some c1=>some ⟨.d (.os i),R,some (.fltm i c1 r1 r')⟩
    | _,_=>none
   | _,_=>none
  | _,_=>none
 | .alloc t=>match (D6 P t).bind λ z=>E2 z.cells.toList,R[i]? with
  | some cells,some r'=>some ⟨.d (.o i 0),R,some (.flt i (.box t cells) r')⟩
  | _,_=>none
 | _=>none
def Rn (o:Oper) (c:Cl):Option Nat:=
 match o.op with
 | .alloc _=>match c with
  | .flt i _ _=>some i
  | _=>none
 | .makeSlice ..=>match c with
  | .fltm i _ _ _=>some i
  | _=>none
 | _=>none
def Aol (P:Program) (L:List Ent) (cur:Cq) (R:List Res) (c:Cl) (o:Oper):Option Out:=
 match Rn o c with
 | some i=>qC P L cur R c i o
 | none=>Ix P L cur R c o
def Ts (P : Program) (n : Nat) (ops : Array Oper) : List Nat -> List Ent -> List Res -> List Cl -> Option (List Rec × List Ent × List Res × List Cl)
 | [],L,R,_=>some ([],L,R,[])
 | i :: is, L, R, cls => match ops[i]? with
  | none=>none
  | some o=>
   let need:=Ju L (Vy ops o)
   match Lq ops need o with
   | none=>none
   | some cur=>
    let c:=cls.headD .nop
    match Aol P need cur R (Fr c) o,Fs need cur with
    | some out,some cs=>
     let L':=match o.dst with | some d=>Tu L d cur out.v | none=>L
     bif Aon n o cur&&Nh need cur (isR c) (Fr c) o then
      match out.c with
      | some x=>match Ts P n ops is L' out.R cls.tail with
       | some (rs,L2,R2,ks)=>some (⟨i,o,need,cur,cs,Fr c,R,out,(Rn o (Fr c)).isNone && !Fw (Fr c) o,isR c,Rn o (Fr c)⟩::rs,L2,R2,Jo cur (isR c) cs x::ks)
       | none=>none
      | none=>match Ts P n ops is L' out.R cls with
       | some (rs,L2,R2,ks)=>some (⟨i,o,need,cur,cs,Fr c,R,out,(Rn o (Fr c)).isNone && !Fw (Fr c) o,isR c,Rn o (Fr c)⟩::rs,L2,R2,ks)
       | none=>none
     else none
    | _,_=>none
def O3:List Nat->Nat->Bool
 | [],_=>false
 | a::r,t=>Nat.beq a t || O3 r t
def orE (l:List Nat):List Edge->Nat->Nat
 | [],m=>m
 | e::r,m=>orE l r (bif Region.binds .any e&&Nat.blt e.on l.length then Nat.lor m (Nat.lor (Nat.shiftLeft 1 e.on) ((l[e.on]?).getD 0)) else m)
def Np (ops:Array Oper):Nat->List Nat
 | 0=>[]
 | j+1=>
  let l:=Np ops j
  l++[match ops[j]? with
   | some o=>orE l o.after.toList 0
   | none=>0]
def Agq (m i:Nat):Bool:=Nat.beq (Nat.land (Nat.shiftRight m i) 1) 1
def Ch:List Ent->List Nat
 | []=>[]
 | e::r=>match e.v with
  | .d (.o i _)=>i::Ch r
  | .d (.os i)=>i::Ch r
  | .d (.oe i _ _ _)=>i::Ch r
  | .d (.osb i _ _ _)=>i::Ch r
  | .d (.oi i g _ _ _)=>i::g::Ch r
  | _=>Ch r
def Pu (R:List Res):List Nat->List Nat
 | []=>[]
 | i::r=>match R[i]? with
  | some (.dsl _ _ g)=>g::Pu R r
  | _=>Pu R r
def deepen (R:List Res) (l:List Nat):List Nat:=l++Pu R l
def Ke (o:Op) (L:List Ent):List Nat:=
 match o with
 | .move _ | .assign _ | .nilCheck _ | .fieldAddr .. | .extract .. | .pick .. | .build .. | .binOp .. | .unOp ..=>[]
 | _=>Ch L
def vW:List D->List Nat
 | []=>[]
 | .os j::r=>j::vW r
 | _::r=>vW r
mutual
def D.touchV (R:List Res):D->List Nat
 | .os i=>[i]
 | .osb i _ _ _=>[i]
 | .oi _ g _ _ _=>[g]
 | .o i _=>i::(match R[i]? with
  | some (.box _ cells)=>vW cells
  | _=>[])
 | .fn _ a b=>cX R a++cX R b
 | _=>[]
def cX (R:List Res):List D->List Nat
 | []=>[]
 | d::r=>D.touchV R d++cX R r
end
def AV.touchV (R:List Res):AV->List Nat
 | .d x=>x.touchV R
 | .agg ds=>cX R ds
 | .tup _=>[]
def touchV (R:List Res):List Ent->List Nat
 | []=>[]
 | e::r=>e.v.touchV R++touchV R r
def Axr (c:Cl) (R:List Res) (L:List Ent):List Nat:=bif Aoa c then touchV R L else []
def My (r:Rec):List Nat:=
 match r.fl with
 | some i=>[i]
 | none=>deepen r.Rin (Ke r.o.op r.need)++Axr r.c r.Rin r.need
def Dj (r:Rec):List Nat:=
 match r.o.op with
 | .store _ a _=>match Bx r.need r.cur a with
  | some (.d (.o i _))=>[i]
  | some (.d (.oe i _ _ _))=>i::(deepen r.Rin (Ch r.need)++touchV r.Rin r.need)
  | _=>[]
 | .call k=>match k.callee with
  | .value _=>match r.c with
   | .call _ _ _ _ _ pi=>pi
   | _=>[]
  | .builtin .append | .builtin .clear | .builtin .copy=>Ch r.need
  | _=>[]
 | _=>[]
def clear (need:List Ent) (d:Nat):Bool:=need.all λ e=>!(Nat.beq e.t d)&&e.p.all λ g=>!(Nat.beq g.1 d)
def Pm (r q:Rec):Bool:=
 (!r.eff || !q.eff) &&
 (match r.o.dst with | some d=>clear q.need d && !(q.cur.any λ g=>Nat.beq g.1 d)&&(match q.o.dst with | some d'=>!(Nat.beq d d') | none=>true) | none=>true) &&
 (match q.o.dst with | some d=>clear r.need d | none=>true) &&
 (!r.eff || (My q).all λ i=>!(O3 (Dj r) i)&&Nat.blt i r.Rin.length) &&
 (!q.eff || (My r).all λ i=>!(O3 (Dj q) i)&&Nat.blt i q.Rin.length)
def I5:List Rec->List Nat
 | []=>[]
 | r::rs=>match r.fl with
  | some i=>i::I5 rs
  | none=>I5 rs
def Ug (lo hi:Nat) (rs:List Rec):Bool:=Fa (I5 rs)&&(I5 rs).all λ i=>Nat.ble lo i&&Nat.blt i hi
def Ry (ops:Array Oper) (L0:List Ent) (rs:List Rec):Bool:=
 let cl:=Np ops ops.size
 L0.all (λ e=>e.p.isEmpty) &&
 (rs.all λ r=>r.o.after.all λ e=>!(Region.binds .any e) || Nat.blt e.on r.i) &&
 rs.all λ r=>rs.all λ q=>Nat.ble q.i r.i || (Agq ((cl[q.i]?).getD 0) r.i || Pm r q)
end Go.SL
