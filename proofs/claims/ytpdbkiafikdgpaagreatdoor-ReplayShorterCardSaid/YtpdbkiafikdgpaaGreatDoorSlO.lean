import Derived.Test.YtpdbkiafikdgpaaGreatDoorSlN
namespace Go.SL
structure Rec where
 i:Nat
 o:Oper
 need:List Ent
 cur:Cg
 cs:List (Bool×Bool)
 c:Cl
 Rin:List Res
 out:Out
 eff:Bool
 r:Bool
 fl:Option Nat
def U1 (ops:Array Oper) (o:Oper):List Nat:=
  (o.op.operands.toList.filterMap fun | .tmp t=>some t | _=>none) ++
  (match o.guard with
   | none=>[]
   | some (j,_)=>match (ops[j]?).bind (·.dst) with
     | some t=>[t]
     | none=>[])
def I7 (L:List Ent):List Nat->List Ent
 | []=>[]
 | t::r=>match D6 L t with
  | some e=>e::(e.p.filterMap λ g=>D6 L g.1)++I7 L r
  | none=>I7 L r
def Abe:Cl->Bool
 | .call _ _ _ res _ _=>(res.ren λ _=>none).isSome
 | _=>false
def Anp:Cl->Bool
 | .callB ..=>true
 | _=>false
def E6 (c:Cl) (o:Oper):Bool:=
 match o.op with
 | .box .. | .alloc _ | .store .. | .makeSlice ..=>false
 | .buildSlice ..=>!Vg c
 | .call k=>match k.callee with
  | .builtin .append | .builtin .clear | .builtin .copy=>false
  | .builtin _=>true
  | _=>Anp c || (Am9 c&&Abe c)
 | _=>true
def An5 (n:Nat) (o:Oper) (cur:Cg):Bool:=
 match o.dst with
 | some d=>Nat.blt d n&&cur.all (λ g=>!(Nat.beq g.1 d))
 | none=>cur.isEmpty
def Z_ (P : Program) (L : List Ent) (cur : Cg) (R : List Res) (c : Cl) (i : Nat) (o : Oper) : Option Out :=
 match o.op with
 | .makeSlice t l k=>match c,R[i]? with
  | .fltm _ c0 _ _,some r'=>match Jl l k,Kk P [] c0 t ((By L cur l).bind Cn) with
   | true,some out=>match out.R,out.c with
    | [r1],some c1=>some ⟨.d (.os i),R,some (.fltm i c1 r1 r')⟩
    | _,_=>none
   | _,_=>none
  | _,_=>none
 | .alloc t=>match (Dh P t).bind λ z=>Eg z.cells.toList,R[i]? with
  | some cells,some r'=>some ⟨.d (.o i 0),R,some (.flt i (.box t cells) r')⟩
  | _,_=>none
 | _=>none
def Qc (o:Oper) (c:Cl):Option Nat:=
 match o.op with
 | .alloc _=>match c with
  | .flt i _ _=>some i
  | _=>none
 | .makeSlice ..=>match c with
  | .fltm i _ _ _=>some i
  | _=>none
 | _=>none
def An0 (P:Program) (L:List Ent) (cur:Cg) (R:List Res) (c:Cl) (o:Oper):Option Out:=
 match Qc o c with
 | some i=>Z_ P L cur R c i o
 | none=>H3 P L cur R c o
def Sc (P : Program) (n : Nat) (ops : Array Oper) : List Nat -> List Ent -> List Res -> List Cl -> Option (List Rec × List Ent × List Res × List Cl)
 | [],L,R,_=>some ([],L,R,[])
 | i :: is, L, R, cls => match ops[i]? with
  | none=>none
  | some o=>
   let need:=I7 L (U1 ops o)
   match Ki ops need o with
   | none=>none
   | some cur=>
    let c:=cls.headD .nop
    match An0 P need cur R (E2 c) o,E4 need cur with
    | some out,some cs=>
     let L':=match o.dst with | some d=>Se L d cur out.v | none=>L
     bif An5 n o cur&&Ml need cur (isR c) (E2 c) o then
      match out.c with
      | some x=>match Sc P n ops is L' out.R cls.tail with
       | some (rs,L2,R2,ks)=>some (⟨i,o,need,cur,cs,E2 c,R,out,(Qc o (E2 c)).isNone && !E6 (E2 c) o,isR c,Qc o (E2 c)⟩::rs,L2,R2,I0 cur (isR c) cs x::ks)
       | none=>none
      | none=>match Sc P n ops is L' out.R cls with
       | some (rs,L2,R2,ks)=>some (⟨i,o,need,cur,cs,E2 c,R,out,(Qc o (E2 c)).isNone && !E6 (E2 c) o,isR c,Qc o (E2 c)⟩::rs,L2,R2,ks)
       | none=>none
     else none
    | _,_=>none
def Nz:List Nat->Nat->Bool
 | [],_=>false
 | a::r,t=>Nat.beq a t || Nz r t
def orE (l:List Nat):List Edge->Nat->Nat
 | [],m=>m
 | e::r,m=>orE l r (bif Region.binds .any e&&Nat.blt e.on l.length then Nat.lor m (Nat.lor (Nat.shiftLeft 1 e.on) ((l[e.on]?).getD 0)) else m)
def Mr (ops:Array Oper):Nat->List Nat
 | 0=>[]
 | j+1=>
  let l:=Mr ops j
  l++[match ops[j]? with
   | some o=>orE l o.after.toList 0
   | none=>0]
def Afj (m i:Nat):Bool:=Nat.beq (Nat.land (Nat.shiftRight m i) 1) 1
def Cc:List Ent->List Nat
 | []=>[]
 | e::r=>match e.v with
  | .d (.o i _)=>i::Cc r
  | .d (.os i)=>i::Cc r
  | .d (.oe i _ _ _)=>i::Cc r
  | .d (.osb i _ _ _)=>i::Cc r
  | .d (.oi i g _ _ _)=>i::g::Cc r
  | _=>Cc r
def Ou (R:List Res):List Nat->List Nat
 | []=>[]
 | i::r=>match R[i]? with
  | some (.dsl _ _ g)=>g::Ou R r
  | _=>Ou R r
def deepen (R:List Res) (l:List Nat):List Nat:=l++Ou R l
def Ji (o:Op) (L:List Ent):List Nat:=
 match o with
 | .move _ | .assign _ | .nilCheck _ | .fieldAddr .. | .extract .. | .pick .. | .build .. | .binOp .. | .unOp ..=>[]
 | _=>Cc L
def vC:List D->List Nat
 | []=>[]
 | .os j::r=>j::vC r
 | _::r=>vC r
mutual
def D.touchV (R:List Res):D->List Nat
 | .os i=>[i]
 | .osb i _ _ _=>[i]
 | .oi _ g _ _ _=>[g]
 | .o i _=>i::(match R[i]? with
  | some (.box _ cells)=>vC cells
  | _=>[])
 | .fn _ a b=>cZ R a++cZ R b
 | _=>[]
def cZ (R:List Res):List D->List Nat
 | []=>[]
 | d::r=>D.touchV R d++cZ R r
end
def AV.touchV (R:List Res):AV->List Nat
 | .d x=>x.touchV R
 | .agg ds=>cZ R ds
 | .tup _=>[]
def touchV (R:List Res):List Ent->List Nat
 | []=>[]
 | e::r=>e.v.touchV R++touchV R r
def Awa (c:Cl) (R:List Res) (L:List Ent):List Nat:=bif Anp c then touchV R L else []
def Lx (r:Rec):List Nat:=
 match r.fl with
 | some i=>[i]
 | none=>deepen r.Rin (Ji r.o.op r.need)++Awa r.c r.Rin r.need
def Cx (r:Rec):List Nat:=
 match r.o.op with
 | .store _ a _=>match By r.need r.cur a with
  | some (.d (.o i _))=>[i]
  | some (.d (.oe i _ _ _))=>i::(deepen r.Rin (Cc r.need)++touchV r.Rin r.need)
  | _=>[]
 | .call k=>match k.callee with
  | .value _=>match r.c with
   | .call _ _ _ _ _ pi=>pi
   | _=>[]
  | .builtin .append | .builtin .clear | .builtin .copy=>Cc r.need
  | _=>[]
 | _=>[]
def clear (need:List Ent) (d:Nat):Bool:=need.all λ e=>!(Nat.beq e.t d)&&e.p.all λ g=>!(Nat.beq g.1 d)
def Oi (r q:Rec):Bool:=
 (!r.eff || !q.eff) &&
 (match r.o.dst with | some d=>clear q.need d && !(q.cur.any λ g=>Nat.beq g.1 d)&&(match q.o.dst with | some d'=>!(Nat.beq d d') | none=>true) | none=>true) &&
 (match q.o.dst with | some d=>clear r.need d | none=>true) &&
 (!r.eff || (Lx q).all λ i=>!(Nz (Cx r) i)&&Nat.blt i r.Rin.length) &&
 (!q.eff || (Lx r).all λ i=>!(Nz (Cx q) i)&&Nat.blt i q.Rin.length)
def H_:List Rec->List Nat
 | []=>[]
 | r::rs=>match r.fl with
  | some i=>i::H_ rs
  | none=>H_ rs
def Sz (lo hi:Nat) (rs:List Rec):Bool:=D8 (H_ rs)&&(H_ rs).all λ i=>Nat.ble lo i&&Nat.blt i hi
def Qh (ops:Array Oper) (L0:List Ent) (rs:List Rec):Bool:=
 let cl:=Mr ops ops.size
 L0.all (λ e=>e.p.isEmpty) &&
 (rs.all λ r=>r.o.after.all λ e=>!(Region.binds .any e) || Nat.blt e.on r.i) &&
 rs.all λ r=>rs.all λ q=>Nat.ble q.i r.i || (Afj ((cl[q.i]?).getD 0) r.i || Oi r q)
end Go.SL
