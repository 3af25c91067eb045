import Derived.Test.YthgnbpdjncbkfaaGreatSlN
namespace Go.SL
structure Rec where
 i : Nat
 o : Oper
 need : List Ent
 cur : Ck
 cs : List (Bool × Bool)
 c : Cl
 Rin : List Res
 out : Out
 eff : Bool
 r : Bool
 fl : Option Nat
def Vz (ops : Array Oper) (o : Oper) : List Nat :=
  (o.op.operands.toList.filterMap fun | .tmp t => some t | _ => none) ++
  (match o.guard with
   | none => []
   | some (j, _) => match (ops[j]?).bind (·.dst) with
     | some t => [t]
     | none => [])
def I3 (L : List Ent) : List Nat -> List Ent
 | [] => []
 | t :: r => match D9 L t with
  | some e => e :: (e.p.filterMap λ g => D9 L g.1) ++ I3 L r
  | none => I3 L r
def Ac9 : Cl -> Bool
 | .call _ _ _ res _ _ => (res.ren λ _ => none).isSome
 | _ => false
def Apv : Cl -> Bool
 | .callB .. => true
 | _ => false
def Fd (c : Cl) (o : Oper) : Bool :=
 match o.op with
 | .box .. | .alloc _ | .store .. | .makeSlice .. => false
 | .buildSlice .. => !Wh c
 | .call k => match k.callee with
  | .builtin .append | .builtin .clear | .builtin .copy => false
  | .builtin _ => true
  | _ => Apv c || (Ape c && Ac9 c)
 | _ => true
def Ap8 (n : Nat) (o : Oper) (cur : Ck) : Bool :=
 match o.dst with
 | some d => Nat.blt d n && cur.all (λ g => !(Nat.beq g.1 d))
 | none => cur.isEmpty
def qT (P : Program) (L : List Ent) (cur : Ck) (R : List Res) (c : Cl) (i : Nat) (o : Oper) : Option Out :=
 match o.op with
 | .makeSlice t l k => match c, R[i]? with
  | .fltm _ c0 _ _, some r' => match Jm l k, Kq P [] c0 t ((B0 L cur l).bind Cq) with
   | true, some out => match out.R, out.c with
    | [r1], some c1 => some ⟨.d (.os i), R, some (.fltm i c1 r1 r')⟩
    | _, _ => none
   | _, _ => none
  | _, _ => none
 | .alloc t => match (Du P t).bind λ z => El z.cells.toList, R[i]? with
  | some cells, some r' => some ⟨.d (.o i 0), R, some (.flt i (.box t cells) r')⟩
  | _, _ => none
 | _ => none
def Q9 (o : Oper) (c : Cl) : Option Nat :=
 match o.op with
 | .alloc _ => match c with
  | .flt i _ _ => some i
  | _ => none
 | .makeSlice .. => match c with
  | .fltm i _ _ _ => some i
  | _ => none
 | _ => none
def Ap4 (P : Program) (L : List Ent) (cur : Ck) (R : List Res) (c : Cl) (o : Oper) : Option Out :=
 match Q9 o c with
 | some i => qT P L cur R c i o
 | none => H_ P L cur R c o
def Td (P : Program) (n : Nat) (ops : Array Oper) : List Nat -> List Ent -> List Res -> List Cl -> Option (List Rec × List Ent × List Res × List Cl)
 | [], L, R, _ => some ([], L, R, [])
 | i :: is, L, R, cls => match ops[i]? with
  | none => none
  | some o =>
   let need := I3 L (Vz ops o)
   match Ko ops need o with
   | none => none
   | some cur =>
    let c := cls.headD .nop
    match Ap4 P need cur R (E8 c) o, E9 need cur with
    | some out, some cs =>
     let L' := match o.dst with | some d => Tf L d cur out.v | none => L
     bif Ap8 n o cur && Mm need cur (isR c) (E8 c) o then
      match out.c with
      | some x => match Td P n ops is L' out.R cls.tail with
       | some (rs, L2, R2, ks) => some (⟨i, o, need, cur, cs, E8 c, R, out, (Q9 o (E8 c)).isNone && !Fd (E8 c) o, isR c, Q9 o (E8 c)⟩ :: rs, L2, R2, Iy cur (isR c) cs x :: ks)
       | none => none
      | none => match Td P n ops is L' out.R cls with
       | some (rs, L2, R2, ks) => some (⟨i, o, need, cur, cs, E8 c, R, out, (Q9 o (E8 c)).isNone && !Fd (E8 c) o, isR c, Q9 o (E8 c)⟩ :: rs, L2, R2, ks)
       | none => none
     else none
    | _, _ => none
def Ol : List Nat -> Nat -> Bool
 | [], _ => false
 | a :: r, t => Nat.beq a t || Ol r t
def orE (l : List Nat) : List Edge -> Nat -> Nat
 | [], m => m
 | e :: r, m => orE l r (bif Region.binds .any e && Nat.blt e.on l.length then Nat.lor m (Nat.lor (Nat.shiftLeft 1 e.on) ((l[e.on]?).getD 0)) else m)
def Mt (ops : Array Oper) : Nat -> List Nat
 | 0 => []
 | j + 1 =>
  let l := Mt ops j
  l ++ [match ops[j]? with
   | some o => orE l o.after.toList 0
   | none => 0]
def Agv (m i : Nat) : Bool := Nat.beq (Nat.land (Nat.shiftRight m i) 1) 1
def Cd : List Ent -> List Nat
 | [] => []
 | e :: r => match e.v with
  | .d (.o i _) => i :: Cd r
  | .d (.os i) => i :: Cd r
  | .d (.oe i _ _ _) => i :: Cd r
  | .d (.osb i _ _ _) => i :: Cd r
  | .d (.oi i g _ _ _) => i :: g :: Cd r
  | _ => Cd r
def Pg (R : List Res) : List Nat -> List Nat
 | [] => []
 | i :: r => match R[i]? with
  | some (.dsl _ _ g) => g :: Pg R r
  | _ => Pg R r
def deepen (R : List Res) (l : List Nat) : List Nat := l ++ Pg R l
def Jk (o : Op) (L : List Ent) : List Nat :=
 match o with
 | .move _ | .assign _ | .nilCheck _ | .fieldAddr .. | .extract .. | .pick .. | .build .. | .binOp .. | .unOp .. => []
 | _ => Cd L
def zT : List D -> List Nat
 | [] => []
 | .os j :: r => j :: zT r
 | _ :: r => zT r
mutual
def D.touchV (R : List Res) : D -> List Nat
 | .os i => [i]
 | .osb i _ _ _ => [i]
 | .oi _ g _ _ _ => [g]
 | .o i _ => i :: (match R[i]? with
  | some (.box _ cells) => zT cells
  | _ => [])
 | .fn _ a b => D.touchVL R a ++ D.touchVL R b
 | _ => []
def D.touchVL (R : List Res) : List D -> List Nat
 | [] => []
 | d :: r => D.touchV R d ++ D.touchVL R r
end
def AV.touchV (R : List Res) : AV -> List Nat
 | .d x => x.touchV R
 | .agg ds => D.touchVL R ds
 | .tup _ => []
def touchV (R : List Res) : List Ent -> List Nat
 | [] => []
 | e :: r => e.v.touchV R ++ touchV R r
def Aw0 (c : Cl) (R : List Res) (L : List Ent) : List Nat := bif Apv c then touchV R L else []
def L8 (r : Rec) : List Nat :=
 match r.fl with
 | some i => [i]
 | none => deepen r.Rin (Jk r.o.op r.need) ++ Aw0 r.c r.Rin r.need
def C5 (r : Rec) : List Nat :=
 match r.o.op with
 | .store _ a _ => match B0 r.need r.cur a with
  | some (.d (.o i _)) => [i]
  | some (.d (.oe i _ _ _)) => i :: (deepen r.Rin (Cd r.need) ++ touchV r.Rin r.need)
  | _ => []
 | .call k => match k.callee with
  | .value _ => match r.c with
   | .call _ _ _ _ _ pi => pi
   | _ => []
  | .builtin .append | .builtin .clear | .builtin .copy => Cd r.need
  | _ => []
 | _ => []
def clear (need : List Ent) (d : Nat) : Bool := need.all λ e => !(Nat.beq e.t d) && e.p.all λ g => !(Nat.beq g.1 d)
def O5 (r q : Rec) : Bool :=
 (!r.eff || !q.eff) &&
 (match r.o.dst with | some d => clear q.need d && !(q.cur.any λ g => Nat.beq g.1 d) && (match q.o.dst with | some d' => !(Nat.beq d d') | none => true) | none => true) &&
 (match q.o.dst with | some d => clear r.need d | none => true) &&
 (!r.eff || (L8 q).all λ i => !(Ol (C5 r) i) && Nat.blt i r.Rin.length) &&
 (!q.eff || (L8 r).all λ i => !(Ol (C5 q) i) && Nat.blt i q.Rin.length)
def Ie : List Rec -> List Nat
 | [] => []
 | r :: rs => match r.fl with
  | some i => i :: Ie rs
  | none => Ie rs
def Tz (lo hi : Nat) (rs : List Rec) : Bool := Ec (Ie rs) && (Ie rs).all λ i => Nat.ble lo i && Nat.blt i hi
def Rg (ops : Array Oper) (L0 : List Ent) (rs : List Rec) : Bool :=
 let cl := Mt ops ops.size
 L0.all (λ e => e.p.isEmpty) &&
 (rs.all λ r => r.o.after.all λ e => !(Region.binds .any e) || Nat.blt e.on r.i) &&
 rs.all λ r => rs.all λ q => Nat.ble q.i r.i || (Agv ((cl[q.i]?).getD 0) r.i || O5 r q)
end Go.SL
