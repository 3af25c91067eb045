import Derived.Test.YthgnbpdjncbkfaaGreatSlN
namespace Go.SL
structure Rec where
 i : Nat
 o : Oper
 need : List Ent
 cur : Cp
 cs : List (Bool × Bool)
 c : Cl
 Rin : List Res
 out : Out
 eff : Bool
 r : Bool
 fl : Option Nat
def V8 (ops : Array Oper) (o : Oper) : List Nat :=
  (o.op.operands.toList.filterMap fun | .tmp t => some t | _ => none) ++
  (match o.guard with
   | none => []
   | some (j, _) => match (ops[j]?).bind (·.dst) with
     | some t => [t]
     | none => [])
def Jk (L : List Ent) : List Nat -> List Ent
 | [] => []
 | t :: r => match Ef L t with
  | some e => e :: (e.p.filterMap λ g => Ef L g.1) ++ Jk L r
  | none => Jk L r
def Adb : Cl -> Bool
 | .call _ _ _ res _ _ => (res.ren λ _ => none).isSome
 | _ => false
def Aq3 : Cl -> Bool
 | .callB .. => true
 | _ => false
def Fh (c : Cl) (o : Oper) : Bool :=
 match o.op with
 | .box .. | .alloc _ | .store .. | .makeSlice .. => false
 | .buildSlice .. => !Wr c
 | .call k => match k.callee with
  | .builtin .append | .builtin .clear | .builtin .copy => false
  | .builtin _ => true
  | _ => Aq3 c || (Aql c && Adb c)
 | _ => true
def Ari (n : Nat) (o : Oper) (cur : Cp) : Bool :=
 match o.dst with
 | some d => Nat.blt d n && cur.all (λ g => !(Nat.beq g.1 d))
 | none => cur.isEmpty
def qX (P : Program) (L : List Ent) (cur : Cp) (R : List Res) (c : Cl) (i : Nat) (o : Oper) : Option Out :=
 match o.op with
 | .makeSlice t l k => match c, R[i]? with
  | .fltm _ c0 _ _, some r' => match J6 l k, Lb P [] c0 t ((Bz L cur l).bind Cs) with
   | true, some out => match out.R, out.c with
    | [r1], some c1 => some ⟨.d (.os i), R, some (.fltm i c1 r1 r')⟩
    | _, _ => none
   | _, _ => none
  | _, _ => none
 | .alloc t => match (Dy P t).bind λ z => Ep z.cells.toList, R[i]? with
  | some cells, some r' => some ⟨.d (.o i 0), R, some (.flt i (.box t cells) r')⟩
  | _, _ => none
 | _ => none
def Ra (o : Oper) (c : Cl) : Option Nat :=
 match o.op with
 | .alloc _ => match c with
  | .flt i _ _ => some i
  | _ => none
 | .makeSlice .. => match c with
  | .fltm i _ _ _ => some i
  | _ => none
 | _ => none
def Ard (P : Program) (L : List Ent) (cur : Cp) (R : List Res) (c : Cl) (o : Oper) : Option Out :=
 match Ra o c with
 | some i => qX P L cur R c i o
 | none => Ik P L cur R c o
def Tj (P : Program) (n : Nat) (ops : Array Oper) : List Nat -> List Ent -> List Res -> List Cl -> Option (List Rec × List Ent × List Res × List Cl)
 | [], L, R, _ => some ([], L, R, [])
 | i :: is, L, R, cls => match ops[i]? with
  | none => none
  | some o =>
   let need := Jk L (V8 ops o)
   match K_ ops need o with
   | none => none
   | some cur =>
    let c := cls.headD .nop
    match Ard P need cur R (E_ c) o, Fb need cur with
    | some out, some cs =>
     let L' := match o.dst with | some d => Tm L d cur out.v | none => L
     bif Ari n o cur && M9 need cur (isR c) (E_ c) o then
      match out.c with
      | some x => match Tj P n ops is L' out.R cls.tail with
       | some (rs, L2, R2, ks) => some (⟨i, o, need, cur, cs, E_ c, R, out, (Ra o (E_ c)).isNone && !Fh (E_ c) o, isR c, Ra o (E_ c)⟩ :: rs, L2, R2, Jf cur (isR c) cs x :: ks)
       | none => none
      | none => match Tj P n ops is L' out.R cls with
       | some (rs, L2, R2, ks) => some (⟨i, o, need, cur, cs, E_ c, R, out, (Ra o (E_ c)).isNone && !Fh (E_ c) o, isR c, Ra o (E_ c)⟩ :: rs, L2, R2, ks)
       | none => none
     else none
    | _, _ => none
def O3 : List Nat -> Nat -> Bool
 | [], _ => false
 | a :: r, t => Nat.beq a t || O3 r t
def orE (l : List Nat) : List Edge -> Nat -> Nat
 | [], m => m
 | e :: r, m => orE l r (bif Region.binds .any e && Nat.blt e.on l.length then Nat.lor m (Nat.lor (Nat.shiftLeft 1 e.on) ((l[e.on]?).getD 0)) else m)
def Ng (ops : Array Oper) : Nat -> List Nat
 | 0 => []
 | j + 1 =>
  let l := Ng ops j
  l ++ [match ops[j]? with
   | some o => orE l o.after.toList 0
   | none => 0]
def Ahe (m i : Nat) : Bool := Nat.beq (Nat.land (Nat.shiftRight m i) 1) 1
def Cg : List Ent -> List Nat
 | [] => []
 | e :: r => match e.v with
  | .d (.o i _) => i :: Cg r
  | .d (.os i) => i :: Cg r
  | .d (.oe i _ _ _) => i :: Cg r
  | .d (.osb i _ _ _) => i :: Cg r
  | .d (.oi i g _ _ _) => i :: g :: Cg r
  | _ => Cg r
def Py (R : List Res) : List Nat -> List Nat
 | [] => []
 | i :: r => match R[i]? with
  | some (.dsl _ _ g) => g :: Py R r
  | _ => Py R r
def deepen (R : List Res) (l : List Nat) : List Nat := l ++ Py R l
def J4 (o : Op) (L : List Ent) : List Nat :=
 match o with
 | .move _ | .assign _ | .nilCheck _ | .fieldAddr .. | .extract .. | .pick .. | .build .. | .binOp .. | .unOp .. => []
 | _ => Cg L
def zJ : List D -> List Nat
 | [] => []
 | .os j :: r => j :: zJ r
 | _ :: r => zJ r
mutual
def D.touchV (R : List Res) : D -> List Nat
 | .os i => [i]
 | .osb i _ _ _ => [i]
 | .oi _ g _ _ _ => [g]
 | .o i _ => i :: (match R[i]? with
  | some (.box _ cells) => zJ cells
  | _ => [])
 | .fn _ a b => D.touchVL R a ++ D.touchVL R b
 | _ => []
def D.touchVL (R : List Res) : List D -> List Nat
 | [] => []
 | d :: r => D.touchV R d ++ D.touchVL R r
end
def AV.touchV (R : List Res) : AV -> List Nat
 | .d x => x.touchV R
 | .agg ds => D.touchVL R ds
 | .tup _ => []
def touchV (R : List Res) : List Ent -> List Nat
 | [] => []
 | e :: r => e.v.touchV R ++ touchV R r
def Ay3 (c : Cl) (R : List Res) (L : List Ent) : List Nat := bif Aq3 c then touchV R L else []
def Mv (r : Rec) : List Nat :=
 match r.fl with
 | some i => [i]
 | none => deepen r.Rin (J4 r.o.op r.need) ++ Ay3 r.c r.Rin r.need
def C9 (r : Rec) : List Nat :=
 match r.o.op with
 | .store _ a _ => match Bz r.need r.cur a with
  | some (.d (.o i _)) => [i]
  | some (.d (.oe i _ _ _)) => i :: (deepen r.Rin (Cg r.need) ++ touchV r.Rin r.need)
  | _ => []
 | .call k => match k.callee with
  | .value _ => match r.c with
   | .call _ _ _ _ _ pi => pi
   | _ => []
  | .builtin .append | .builtin .clear | .builtin .copy => Cg r.need
  | _ => []
 | _ => []
def clear (need : List Ent) (d : Nat) : Bool := need.all λ e => !(Nat.beq e.t d) && e.p.all λ g => !(Nat.beq g.1 d)
def Pn (r q : Rec) : Bool :=
 (!r.eff || !q.eff) &&
 (match r.o.dst with | some d => clear q.need d && !(q.cur.any λ g => Nat.beq g.1 d) && (match q.o.dst with | some d' => !(Nat.beq d d') | none => true) | none => true) &&
 (match q.o.dst with | some d => clear r.need d | none => true) &&
 (!r.eff || (Mv q).all λ i => !(O3 (C9 r) i) && Nat.blt i r.Rin.length) &&
 (!q.eff || (Mv r).all λ i => !(O3 (C9 q) i) && Nat.blt i q.Rin.length)
def Iv : List Rec -> List Nat
 | [] => []
 | r :: rs => match r.fl with
  | some i => i :: Iv rs
  | none => Iv rs
def T8 (lo hi : Nat) (rs : List Rec) : Bool := Eh (Iv rs) && (Iv rs).all λ i => Nat.ble lo i && Nat.blt i hi
def Rh (ops : Array Oper) (L0 : List Ent) (rs : List Rec) : Bool :=
 let cl := Ng ops ops.size
 L0.all (λ e => e.p.isEmpty) &&
 (rs.all λ r => r.o.after.all λ e => !(Region.binds .any e) || Nat.blt e.on r.i) &&
 rs.all λ r => rs.all λ q => Nat.ble q.i r.i || (Ahe ((cl[q.i]?).getD 0) r.i || Pn r q)
end Go.SL
