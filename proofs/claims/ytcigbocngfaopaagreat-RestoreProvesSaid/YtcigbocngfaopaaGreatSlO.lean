import Derived.Test.YtcigbocngfaopaaGreatSlN
namespace Go.SL
structure Rec where
 i : Nat
 o : Oper
 need : List Ent
 cur : B5
 cs : List (Bool × Bool)
 c : Cl
 Rin : List Res
 out : Out
 eff : Bool
 r : Bool
 fl : Option Nat
def Qu (ops : Array Oper) (o : Oper) : List Nat :=
  (o.op.operands.toList.filterMap fun | .tmp t => some t | _ => none) ++
  (match o.guard with
   | none => []
   | some (j, _) => match (ops[j]?).bind (·.dst) with
     | some t => [t]
     | none => [])
def Hf (L : List Ent) : List Nat -> List Ent
 | [] => []
 | t :: r => match Dk L t with
  | some e => e :: (e.p.filterMap λ g => Dk L g.1) ++ Hf L r
  | none => Hf L r
def jN : Cl -> Bool
 | .call _ _ _ res _ _ => (res.ren λ _ => none).isSome
 | _ => false
def Ah3 : Cl -> Bool
 | .callB .. => true
 | _ => false
def Em (c : Cl) (o : Oper) : Bool :=
 match o.op with
 | .box .. | .alloc _ | .store .. | .makeSlice .. => false
 | .buildSlice .. => !Q_ c
 | .call k => match k.callee with
  | .builtin .append | .builtin .clear | .builtin .copy => false
  | .builtin _ => true
  | _ => Ah3 c || (Ahk c && jN c)
 | _ => true
def Aif (n : Nat) (o : Oper) (cur : B5) : Bool :=
 match o.dst with
 | some d => Nat.blt d n && cur.all (λ g => !(Nat.beq g.1 d))
 | none => cur.isEmpty
def Vv (P : Program) (L : List Ent) (cur : B5) (R : List Res) (c : Cl) (i : Nat) (o : Oper) : Option Out :=
 match o.op with
 | .makeSlice t l k => match c, R[i]? with
  | .fltm _ c0 _ _, some r' => match Hy l k, I6 P [] c0 t ((Bg L cur l).bind B_) with
   | true, some out => match out.R, out.c with
    | [r1], some c1 => some ⟨.d (.os i), R, some (.fltm i c1 r1 r')⟩
    | _, _ => none
   | _, _ => none
  | _, _ => none
 | .alloc t => match (C4 P t).bind λ z => Ds z.cells.toList, R[i]? with
  | some cells, some r' => some ⟨.d (.o i 0), R, some (.flt i (.box t cells) r')⟩
  | _, _ => none
 | _ => none
def Np (o : Oper) (c : Cl) : Option Nat :=
 match o.op with
 | .alloc _ => match c with
  | .flt i _ _ => some i
  | _ => none
 | .makeSlice .. => match c with
  | .fltm i _ _ _ => some i
  | _ => none
 | _ => none
def Aid (P : Program) (L : List Ent) (cur : B5) (R : List Res) (c : Cl) (o : Oper) : Option Out :=
 match Np o c with
 | some i => Vv P L cur R c i o
 | none => Gr P L cur R c o
def O_ (P : Program) (n : Nat) (ops : Array Oper) : List Nat -> List Ent -> List Res -> List Cl -> Option (List Rec × List Ent × List Res × List Cl)
 | [], L, R, _ => some ([], L, R, [])
 | i :: is, L, R, cls => match ops[i]? with
  | none => none
  | some o =>
   let need := Hf L (Qu ops o)
   match I4 ops need o with
   | none => none
   | some cur =>
    let c := cls.headD .nop
    match Aid P need cur R (Ee c) o, Eg need cur with
    | some out, some cs =>
     let L' := match o.dst with | some d => Pc L d cur out.v | none => L
     bif Aif n o cur && Kj need cur (isR c) (Ee c) o then
      match out.c with
      | some x => match O_ P n ops is L' out.R cls.tail with
       | some (rs, L2, R2, ks) => some (⟨i, o, need, cur, cs, Ee c, R, out, (Np o (Ee c)).isNone && !Em (Ee c) o, isR c, Np o (Ee c)⟩ :: rs, L2, R2, Hb cur (isR c) cs x :: ks)
       | none => none
      | none => match O_ P n ops is L' out.R cls with
       | some (rs, L2, R2, ks) => some (⟨i, o, need, cur, cs, Ee c, R, out, (Np o (Ee c)).isNone && !Em (Ee c) o, isR c, Np o (Ee c)⟩ :: rs, L2, R2, ks)
       | none => none
     else none
    | _, _ => none
def Ll : List Nat -> Nat -> Bool
 | [], _ => false
 | a :: r, t => Nat.beq a t || Ll r t
def orE (l : List Nat) : List Edge -> Nat -> Nat
 | [], m => m
 | e :: r, m => orE l r (bif Region.binds .any e && Nat.blt e.on l.length then Nat.lor m (Nat.lor (Nat.shiftLeft 1 e.on) ((l[e.on]?).getD 0)) else m)
def Km (ops : Array Oper) : Nat -> List Nat
 | 0 => []
 | j + 1 =>
  let l := Km ops j
  l ++ [match ops[j]? with
   | some o => orE l o.after.toList 0
   | none => 0]
def zZ (m i : Nat) : Bool := Nat.beq (Nat.land (Nat.shiftRight m i) 1) 1
def By : List Ent -> List Nat
 | [] => []
 | e :: r => match e.v with
  | .d (.o i _) => i :: By r
  | .d (.os i) => i :: By r
  | .d (.oe i _ _ _) => i :: By r
  | .d (.osb i _ _ _) => i :: By r
  | .d (.oi i g _ _ _) => i :: g :: By r
  | _ => By r
def Ma (R : List Res) : List Nat -> List Nat
 | [] => []
 | i :: r => match R[i]? with
  | some (.dsl _ _ g) => g :: Ma R r
  | _ => Ma R r
def deepen (R : List Res) (l : List Nat) : List Nat := l ++ Ma R l
def Hx (o : Op) (L : List Ent) : List Nat :=
 match o with
 | .move _ | .assign _ | .nilCheck _ | .fieldAddr .. | .extract .. | .pick .. | .build .. | .binOp .. | .unOp .. => []
 | _ => By L
def Xr : List D -> List Nat
 | [] => []
 | .os j :: r => j :: Xr r
 | _ :: r => Xr r
mutual
def D.touchV (R : List Res) : D -> List Nat
 | .os i => [i]
 | .osb i _ _ _ => [i]
 | .oi _ g _ _ _ => [g]
 | .o i _ => i :: (match R[i]? with
  | some (.box _ cells) => Xr cells
  | _ => [])
 | .fn _ a b => cx R a ++ cx R b
 | _ => []
def cx (R : List Res) : List D -> List Nat
 | [] => []
 | d :: r => D.touchV R d ++ cx R r
end
def AV.touchV (R : List Res) : AV -> List Nat
 | .d x => x.touchV R
 | .agg ds => cx R ds
 | .tup _ => []
def touchV (R : List Res) : List Ent -> List Nat
 | [] => []
 | e :: r => e.v.touchV R ++ touchV R r
def Aq8 (c : Cl) (R : List Res) (L : List Ent) : List Nat := bif Ah3 c then touchV R L else []
def J5 (r : Rec) : List Nat :=
 match r.fl with
 | some i => [i]
 | none => deepen r.Rin (Hx r.o.op r.need) ++ Aq8 r.c r.Rin r.need
def Ci (r : Rec) : List Nat :=
 match r.o.op with
 | .store _ a _ => match Bg r.need r.cur a with
  | some (.d (.o i _)) => [i]
  | some (.d (.oe i _ _ _)) => i :: (deepen r.Rin (By r.need) ++ touchV r.Rin r.need)
  | _ => []
 | .call k => match k.callee with
  | .value _ => match r.c with
   | .call _ _ _ _ _ pi => pi
   | _ => []
  | .builtin .append | .builtin .clear | .builtin .copy => By r.need
  | _ => []
 | _ => []
def clear (need : List Ent) (d : Nat) : Bool := need.all λ e => !(Nat.beq e.t d) && e.p.all λ g => !(Nat.beq g.1 d)
def L5 (r q : Rec) : Bool :=
 (!r.eff || !q.eff) &&
 (match r.o.dst with | some d => clear q.need d && !(q.cur.any λ g => Nat.beq g.1 d) && (match q.o.dst with | some d' => !(Nat.beq d d') | none => true) | none => true) &&
 (match q.o.dst with | some d => clear r.need d | none => true) &&
 (!r.eff || (J5 q).all λ i => !(Ll (Ci r) i) && Nat.blt i r.Rin.length) &&
 (!q.eff || (J5 r).all λ i => !(Ll (Ci q) i) && Nat.blt i q.Rin.length)
def Gz : List Rec -> List Nat
 | [] => []
 | r :: rs => match r.fl with
  | some i => i :: Gz rs
  | none => Gz rs
def Pv (lo hi : Nat) (rs : List Rec) : Bool := Dz (Gz rs) && (Gz rs).all λ i => Nat.ble lo i && Nat.blt i hi
def Nw (ops : Array Oper) (L0 : List Ent) (rs : List Rec) : Bool :=
 let cl := Km ops ops.size
 L0.all (λ e => e.p.isEmpty) &&
 (rs.all λ r => r.o.after.all λ e => !(Region.binds .any e) || Nat.blt e.on r.i) &&
 rs.all λ r => rs.all λ q => Nat.ble q.i r.i || (zZ ((cl[q.i]?).getD 0) r.i || L5 r q)
end Go.SL
